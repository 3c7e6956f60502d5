/- Chapter 27: C7. Printed by my program wip/tools/wk.py. -/
import Derived.Test.YtlgkjpmaekkpjaaC6
import Derived.Test.YtlgkjpmaekkpjaaMath3
set_option linter.unusedVariables false
set_option linter.unusedSimpArgs false
set_option maxRecDepth 4000
set_option maxHeartbeats 1000000
namespace Go.Proofs.Ytlgkjpmaekkpjaa
open Go.XK Go.RowKit
/-- masterdisc/masterdiscref27.Decode (function 14) -/
theorem rdecode_c (s : List UInt8) (w : World) : CallR Try.prog 14 [.string (B s)] w (fun v w' => ∃ (vs : Value) (e : Int) (o : List Img), v = .tuple #[vs, .int .i64 e] ∧ decR s = (o, e) ∧ Go.XK.Own w' w.heap.size 34 6 Img.enc vs o ∧ Ext w w') := by
  refine callR_of (n := 122) [(0, .string (B s))] Try.func14 rfl rfl (Nat.le_of_ble_eq_true rfl) rfl ?_
  refine sc_seq ?_
  refine sc_reg ?_
  refine Go.XK.s (v := .slice none 0 0) (e_assign rfl) ?_
  refine Go.XK.s (v := .int .i64 0) (e_assign rfl) ?_
  refine sl_nil (nrm_k ?_)
  refine sc_seq ?_
  refine sc_seq ?_
  refine sc_reg ?_
  refine Go.XK.s (v := .string (B s)) (e_move rfl) ?_
  refine Go.XK.s (v := .int .i64 (s.length : Int)) (e_slen Try.underlying9 rfl) ?_
  refine Go.XK.s (v := .bool (decide ((s.length : Int) ≠ 2048))) (e_ne rfl rfl) ?_
  refine sl_nil (nrm_k ?_)
  refine sc_ifd rfl (fun c17 => ?_) (fun c17 => ?_)
  ·
    refine sc_seq ?_
    refine sc_reg ?_
    refine Go.XK.s (v := .slice none 0 0) (e_assign rfl) ?_
    refine Go.XK.s (v := .int .i64 1) (e_assign rfl) ?_
    refine sl_nil (nrm_k ?_)
    refine sc_retf rfl (ret2 Try.results14 (rvt rfl) (rvt rfl) ?_)
    exact ⟨_, _, _, rfl, decR_size (by omega), Go.XK.Own.nil _ _ _ _ _, (Ext.rfl' w)⟩
  ·
    have hs : s.length = 2048 := by omega
    refine sc_skip (nrm_k ?_)
    refine sc_seq ?_
    refine sc_seq ?_
    refine sc_reg ?_
    refine Go.XK.s (v := .string (B s)) (e_move rfl) ?_
    refine Go.XK.s (v := .int .u8 ((at_ s 0).toNat)) (e_sat Try.underlying9 rfl rfl (by decide) (by omega)) ?_
    refine Go.XK.s (v := .bool (decide ((at_ s 0) ≠ (1 : UInt8)))) (e_bne (a := (at_ s 0)) (b := 1) rfl rfl) ?_
    refine Go.XK.s (v := .bool (decide ((at_ s 0) ≠ (1 : UInt8)))) (e_move rfl) ?_
    refine sl_merge 4 25 (.bool ((decide ((at_ s 0) ≠ (1 : UInt8))) || (decide ((at_ s 30) ≠ (85 : UInt8))))) ?_ ?_
    · refine sl_case (t := 21) rfl (fun g3_3 => ?_) (fun g3_3 => ?_)
      ·
        refine sl_gskip rfl rfl g3_3 (by decide) ?_
        refine sl_gskip rfl rfl g3_3 (by decide) ?_
        refine sl_gskip rfl rfl g3_3 (by decide) ?_
        refine Go.XK.s (v := .bool true) (e_pickT rfl g3_3 rfl) ?_
        exact sl_nil (fun a ha => ⟨rfl, ha.sub (.cons (by rw [g3_3]; rfl) (sub_self_cons (sub_self_cons (sub_self_cons (sub_self_cons (Sub.refl _) rfl) rfl) rfl) rfl))⟩)
      ·
        refine sl_gev (v := .string (B s)) rfl rfl g3_3 (e_move rfl) rfl (by decide) ?_
        refine sl_gev (v := .int .u8 ((at_ s 30).toNat)) rfl rfl g3_3 (e_sat Try.underlying9 rfl rfl (by decide) (by omega)) rfl (by decide) ?_
        refine sl_gev (v := .bool (decide ((at_ s 30) ≠ (85 : UInt8)))) rfl rfl g3_3 (e_bne (a := (at_ s 30)) (b := 85) rfl rfl) rfl (by decide) ?_
        refine Go.XK.s (v := .bool (decide ((at_ s 30) ≠ (85 : UInt8)))) (e_pickF rfl g3_3 rfl) ?_
        exact sl_nil (fun a ha => ⟨rfl, ha.sub (.cons (by rw [g3_3]; rfl) (sub_self_cons (sub_self_cons (sub_self_cons (sub_self_cons (Sub.refl _) rfl) rfl) rfl) rfl))⟩)
    refine Go.XK.s (v := .bool ((decide ((at_ s 0) ≠ (1 : UInt8))) || (decide ((at_ s 30) ≠ (85 : UInt8))))) (e_move rfl) ?_
    refine sl_merge 4 30 (.bool (((decide ((at_ s 0) ≠ (1 : UInt8))) || (decide ((at_ s 30) ≠ (85 : UInt8)))) || (decide ((at_ s 31) ≠ (170 : UInt8))))) ?_ ?_
    · refine sl_case (t := 26) rfl (fun g3_8 => ?_) (fun g3_8 => ?_)
      ·
        refine sl_gskip rfl rfl g3_8 (by decide) ?_
        refine sl_gskip rfl rfl g3_8 (by decide) ?_
        refine sl_gskip rfl rfl g3_8 (by decide) ?_
        refine Go.XK.s (v := .bool true) (e_pickT rfl g3_8 rfl) ?_
        exact sl_nil (fun a ha => ⟨rfl, ha.sub (.cons (by rw [g3_8]; rfl) (sub_self_cons (sub_self_cons (sub_self_cons (sub_self_cons (Sub.refl _) rfl) rfl) rfl) rfl))⟩)
      ·
        refine sl_gev (v := .string (B s)) rfl rfl g3_8 (e_move rfl) rfl (by decide) ?_
        refine sl_gev (v := .int .u8 ((at_ s 31).toNat)) rfl rfl g3_8 (e_sat Try.underlying9 rfl rfl (by decide) (by omega)) rfl (by decide) ?_
        refine sl_gev (v := .bool (decide ((at_ s 31) ≠ (170 : UInt8)))) rfl rfl g3_8 (e_bne (a := (at_ s 31)) (b := 170) rfl rfl) rfl (by decide) ?_
        refine Go.XK.s (v := .bool (decide ((at_ s 31) ≠ (170 : UInt8)))) (e_pickF rfl g3_8 rfl) ?_
        exact sl_nil (fun a ha => ⟨rfl, ha.sub (.cons (by rw [g3_8]; rfl) (sub_self_cons (sub_self_cons (sub_self_cons (sub_self_cons (Sub.refl _) rfl) rfl) rfl) rfl))⟩)
    refine Go.XK.s (v := .bool (((decide ((at_ s 0) ≠ (1 : UInt8))) || (decide ((at_ s 30) ≠ (85 : UInt8)))) || (decide ((at_ s 31) ≠ (170 : UInt8))))) (e_move rfl) ?_
    refine sl_mergeW 5 36 (.bool ((((decide ((at_ s 0) ≠ (1 : UInt8))) || (decide ((at_ s 30) ≠ (85 : UInt8)))) || (decide ((at_ s 31) ≠ (170 : UInt8)))) || (decide (wsum 0 ((s.take 32).drop 0) ≠ 0)))) (fun w_ => Ext w w_) ?_ (fun w1 hw1 => ?_)
    · refine sl_case (t := 31) rfl (fun g3_13 => ?_) (fun g3_13 => ?_)
      ·
        refine sl_gskip rfl rfl g3_13 (by decide) ?_
        refine sl_gskip rfl rfl g3_13 (by decide) ?_
        refine sl_gskip rfl rfl g3_13 (by decide) ?_
        refine sl_gskip rfl rfl g3_13 (by decide) ?_
        refine Go.XK.s (v := .bool true) (e_pickT rfl g3_13 rfl) ?_
        exact sl_nil (fun a ha => ⟨(Ext.rfl' w), ha.sub (.cons (by rw [g3_13]; rfl) (sub_self_cons (sub_self_cons (sub_self_cons (sub_self_cons (sub_self_cons (Sub.refl _) rfl) rfl) rfl) rfl) rfl))⟩)
      ·
        refine sl_gev (v := .string (B s)) rfl rfl g3_13 (e_move rfl) rfl (by decide) ?_
        refine sl_gev (v := .string (B ((s.take 32).drop 0))) rfl rfl g3_13 (e_sslice (lo := 0) (hi := 32) Try.underlying9 rfl Bd.no (Bd.at_ rfl rfl) (by omega) (by omega)) rfl (by decide) ?_
        refine sl_gcall rfl rfl g3_13 ent17 rfl rfl (rsum_c _ w (by simp; omega)) (by decide) ?_
        rintro _ w2 ⟨rfl, hw2⟩
        have xw_w2 : Ext w w2 := Ext.tr (Ext.rfl' w) hw2
        refine sl_gev (v := .bool (decide (wsum 0 ((s.take 32).drop 0) ≠ 0))) rfl rfl g3_13 (e_ne rfl rfl) rfl (by decide) ?_
        refine Go.XK.s (v := .bool (decide (wsum 0 ((s.take 32).drop 0) ≠ 0))) (e_pickF rfl g3_13 rfl) ?_
        exact sl_nil (fun a ha => ⟨xw_w2, ha.sub (.cons (by rw [g3_13]; rfl) (sub_self_cons (sub_self_cons (sub_self_cons (sub_self_cons (sub_self_cons (Sub.refl _) rfl) rfl) rfl) rfl) rfl))⟩)
    have xw_w1 : Ext w w1 := Ext.tr (Ext.rfl' w) hw1
    refine sl_nil (nrm_k ?_)
    refine sc_if rfl (fun c36 => ?_) (fun c36 => ?_)
    ·
      change keyB s = true at c36
      refine sc_seq ?_
      refine sc_reg ?_
      refine Go.XK.s (v := .slice none 0 0) (e_assign rfl) ?_
      refine Go.XK.s (v := .int .i64 10) (e_assign rfl) ?_
      refine sl_nil (nrm_k ?_)
      refine sc_retf rfl (ret2 Try.results14 (rvt rfl) (rvt rfl) ?_)
      exact ⟨_, _, _, rfl, decR_key hs c36, Go.XK.Own.nil _ _ _ _ _, xw_w1⟩
    ·
      change keyB s = false at c36
      refine sc_skip (nrm_k ?_)
      refine sc_seq ?_
      refine sc_seq ?_
      refine sc_reg ?_
      refine Go.XK.s (v := .string (B s)) (e_move rfl) ?_
      refine Go.XK.s (v := .int .u8 ((at_ s 1).toNat)) (e_sat Try.underlying9 rfl rfl (by decide) (by omega)) ?_
      refine Go.XK.s (v := .int .i64 ((at_ s 1).toNat : Int)) (e_u8int (c := at_ s 1) Try.underlying5 Try.underlying3 (by decide) rfl) ?_
      refine sl_call ent36 rfl rfl (rplat_c _ w1) (by decide) ?_
      rintro _ w3 ⟨rfl, hw3⟩
      have xw_w3 : Ext w w3 := Ext.tr xw_w1 hw3
      refine Go.XK.s (v := .bool (!(plat ((at_ s 1).toNat : Int)))) (e_not rfl) ?_
      refine sl_nil (nrm_k ?_)
      refine sc_if rfl (fun c41 => ?_) (fun c41 => ?_)
      ·
        have hpl : plat (at_ s 1).toNat = false := by simpa using c41
        refine sc_seq ?_
        refine sc_reg ?_
        refine Go.XK.s (v := .slice none 0 0) (e_assign rfl) ?_
        refine Go.XK.s (v := .int .i64 14) (e_assign rfl) ?_
        refine sl_nil (nrm_k ?_)
        refine sc_retf rfl (ret2 Try.results14 (rvt rfl) (rvt rfl) ?_)
        exact ⟨_, _, _, rfl, decR_plat hs c36 hpl, Go.XK.Own.nil _ _ _ _ _, xw_w3⟩
      ·
        have hpl : plat (at_ s 1).toNat = true := by simpa using c41
        refine sc_skip (nrm_k ?_)
        refine sc_seq ?_
        refine sc_late [(41, .bool (!(plat ((at_ s 1).toNat : Int)))), (40, .bool (plat ((at_ s 1).toNat : Int))), (39, .int .i64 ((at_ s 1).toNat : Int)), (38, .int .u8 ((at_ s 1).toNat)), (37, .string (B s)), (36, .bool ((((decide ((at_ s 0) ≠ (1 : UInt8))) || (decide ((at_ s 30) ≠ (85 : UInt8)))) || (decide ((at_ s 31) ≠ (170 : UInt8)))) || (decide (wsum 0 ((s.take 32).drop 0) ≠ 0)))), (31, .bool (((decide ((at_ s 0) ≠ (1 : UInt8))) || (decide ((at_ s 30) ≠ (85 : UInt8)))) || (decide ((at_ s 31) ≠ (170 : UInt8))))), (30, .bool (((decide ((at_ s 0) ≠ (1 : UInt8))) || (decide ((at_ s 30) ≠ (85 : UInt8)))) || (decide ((at_ s 31) ≠ (170 : UInt8))))), (26, .bool ((decide ((at_ s 0) ≠ (1 : UInt8))) || (decide ((at_ s 30) ≠ (85 : UInt8))))), (25, .bool ((decide ((at_ s 0) ≠ (1 : UInt8))) || (decide ((at_ s 30) ≠ (85 : UInt8))))), (21, .bool (decide ((at_ s 0) ≠ (1 : UInt8)))), (20, .bool (decide ((at_ s 0) ≠ (1 : UInt8)))), (19, .int .u8 ((at_ s 0).toNat)), (18, .string (B s)), (17, .bool (decide ((s.length : Int) ≠ 2048))), (16, .int .i64 (s.length : Int)), (15, .string (B s)), (3, .int .i64 0), (2, .slice none 0 0), (0, .string (B s))] [43, 44, 45, 46, 47, 48, 42, 49, 50, 4] [(Is (.string (B s))), (Is (.string (B (sub s 32 32)))), (Is (.string (B s))), (Is (.int .u8 ((at_ s 1).toNat))), (Is (.int .i64 ((at_ s 1).toNat : Int))), (Is (.tuple #[.agg #[.int .i64 ((readR (sub s 32 32) ((at_ s 1).toNat : Int)).1.P), .int .i64 ((readR (sub s 32 32) ((at_ s 1).toNat : Int)).1.M), .int .i64 ((readR (sub s 32 32) ((at_ s 1).toNat : Int)).1.S), .int .i64 ((readR (sub s 32 32) ((at_ s 1).toNat : Int)).1.C), .int .i64 ((readR (sub s 32 32) ((at_ s 1).toNat : Int)).1.L), .bool ((readR (sub s 32 32) ((at_ s 1).toNat : Int)).1.b)], .int .i64 ((readR (sub s 32 32) ((at_ s 1).toNat : Int)).2)])), (Is (.tuple #[.agg #[.int .i64 ((readR (sub s 32 32) ((at_ s 1).toNat : Int)).1.P), .int .i64 ((readR (sub s 32 32) ((at_ s 1).toNat : Int)).1.M), .int .i64 ((readR (sub s 32 32) ((at_ s 1).toNat : Int)).1.S), .int .i64 ((readR (sub s 32 32) ((at_ s 1).toNat : Int)).1.C), .int .i64 ((readR (sub s 32 32) ((at_ s 1).toNat : Int)).1.L), .bool ((readR (sub s 32 32) ((at_ s 1).toNat : Int)).1.b)], .int .i64 ((readR (sub s 32 32) ((at_ s 1).toNat : Int)).2)])), (Is (.agg #[.int .i64 ((readR (sub s 32 32) ((at_ s 1).toNat : Int)).1.P), .int .i64 ((readR (sub s 32 32) ((at_ s 1).toNat : Int)).1.M), .int .i64 ((readR (sub s 32 32) ((at_ s 1).toNat : Int)).1.S), .int .i64 ((readR (sub s 32 32) ((at_ s 1).toNat : Int)).1.C), .int .i64 ((readR (sub s 32 32) ((at_ s 1).toNat : Int)).1.L), .bool ((readR (sub s 32 32) ((at_ s 1).toNat : Int)).1.b)])), (Is (.int .i64 ((readR (sub s 32 32) ((at_ s 1).toNat : Int)).2))), (fun VV WV => ∃ b_, VV = Value.pointer (some ⟨b_, 0, none⟩) ∧ Blk WV b_ 34 [.int .i64 0, .int .i64 0, .int .i64 0, .int .i64 0, .int .i64 0, .bool false] ∧ w3.heap.size ≤ b_)] [10, 11] [0, 1, 2, 3, 4, 5, 6, 7, 9] [8] (by kernel_rfl) (Sub.refl _) (by kernel_rfl) (by kernel_rfl) (by kernel_rfl) (by kernel_rfl) rfl (by kernel_rfl) (ds_ext (Stays.spec (.is _ (.is _ (.is _ (.is _ (.is _ (.is _ (.is _ (.is _ (.is _ (.any (fun _ _ _ ⟨b_, e_, h_, g_⟩ hx_ => ⟨b_, e_, h_.ext hx_, g_⟩) (.nil))))))))))))) ⟨?_, ?_, ?_, ?_, ?_, ?_, ?_, ?_, ?_, trivial⟩ ⟨?_, trivial⟩ ?_
        · intro Q act_ wI hxI ha hp
          have xw_wI : Ext w wI := Ext.tr xw_w3 hxI
          exact h_evA (v := .string (B s)) ha rfl (e_move rfl) rfl rfl (Ext.rfl' _)
        · intro Q act_ wI hxI ha hp
          have xw_wI : Ext w wI := Ext.tr xw_w3 hxI
          have ha := ha.add (show act_.tmps.getD 43 undef = .string (B s) from hp 0 (by kernel_rfl) (by decide))
          exact h_evA (v := .string (B (sub s 32 32))) ha rfl (e_ssub 32 Try.underlying9 rfl rfl rfl (by decide) (by omega)) rfl rfl (Ext.rfl' _)
        · intro Q act_ wI hxI ha hp
          have xw_wI : Ext w wI := Ext.tr xw_w3 hxI
          exact h_evA (v := .string (B s)) ha rfl (e_move rfl) rfl rfl (Ext.rfl' _)
        · intro Q act_ wI hxI ha hp
          have xw_wI : Ext w wI := Ext.tr xw_w3 hxI
          have ha := ha.add (show act_.tmps.getD 45 undef = .string (B s) from hp 2 (by kernel_rfl) (by decide))
          exact h_evA (v := .int .u8 ((at_ s 1).toNat)) ha rfl (e_sat Try.underlying9 rfl rfl (by decide) (by omega)) rfl rfl (Ext.rfl' _)
        · intro Q act_ wI hxI ha hp
          have xw_wI : Ext w wI := Ext.tr xw_w3 hxI
          have ha := ha.add (show act_.tmps.getD 46 undef = .int .u8 ((at_ s 1).toNat) from hp 3 (by kernel_rfl) (by decide))
          exact h_evA (v := .int .i64 ((at_ s 1).toNat : Int)) ha rfl (e_u8int (c := at_ s 1) Try.underlying5 Try.underlying3 (by decide) rfl) rfl rfl (Ext.rfl' _)
        · intro Q act_ wI hxI ha hp
          have xw_wI : Ext w wI := Ext.tr xw_w3 hxI
          have ha := ha.add (show act_.tmps.getD 44 undef = .string (B (sub s 32 32)) from hp 1 (by kernel_rfl) (by decide))
          have ha := ha.add (show act_.tmps.getD 47 undef = .int .i64 ((at_ s 1).toNat : Int) from hp 4 (by kernel_rfl) (by decide))
          exact h_callA ha ent37 rfl rfl rfl (rread_c (sub s 32 32) ((at_ s 1).toNat : Int) wI (sub_length (by decide) (by omega))) rfl (by rintro _ w1 ⟨rfl, hR⟩; exact ⟨rfl, hR⟩)
        · intro Q act_ wI hxI ha hp
          have xw_wI : Ext w wI := Ext.tr xw_w3 hxI
          have ha := ha.add (show act_.tmps.getD 48 undef = .tuple #[.agg #[.int .i64 ((readR (sub s 32 32) ((at_ s 1).toNat : Int)).1.P), .int .i64 ((readR (sub s 32 32) ((at_ s 1).toNat : Int)).1.M), .int .i64 ((readR (sub s 32 32) ((at_ s 1).toNat : Int)).1.S), .int .i64 ((readR (sub s 32 32) ((at_ s 1).toNat : Int)).1.C), .int .i64 ((readR (sub s 32 32) ((at_ s 1).toNat : Int)).1.L), .bool ((readR (sub s 32 32) ((at_ s 1).toNat : Int)).1.b)], .int .i64 ((readR (sub s 32 32) ((at_ s 1).toNat : Int)).2)] from hp 5 (by kernel_rfl) (by decide))
          exact h_evA (v := .tuple #[.agg #[.int .i64 ((readR (sub s 32 32) ((at_ s 1).toNat : Int)).1.P), .int .i64 ((readR (sub s 32 32) ((at_ s 1).toNat : Int)).1.M), .int .i64 ((readR (sub s 32 32) ((at_ s 1).toNat : Int)).1.S), .int .i64 ((readR (sub s 32 32) ((at_ s 1).toNat : Int)).1.C), .int .i64 ((readR (sub s 32 32) ((at_ s 1).toNat : Int)).1.L), .bool ((readR (sub s 32 32) ((at_ s 1).toNat : Int)).1.b)], .int .i64 ((readR (sub s 32 32) ((at_ s 1).toNat : Int)).2)]) ha rfl (e_move rfl) rfl rfl (Ext.rfl' _)
        · intro Q act_ wI hxI ha hp
          have xw_wI : Ext w wI := Ext.tr xw_w3 hxI
          have ha := ha.add (show act_.tmps.getD 42 undef = .tuple #[.agg #[.int .i64 ((readR (sub s 32 32) ((at_ s 1).toNat : Int)).1.P), .int .i64 ((readR (sub s 32 32) ((at_ s 1).toNat : Int)).1.M), .int .i64 ((readR (sub s 32 32) ((at_ s 1).toNat : Int)).1.S), .int .i64 ((readR (sub s 32 32) ((at_ s 1).toNat : Int)).1.C), .int .i64 ((readR (sub s 32 32) ((at_ s 1).toNat : Int)).1.L), .bool ((readR (sub s 32 32) ((at_ s 1).toNat : Int)).1.b)], .int .i64 ((readR (sub s 32 32) ((at_ s 1).toNat : Int)).2)] from hp 6 (by kernel_rfl) (by decide))
          exact h_evA (v := .agg #[.int .i64 ((readR (sub s 32 32) ((at_ s 1).toNat : Int)).1.P), .int .i64 ((readR (sub s 32 32) ((at_ s 1).toNat : Int)).1.M), .int .i64 ((readR (sub s 32 32) ((at_ s 1).toNat : Int)).1.S), .int .i64 ((readR (sub s 32 32) ((at_ s 1).toNat : Int)).1.C), .int .i64 ((readR (sub s 32 32) ((at_ s 1).toNat : Int)).1.L), .bool ((readR (sub s 32 32) ((at_ s 1).toNat : Int)).1.b)]) ha rfl (e_extract (vs := [.agg #[.int .i64 ((readR (sub s 32 32) ((at_ s 1).toNat : Int)).1.P), .int .i64 ((readR (sub s 32 32) ((at_ s 1).toNat : Int)).1.M), .int .i64 ((readR (sub s 32 32) ((at_ s 1).toNat : Int)).1.S), .int .i64 ((readR (sub s 32 32) ((at_ s 1).toNat : Int)).1.C), .int .i64 ((readR (sub s 32 32) ((at_ s 1).toNat : Int)).1.L), .bool ((readR (sub s 32 32) ((at_ s 1).toNat : Int)).1.b)], .int .i64 ((readR (sub s 32 32) ((at_ s 1).toNat : Int)).2)]) rfl rfl) rfl rfl (Ext.rfl' _)
        · intro Q act_ wI hxI ha hp
          have xw_wI : Ext w wI := Ext.tr xw_w3 hxI
          exact h_evA ha rfl (e_alloc Try.zeroValue34) rfl ⟨_, rfl, Blk.new wI 34 [.int .i64 0, .int .i64 0, .int .i64 0, .int .i64 0, .int .i64 0, .bool false], Below.size hxI⟩ (Ext.alloc _ _)
        · intro act_ wI hxI ha hp
          have xw_wI : Ext w wI := Ext.tr xw_w3 hxI
          have ha := ha.add (show act_.tmps.getD 42 undef = .tuple #[.agg #[.int .i64 ((readR (sub s 32 32) ((at_ s 1).toNat : Int)).1.P), .int .i64 ((readR (sub s 32 32) ((at_ s 1).toNat : Int)).1.M), .int .i64 ((readR (sub s 32 32) ((at_ s 1).toNat : Int)).1.S), .int .i64 ((readR (sub s 32 32) ((at_ s 1).toNat : Int)).1.C), .int .i64 ((readR (sub s 32 32) ((at_ s 1).toNat : Int)).1.L), .bool ((readR (sub s 32 32) ((at_ s 1).toNat : Int)).1.b)], .int .i64 ((readR (sub s 32 32) ((at_ s 1).toNat : Int)).2)] from hp 6 (by kernel_rfl) (by decide))
          exact l_ev (v := .int .i64 ((readR (sub s 32 32) ((at_ s 1).toNat : Int)).2)) ha rfl (fun _ => e_extract (vs := [.agg #[.int .i64 ((readR (sub s 32 32) ((at_ s 1).toNat : Int)).1.P), .int .i64 ((readR (sub s 32 32) ((at_ s 1).toNat : Int)).1.M), .int .i64 ((readR (sub s 32 32) ((at_ s 1).toNat : Int)).1.S), .int .i64 ((readR (sub s 32 32) ((at_ s 1).toNat : Int)).1.C), .int .i64 ((readR (sub s 32 32) ((at_ s 1).toNat : Int)).1.L), .bool ((readR (sub s 32 32) ((at_ s 1).toNat : Int)).1.b)], .int .i64 ((readR (sub s 32 32) ((at_ s 1).toNat : Int)).2)]) rfl rfl) rfl rfl
        intro vs_ w4 hx_w4 hvs act_ ha hv
        have xw_w4 : Ext w w4 := Ext.tr xw_w3 hx_w4
        have ha := ha.add ((hv 7 (by decide)).trans (show vs_ 7 = .agg #[.int .i64 ((readR (sub s 32 32) ((at_ s 1).toNat : Int)).1.P), .int .i64 ((readR (sub s 32 32) ((at_ s 1).toNat : Int)).1.M), .int .i64 ((readR (sub s 32 32) ((at_ s 1).toNat : Int)).1.S), .int .i64 ((readR (sub s 32 32) ((at_ s 1).toNat : Int)).1.C), .int .i64 ((readR (sub s 32 32) ((at_ s 1).toNat : Int)).1.L), .bool ((readR (sub s 32 32) ((at_ s 1).toNat : Int)).1.b)] from hvs 7 (by decide)))
        have ha := ha.add ((hv 8 (by decide)).trans (show vs_ 8 = .int .i64 ((readR (sub s 32 32) ((at_ s 1).toNat : Int)).2) from hvs 8 (by decide)))
        obtain ⟨b4, e4, hb4, hg4⟩ := (show ∃ b_, vs_ 9 = Value.pointer (some ⟨b_, 0, none⟩) ∧ Blk w4 b_ 34 [.int .i64 0, .int .i64 0, .int .i64 0, .int .i64 0, .int .i64 0, .bool false] ∧ w3.heap.size ≤ b_ from hvs 9 (by decide))
        have ha := ha.add ((hv 9 (by decide)).trans e4)
        have ge_b4 : w.heap.size ≤ b4 := Nat.le_trans (Below.size xw_w3) hg4
        refine st_go ha ?_
        clear ha hv hvs
        refine st_blkV [.int .i64 ((readR (sub s 32 32) ((at_ s 1).toNat : Int)).1.P), .int .i64 ((readR (sub s 32 32) ((at_ s 1).toNat : Int)).1.M), .int .i64 ((readR (sub s 32 32) ((at_ s 1).toNat : Int)).1.S), .int .i64 ((readR (sub s 32 32) ((at_ s 1).toNat : Int)).1.C), .int .i64 ((readR (sub s 32 32) ((at_ s 1).toNat : Int)).1.L), .bool ((readR (sub s 32 32) ((at_ s 1).toNat : Int)).1.b)] [.int .i64 ((readR (sub s 32 32) ((at_ s 1).toNat : Int)).1.P), .int .i64 ((readR (sub s 32 32) ((at_ s 1).toNat : Int)).1.M), .int .i64 ((readR (sub s 32 32) ((at_ s 1).toNat : Int)).1.S), .int .i64 ((readR (sub s 32 32) ((at_ s 1).toNat : Int)).1.C), .int .i64 ((readR (sub s 32 32) ((at_ s 1).toNat : Int)).1.L), .bool ((readR (sub s 32 32) ((at_ s 1).toNat : Int)).1.b)] rfl rfl rfl hb4 rfl Try.sizeOf34 (Nat.le_of_ble_eq_true rfl) rfl rfl ?_
        intro w5 hn_ hm_w5 hs_w5
        have ho_ := hb4
        replace hb4 := hn_
        clear hn_
        have xw_w5 : Ext w w5 := below_mut xw_w4 (Below.size xw_w4) hm_w5 ge_b4
        refine st_ev (v := .int .i64 ((readR (sub s 32 32) ((at_ s 1).toNat : Int)).2)) rfl (e_assign rfl) ?_
        refine st_nil (nrm_k ?_)
        refine sc_seq ?_
        refine sc_seq ?_
        refine sc_reg ?_
        refine Go.XK.s (v := .int .i64 ((readR (sub s 32 32) ((at_ s 1).toNat : Int)).2)) (e_move rfl) ?_
        refine Go.XK.s (v := .bool (decide ((readR (sub s 32 32) ((at_ s 1).toNat : Int)).2 ≠ 0))) (e_ne rfl rfl) ?_
        refine sl_nil (nrm_k ?_)
        refine sc_ifd rfl (fun c52 => ?_) (fun c52 => ?_)
        ·
          refine sc_seq ?_
          refine sc_reg ?_
          refine Go.XK.s (v := .int .i64 ((readR (sub s 32 32) ((at_ s 1).toNat : Int)).2)) (e_move rfl) ?_
          refine Go.XK.s (v := .slice none 0 0) (e_assign rfl) ?_
          refine Go.XK.s (v := .int .i64 ((readR (sub s 32 32) ((at_ s 1).toNat : Int)).2)) (e_assign rfl) ?_
          refine sl_nil (nrm_k ?_)
          refine sc_retf rfl (ret2 Try.results14 (rvt rfl) (rvt rfl) ?_)
          exact ⟨_, _, _, rfl, decR_one_bad hs c36 hpl c52, Go.XK.Own.nil _ _ _ _ _, xw_w5⟩
        ·
          refine sc_skip (nrm_k ?_)
          refine sc_seq ?_
          refine sc_reg ?_
          refine Go.XK.s (v := .agg #[.int .i64 ((readR (sub s 32 32) ((at_ s 1).toNat : Int)).1.P), .int .i64 ((readR (sub s 32 32) ((at_ s 1).toNat : Int)).1.M), .int .i64 ((readR (sub s 32 32) ((at_ s 1).toNat : Int)).1.S), .int .i64 ((readR (sub s 32 32) ((at_ s 1).toNat : Int)).1.C), .int .i64 ((readR (sub s 32 32) ((at_ s 1).toNat : Int)).1.L), .bool ((readR (sub s 32 32) ((at_ s 1).toNat : Int)).1.b)]) (e_load rfl (hb4.loadA Try.isAgg34 Try.sizeOf34 rfl)) ?_
          refine s_bslice (vs := [(0, .agg #[.int .i64 ((readR (sub s 32 32) ((at_ s 1).toNat : Int)).1.P), .int .i64 ((readR (sub s 32 32) ((at_ s 1).toNat : Int)).1.M), .int .i64 ((readR (sub s 32 32) ((at_ s 1).toNat : Int)).1.S), .int .i64 ((readR (sub s 32 32) ((at_ s 1).toNat : Int)).1.C), .int .i64 ((readR (sub s 32 32) ((at_ s 1).toNat : Int)).1.L), .bool ((readR (sub s 32 32) ((at_ s 1).toNat : Int)).1.b)])]) (e := 34) rfl [.int .i64 ((readR (sub s 32 32) ((at_ s 1).toNat : Int)).1.P), .int .i64 ((readR (sub s 32 32) ((at_ s 1).toNat : Int)).1.M), .int .i64 ((readR (sub s 32 32) ((at_ s 1).toNat : Int)).1.S), .int .i64 ((readR (sub s 32 32) ((at_ s 1).toNat : Int)).1.C), .int .i64 ((readR (sub s 32 32) ((at_ s 1).toNat : Int)).1.L), .bool ((readR (sub s 32 32) ((at_ s 1).toNat : Int)).1.b)] (by kernel_rfl) ?_
          intro b55 w6 hb55 he55 hs55 hx55
          have ne_b55_b4 : b55 ≠ b4 := by have h_ := hb4.lt; omega
          have ge_b55 : w.heap.size ≤ b55 := by have h_ := (Below.size xw_w5); omega
          have xw_w6 : Ext w w6 := Ext.tr xw_w5 hx55
          replace hb4 := hb4.ext hx55
          refine Go.XK.s (v := .slice (some ⟨b55, 0, none⟩) 1 1) (e_assign rfl) ?_
          refine sl_nil (nrm_k ?_)
          refine sc_seq ?_
          refine sc_reg ?_
          refine Go.XK.s (v := .int .i64 64) (e_assign rfl) ?_
          refine sl_nil (nrm_k ?_)
          refine sc_seq ?_
          refine sc_seq ?_
          refine sc_reg ?_
          refine Go.XK.s (v := .string (B s)) (e_move rfl) ?_
          refine Go.XK.s (v := .int .i64 64) (e_move rfl) ?_
          refine Go.XK.s (v := .int .u8 ((at_ s 64).toNat)) (e_sat Try.underlying9 rfl rfl (by decide) (by omega)) ?_
          refine Go.XK.s (v := .bool (decide ((at_ s 64) = (0 : UInt8)))) (e_beq (a := (at_ s 64)) (b := 0) rfl rfl) ?_
          refine sl_nil (nrm_k ?_)
          refine sc_ifd rfl (fun c59 => ?_) (fun c59 => ?_)
          ·
            refine sc_seq ?_
            refine sc_reg ?_
            refine Go.XK.s (v := .slice (some ⟨b55, 0, none⟩) 1 1) (e_move rfl) ?_
            refine Go.XK.s (v := .slice (some ⟨b55, 0, none⟩) 1 1) (e_assign rfl) ?_
            refine Go.XK.s (v := .int .i64 0) (e_assign rfl) ?_
            refine sl_nil (nrm_k ?_)
            refine sc_retf rfl (ret2 Try.results14 (rvt rfl) (rvt rfl) ?_)
            exact ⟨_, _, _, rfl, by rw [decR_one hs c36 hpl c52, E_cons (by decide)]; exact runS_inr (step_end (by decide) c59), (Own.ofBlk (xs := [(readR (sub s 32 32) (at_ s 1).toNat).1]) hb55 ge_b55 (fun _ => rfl) (by simp [maxLen])), xw_w6⟩
          ·
            refine sc_skip (nrm_k ?_)
            refine sc_seq ?_
            refine sc_block ?_
            refine sc_loop (fun m_ l_ w_ => ∃ (i : Nat) (a h p : Int) (v : Value) (o : List Img), m_ = 64 - i ∧ l_ = [(7, .int .i64 a), (6, v), (0, .string (B s))] ∧ Ext w w_ ∧ Go.XK.Own w_ w.heap.size 34 6 Img.enc v o ∧ (2 ≤ i ∧ i ≤ 64 ∧ a = 32 * i) ∧ (i < 64 → ¬ (at_ s a = 0 ∧ h = 0)) ∧ decR s = runS ⟨p, 0, true, false, h, o⟩ (E s i) ∧ 0 ≤ h ∧ o.length ≤ i) _ [(7, .int .i64 64), (6, _), (0, .string (B s))] ⟨2, 64, 0, ((at_ s 1).toNat : Int), _, [(readR (sub s 32 32) (at_ s 1).toNat).1], rfl, rfl, xw_w6, (Own.ofBlk (xs := [(readR (sub s 32 32) (at_ s 1).toNat).1]) hb55 ge_b55 (fun _ => rfl) (by simp [maxLen])), ⟨⟨by omega, by omega, by omega⟩, fun _ h_ => c59 h_.1, decR_one hs c36 hpl c52, by omega, by simp⟩⟩ (.cons rfl (.cons rfl (.cons rfl (.nil)))) ?_
            rintro j8 _ w7 ⟨i, a, h, p, v, o, rfl, rfl, xw_w7, ho, ⟨⟨hi2, hi64, hai⟩, hno, hdec, hh, hol⟩⟩
            refine sc_seq ?_
            refine sc_seq ?_
            refine sc_reg ?_
            refine Go.XK.s (v := .int .i64 a) (e_move rfl) ?_
            refine Go.XK.s (v := .string (B s)) (e_move rfl) ?_
            refine Go.XK.s (v := .int .i64 (s.length : Int)) (e_slen Try.underlying9 rfl) ?_
            refine Go.XK.s (v := .bool (decide (a < (s.length : Int)))) (e_lt rfl rfl) ?_
            refine sl_nil (nrm_k ?_)
            refine sc_ifd rfl (fun c64 => ?_) (fun c64 => ?_)
            ·
              have hi : i < 64 := by omega
              have hstep := step_hdr (s := s) (a := a) (p := p) (h := h) (o := o) (by omega) (hno hi)
              have hcnt := rdle_bound (sub s (a + 2) 2)
              rw [sub_length (by omega) (by omega)] at hcnt
              refine sc_skip (nrm_k ?_)
              refine sc_block ?_
              refine sc_seq ?_
              refine sc_late [(64, .bool (decide (a < (s.length : Int)))), (63, .int .i64 (s.length : Int)), (62, .string (B s)), (61, .int .i64 a), (7, .int .i64 a), (6, v), (0, .string (B s))] [65, 66, 67, 68, 69, 70, 71, 72] [(Is (.string (B s))), (Is (.int .i64 a)), (Is (.int .u8 ((at_ s a).toNat))), (Is (.string (B s))), (Is (.int .i64 a)), (Is (.int .i64 (a + 1))), (Is (.int .u8 ((at_ s (a + 1)).toNat))), (Is (.int .i64 ((at_ s (a + 1)).toNat : Int)))] [8, 9] [0, 1, 2] [3, 4, 5, 6, 7] (by kernel_rfl) (Sub.refl _) (by kernel_rfl) (by kernel_rfl) (by kernel_rfl) (by kernel_rfl) rfl (by kernel_rfl) (ds_ext (Stays.spec (.is _ (.is _ (.is _ (.is _ (.is _ (.is _ (.is _ (.is _ (.nil))))))))))) ⟨?_, ?_, ?_, trivial⟩ ⟨?_, ?_, ?_, ?_, ?_, trivial⟩ ?_
              · intro Q act_ wI hxI ha hp
                have xw_wI : Ext w wI := Ext.tr xw_w7 hxI
                replace ho := ho.ext hxI
                exact h_evA (v := .string (B s)) ha rfl (e_move rfl) rfl rfl (Ext.rfl' _)
              · intro Q act_ wI hxI ha hp
                have xw_wI : Ext w wI := Ext.tr xw_w7 hxI
                replace ho := ho.ext hxI
                exact h_evA (v := .int .i64 a) ha rfl (e_move rfl) rfl rfl (Ext.rfl' _)
              · intro Q act_ wI hxI ha hp
                have xw_wI : Ext w wI := Ext.tr xw_w7 hxI
                replace ho := ho.ext hxI
                have ha := ha.add (show act_.tmps.getD 65 undef = .string (B s) from hp 0 (by kernel_rfl) (by decide))
                have ha := ha.add (show act_.tmps.getD 66 undef = .int .i64 a from hp 1 (by kernel_rfl) (by decide))
                exact h_evA (v := .int .u8 ((at_ s a).toNat)) ha rfl (e_sat Try.underlying9 rfl rfl (by omega) (by omega)) rfl rfl (Ext.rfl' _)
              · intro act_ wI hxI ha hp
                have xw_wI : Ext w wI := Ext.tr xw_w7 hxI
                replace ho := ho.ext hxI
                exact l_ev (v := .string (B s)) ha rfl (fun _ => e_move rfl) rfl rfl
              · intro act_ wI hxI ha hp
                have xw_wI : Ext w wI := Ext.tr xw_w7 hxI
                replace ho := ho.ext hxI
                exact l_ev (v := .int .i64 a) ha rfl (fun _ => e_move rfl) rfl rfl
              · intro act_ wI hxI ha hp
                have xw_wI : Ext w wI := Ext.tr xw_w7 hxI
                replace ho := ho.ext hxI
                have ha := ha.add (show act_.tmps.getD 69 undef = .int .i64 a from hp 4 (by kernel_rfl) (by decide))
                exact l_ev (v := .int .i64 (a + 1)) ha rfl (fun _ => e_add rfl rfl (by omega)) rfl rfl
              · intro act_ wI hxI ha hp
                have xw_wI : Ext w wI := Ext.tr xw_w7 hxI
                replace ho := ho.ext hxI
                have ha := ha.add (show act_.tmps.getD 68 undef = .string (B s) from hp 3 (by kernel_rfl) (by decide))
                have ha := ha.add (show act_.tmps.getD 70 undef = .int .i64 (a + 1) from hp 5 (by kernel_rfl) (by decide))
                exact l_ev (v := .int .u8 ((at_ s (a + 1)).toNat)) ha rfl (fun _ => e_sat Try.underlying9 rfl rfl (by omega) (by omega)) rfl rfl
              · intro act_ wI hxI ha hp
                have xw_wI : Ext w wI := Ext.tr xw_w7 hxI
                replace ho := ho.ext hxI
                have ha := ha.add (show act_.tmps.getD 71 undef = .int .u8 ((at_ s (a + 1)).toNat) from hp 6 (by kernel_rfl) (by decide))
                exact l_ev (v := .int .i64 ((at_ s (a + 1)).toNat : Int)) ha rfl (fun _ => e_u8int (c := at_ s (a + 1)) Try.underlying5 Try.underlying3 (by decide) rfl) rfl rfl
              intro vs_ w9 hx_w9 hvs act_ ha hv
              have xw_w9 : Ext w w9 := Ext.tr xw_w7 hx_w9
              replace ho := ho.ext hx_w9
              have ha := ha.add ((hv 2 (by decide)).trans (show vs_ 2 = .int .u8 ((at_ s a).toNat) from hvs 2 (by decide)))
              have ha := ha.add ((hv 7 (by decide)).trans (show vs_ 7 = .int .i64 ((at_ s (a + 1)).toNat : Int) from hvs 7 (by decide)))
              refine st_go ha ?_
              clear ha hv hvs
              refine st_ev (v := .int .u8 ((at_ s a).toNat)) rfl (e_assign rfl) ?_
              refine st_ev (v := .int .i64 ((at_ s (a + 1)).toNat : Int)) rfl (e_assign rfl) ?_
              refine st_nil (nrm_k ?_)
              refine sc_seq ?_
              refine sc_seq ?_
              refine sc_reg ?_
              refine Go.XK.s (v := .int .u8 ((at_ s a).toNat)) (e_move rfl) ?_
              refine Go.XK.s (v := .bool (decide ((at_ s a) ≠ (144 : UInt8)))) (e_bne (a := (at_ s a)) (b := 144) rfl rfl) ?_
              refine Go.XK.s (v := .bool (decide ((at_ s a) ≠ (144 : UInt8)))) (e_move rfl) ?_
              refine sl_merge 3 78 (.bool ((decide ((at_ s a) ≠ (144 : UInt8))) && (decide ((at_ s a) ≠ (145 : UInt8))))) ?_ ?_
              · refine sl_case (t := 75) rfl (fun g16_2 => ?_) (fun g16_2 => ?_)
                ·
                  refine sl_gev (v := .int .u8 ((at_ s a).toNat)) rfl rfl g16_2 (e_move rfl) rfl (by decide) ?_
                  refine sl_gev (v := .bool (decide ((at_ s a) ≠ (145 : UInt8)))) rfl rfl g16_2 (e_bne (a := (at_ s a)) (b := 145) rfl rfl) rfl (by decide) ?_
                  refine Go.XK.s (v := .bool (decide ((at_ s a) ≠ (145 : UInt8)))) (e_pickT rfl g16_2 rfl) ?_
                  exact sl_nil (fun a ha => ⟨rfl, ha.sub (.cons (by rw [g16_2]; rfl) (sub_self_cons (sub_self_cons (sub_self_cons (Sub.refl _) rfl) rfl) rfl))⟩)
                ·
                  refine sl_gskip rfl rfl g16_2 (by decide) ?_
                  refine sl_gskip rfl rfl g16_2 (by decide) ?_
                  refine Go.XK.s (v := .bool false) (e_pickF rfl g16_2 rfl) ?_
                  exact sl_nil (fun a ha => ⟨rfl, ha.sub (.cons (by rw [g16_2]; rfl) (sub_self_cons (sub_self_cons (sub_self_cons (Sub.refl _) rfl) rfl) rfl))⟩)
              refine sl_nil (nrm_k ?_)
              refine sc_if rfl (fun c78 => ?_) (fun c78 => ?_)
              ·
                simp only [Bool.and_eq_true, decide_eq_true_eq] at c78
                refine sc_seq ?_
                refine sc_reg ?_
                refine Go.XK.s (v := .slice none 0 0) (e_assign rfl) ?_
                refine Go.XK.s (v := .int .i64 10) (e_assign rfl) ?_
                refine sl_nil (nrm_k ?_)
                refine sc_retf rfl (ret2 Try.results14 (rvt rfl) (rvt rfl) ?_)
                exact ⟨_, _, _, rfl, by rw [hdec, E_cons hi, ← hai]; exact runS_inr (by rw [hstep, if_pos c78]), Go.XK.Own.nil _ _ _ _ _, xw_w9⟩
              ·
                simp only [Bool.and_eq_false_iff, decide_eq_false_iff_not] at c78
                have hk78 : ¬ (at_ s a ≠ 144 ∧ at_ s a ≠ 145) := fun h_ => by rcases c78 with h1_ | h1_ <;> simp [h_.1, h_.2] at h1_
                refine sc_skip (nrm_k ?_)
                refine sc_seq ?_
                refine sc_seq ?_
                refine sc_reg ?_
                refine Go.XK.s (v := .int .i64 ((at_ s (a + 1)).toNat : Int)) (e_move rfl) ?_
                refine sl_call ent36 rfl rfl (rplat_c _ w9) (by decide) ?_
                rintro _ w10 ⟨rfl, hw10⟩
                have xw_w10 : Ext w w10 := Ext.tr xw_w9 hw10
                replace ho := ho.ext hw10
                refine Go.XK.s (v := .bool (!(plat ((at_ s (a + 1)).toNat : Int)))) (e_not rfl) ?_
                refine sl_nil (nrm_k ?_)
                refine sc_if rfl (fun c81 => ?_) (fun c81 => ?_)
                ·
                  have hpl2 : plat (at_ s (a + 1)).toNat = false := by simpa using c81
                  refine sc_seq ?_
                  refine sc_reg ?_
                  refine Go.XK.s (v := .slice none 0 0) (e_assign rfl) ?_
                  refine Go.XK.s (v := .int .i64 14) (e_assign rfl) ?_
                  refine sl_nil (nrm_k ?_)
                  refine sc_retf rfl (ret2 Try.results14 (rvt rfl) (rvt rfl) ?_)
                  exact ⟨_, _, _, rfl, by rw [hdec, E_cons hi, ← hai]; exact runS_inr (by rw [hstep, if_neg hk78, if_pos hpl2]), Go.XK.Own.nil _ _ _ _ _, xw_w10⟩
                ·
                  have hpl2 : plat (at_ s (a + 1)).toNat = true := by simpa using c81
                  have hhdr : decR s = runF ⟨(at_ s (a + 1)).toNat, rdle (sub s (a + 2) 2), decide (at_ s a = 144), false, h + 1, o⟩ (E s (i + 1)) := by
                    rw [hdec, E_cons hi, ← hai]; exact runS_inl (by rw [hstep, if_neg hk78, if_neg (by rw [hpl2]; simp)])
                  refine sc_skip (nrm_k ?_)
                  refine sc_seq ?_
                  refine sc_reg ?_
                  refine Go.XK.s (v := .string (B s)) (e_move rfl) ?_
                  refine Go.XK.s (v := .int .i64 a) (e_move rfl) ?_
                  refine Go.XK.s (v := .int .i64 (a + 2)) (e_add rfl rfl (by omega)) ?_
                  refine sl_call ent38 rfl rfl (rreadl_c s (a + 2) 2 w10 (by omega) (by omega) (by omega) (by decide) (by decide)) (by decide) ?_
                  rintro _ w11 ⟨rfl, hw11⟩
                  have xw_w11 : Ext w w11 := Ext.tr xw_w10 hw11
                  replace ho := ho.ext hw11
                  refine Go.XK.s (v := .tuple #[.int .i64 (rdle (sub s (a + 2) 2)), .int .i64 0]) (e_move rfl) ?_
                  refine Go.XK.s (v := .int .i64 (rdle (sub s (a + 2) 2))) (e_extract (vs := [.int .i64 (rdle (sub s (a + 2) 2)), .int .i64 0]) rfl rfl) ?_
                  refine Go.XK.s (v := .int .i64 0) (e_extract (vs := [.int .i64 (rdle (sub s (a + 2) 2)), .int .i64 0]) rfl rfl) ?_
                  refine Go.XK.s (v := .int .i64 (rdle (sub s (a + 2) 2))) (e_assign rfl) ?_
                  refine Go.XK.s (v := .int .i64 0) (e_assign rfl) ?_
                  refine sl_nil (nrm_k ?_)
                  refine sc_seq ?_
                  refine sc_reg ?_
                  refine Go.XK.s (v := .int .i64 a) (e_move rfl) ?_
                  refine Go.XK.s (v := .int .i64 (a + 32)) (e_add rfl rfl (by omega)) ?_
                  refine Go.XK.s (v := .int .i64 (a + 32)) (e_assign rfl) ?_
                  refine sl_nil (nrm_k ?_)
                  refine sc_seq ?_
                  refine sc_seq ?_
                  refine sc_reg ?_
                  refine Go.XK.s (v := .int .i64 0) (e_assign rfl) ?_
                  refine sl_nil (nrm_k ?_)
                  refine sc_block ?_
                  refine sc_loop (fun m_ l_ w_ => ∃ (i2 : Nat) (b j : Int) (v2 : Value) (o2 : List Img), m_ = (rdle (sub s (a + 2) 2) - j).toNat ∧ l_ = [(7, .int .i64 b), (12, .int .i64 j), (6, v2), (0, .string (B s)), (8, .int .u8 ((at_ s a).toNat)), (9, .int .i64 ((at_ s (a + 1)).toNat : Int)), (10, .int .i64 (rdle (sub s (a + 2) 2)))] ∧ Ext w w_ ∧ Go.XK.Own w_ w.heap.size 34 6 Img.enc v2 o2 ∧ (i < i2 ∧ i2 ≤ 64 ∧ b = 32 * i2) ∧ (0 ≤ j ∧ j ≤ rdle (sub s (a + 2) 2)) ∧ decR s = runF ⟨(at_ s (a + 1)).toNat, rdle (sub s (a + 2) 2) - j, decide (at_ s a = 144), false, h + 1, o2⟩ (E s i2) ∧ o2.length ≤ i2) _ [(7, .int .i64 (a + 32)), (12, .int .i64 0), (6, v), (0, .string (B s)), (8, .int .u8 ((at_ s a).toNat)), (9, .int .i64 ((at_ s (a + 1)).toNat : Int)), (10, .int .i64 (rdle (sub s (a + 2) 2)))] ⟨i + 1, a + 32, 0, v, o, rfl, rfl, xw_w11, ho, ⟨⟨by omega, by omega, by omega⟩, ⟨by omega, by omega⟩, by rw [hhdr, Int.sub_zero], by omega⟩⟩ (.cons rfl (.cons rfl (.cons rfl (.cons rfl (.cons rfl (.cons rfl (.cons rfl (.nil)))))))) ?_
                  rintro j13 _ w12 ⟨i2, b, j, v2, o2, rfl, rfl, xw_w12, ho, ⟨⟨hii, hi264, hbi⟩, hj, hdec2, hol2⟩⟩
                  refine sc_seq ?_
                  refine sc_seq ?_
                  refine sc_reg ?_
                  refine Go.XK.s (v := .int .i64 j) (e_move rfl) ?_
                  refine Go.XK.s (v := .int .i64 (rdle (sub s (a + 2) 2))) (e_move rfl) ?_
                  refine Go.XK.s (v := .bool (decide (j < rdle (sub s (a + 2) 2)))) (e_lt rfl rfl) ?_
                  refine sl_nil (nrm_k ?_)
                  refine sc_ifd rfl (fun c93 => ?_) (fun c93 => ?_)
                  ·
                    refine sc_skip (nrm_k ?_)
                    refine sc_seq ?_
                    refine sc_block ?_
                    refine sc_seq ?_
                    refine sc_seq ?_
                    refine sc_reg ?_
                    refine Go.XK.s (v := .int .i64 b) (e_move rfl) ?_
                    refine Go.XK.s (v := .string (B s)) (e_move rfl) ?_
                    refine Go.XK.s (v := .int .i64 (s.length : Int)) (e_slen Try.underlying9 rfl) ?_
                    refine Go.XK.s (v := .bool (decide ((s.length : Int) ≤ b))) (e_ge rfl rfl) ?_
                    refine sl_nil (nrm_k ?_)
                    refine sc_ifd rfl (fun c99 => ?_) (fun c99 => ?_)
                    ·
                      have hi2e : i2 = 64 := by omega
                      refine sc_seq ?_
                      refine sc_reg ?_
                      refine Go.XK.s (v := .slice none 0 0) (e_assign rfl) ?_
                      refine Go.XK.s (v := .int .i64 10) (e_assign rfl) ?_
                      refine sl_nil (nrm_k ?_)
                      refine sc_retf rfl (ret2 Try.results14 (rvt rfl) (rvt rfl) ?_)
                      exact ⟨_, _, _, rfl, by rw [hdec2, runF_go (by simp; omega), hi2e, E_end]; rfl, Go.XK.Own.nil _ _ _ _ _, xw_w12⟩
                    ·
                      refine sc_skip (nrm_k ?_)
                      refine sc_seq ?_
                      refine sc_reg ?_
                      refine Go.XK.s (v := .string (B s)) (e_move rfl) ?_
                      refine Go.XK.s (v := .int .i64 b) (e_move rfl) ?_
                      refine Go.XK.s (v := .int .i64 b) (e_move rfl) ?_
                      refine Go.XK.s (v := .int .i64 (b + 32)) (e_add rfl rfl (by omega)) ?_
                      refine Go.XK.s (v := .string (B (sub s b 32))) (e_ssub 32 Try.underlying9 rfl rfl rfl (by omega) (by omega)) ?_
                      refine Go.XK.s (v := .int .i64 ((at_ s (a + 1)).toNat : Int)) (e_move rfl) ?_
                      refine sl_call ent37 rfl rfl (rread_c (sub s b 32) ((at_ s (a + 1)).toNat : Int) w12 (sub_length (by omega) (by omega))) (by decide) ?_
                      rintro _ w14 ⟨rfl, hw14⟩
                      have xw_w14 : Ext w w14 := Ext.tr xw_w12 hw14
                      replace ho := ho.ext hw14
                      refine Go.XK.s (v := .tuple #[.agg #[.int .i64 ((readR (sub s b 32) ((at_ s (a + 1)).toNat : Int)).1.P), .int .i64 ((readR (sub s b 32) ((at_ s (a + 1)).toNat : Int)).1.M), .int .i64 ((readR (sub s b 32) ((at_ s (a + 1)).toNat : Int)).1.S), .int .i64 ((readR (sub s b 32) ((at_ s (a + 1)).toNat : Int)).1.C), .int .i64 ((readR (sub s b 32) ((at_ s (a + 1)).toNat : Int)).1.L), .bool ((readR (sub s b 32) ((at_ s (a + 1)).toNat : Int)).1.b)], .int .i64 ((readR (sub s b 32) ((at_ s (a + 1)).toNat : Int)).2)]) (e_move rfl) ?_
                      refine Go.XK.s (v := .agg #[.int .i64 ((readR (sub s b 32) ((at_ s (a + 1)).toNat : Int)).1.P), .int .i64 ((readR (sub s b 32) ((at_ s (a + 1)).toNat : Int)).1.M), .int .i64 ((readR (sub s b 32) ((at_ s (a + 1)).toNat : Int)).1.S), .int .i64 ((readR (sub s b 32) ((at_ s (a + 1)).toNat : Int)).1.C), .int .i64 ((readR (sub s b 32) ((at_ s (a + 1)).toNat : Int)).1.L), .bool ((readR (sub s b 32) ((at_ s (a + 1)).toNat : Int)).1.b)]) (e_extract (vs := [.agg #[.int .i64 ((readR (sub s b 32) ((at_ s (a + 1)).toNat : Int)).1.P), .int .i64 ((readR (sub s b 32) ((at_ s (a + 1)).toNat : Int)).1.M), .int .i64 ((readR (sub s b 32) ((at_ s (a + 1)).toNat : Int)).1.S), .int .i64 ((readR (sub s b 32) ((at_ s (a + 1)).toNat : Int)).1.C), .int .i64 ((readR (sub s b 32) ((at_ s (a + 1)).toNat : Int)).1.L), .bool ((readR (sub s b 32) ((at_ s (a + 1)).toNat : Int)).1.b)], .int .i64 ((readR (sub s b 32) ((at_ s (a + 1)).toNat : Int)).2)]) rfl rfl) ?_
                      refine Go.XK.s (v := .int .i64 ((readR (sub s b 32) ((at_ s (a + 1)).toNat : Int)).2)) (e_extract (vs := [.agg #[.int .i64 ((readR (sub s b 32) ((at_ s (a + 1)).toNat : Int)).1.P), .int .i64 ((readR (sub s b 32) ((at_ s (a + 1)).toNat : Int)).1.M), .int .i64 ((readR (sub s b 32) ((at_ s (a + 1)).toNat : Int)).1.S), .int .i64 ((readR (sub s b 32) ((at_ s (a + 1)).toNat : Int)).1.C), .int .i64 ((readR (sub s b 32) ((at_ s (a + 1)).toNat : Int)).1.L), .bool ((readR (sub s b 32) ((at_ s (a + 1)).toNat : Int)).1.b)], .int .i64 ((readR (sub s b 32) ((at_ s (a + 1)).toNat : Int)).2)]) rfl rfl) ?_
                      refine s_alloc (cs := [.int .i64 0, .int .i64 0, .int .i64 0, .int .i64 0, .int .i64 0, .bool false]) Try.zeroValue34 rfl ?_
                      intro b13 w15 hb13 he13 hs13 hx13
                      have no_b13_ho : Value.ownBlock v2 ≠ some b13 := fun h_ => by have h2_ := (Go.XK.Own.lt ho _ h_).2; omega
                      have ge_b13 : w.heap.size ≤ b13 := by have h_ := (Below.size xw_w14); omega
                      have xw_w15 : Ext w w15 := Ext.tr xw_w14 hx13
                      replace ho := ho.ext hx13
                      refine su_blkV [.int .i64 ((readR (sub s b 32) ((at_ s (a + 1)).toNat : Int)).1.P), .int .i64 ((readR (sub s b 32) ((at_ s (a + 1)).toNat : Int)).1.M), .int .i64 ((readR (sub s b 32) ((at_ s (a + 1)).toNat : Int)).1.S), .int .i64 ((readR (sub s b 32) ((at_ s (a + 1)).toNat : Int)).1.C), .int .i64 ((readR (sub s b 32) ((at_ s (a + 1)).toNat : Int)).1.L), .bool ((readR (sub s b 32) ((at_ s (a + 1)).toNat : Int)).1.b)] [.int .i64 ((readR (sub s b 32) ((at_ s (a + 1)).toNat : Int)).1.P), .int .i64 ((readR (sub s b 32) ((at_ s (a + 1)).toNat : Int)).1.M), .int .i64 ((readR (sub s b 32) ((at_ s (a + 1)).toNat : Int)).1.S), .int .i64 ((readR (sub s b 32) ((at_ s (a + 1)).toNat : Int)).1.C), .int .i64 ((readR (sub s b 32) ((at_ s (a + 1)).toNat : Int)).1.L), .bool ((readR (sub s b 32) ((at_ s (a + 1)).toNat : Int)).1.b)] rfl rfl hb13 rfl Try.sizeOf34 (Nat.le_of_ble_eq_true rfl) rfl rfl ?_
                      intro w16 hn_ hm_w16 hs_w16
                      have ho_ := hb13
                      replace hb13 := hn_
                      clear hn_
                      replace ho := ho.mut hm_w16 no_b13_ho
                      have xw_w16 : Ext w w16 := below_mut xw_w15 (Below.size xw_w15) hm_w16 ge_b13
                      refine Go.XK.s (v := .int .i64 ((readR (sub s b 32) ((at_ s (a + 1)).toNat : Int)).2)) (e_assign rfl) ?_
                      refine sl_nil (nrm_k ?_)
                      refine sc_seq ?_
                      refine sc_seq ?_
                      refine sc_reg ?_
                      refine Go.XK.s (v := .int .i64 ((readR (sub s b 32) ((at_ s (a + 1)).toNat : Int)).2)) (e_move rfl) ?_
                      refine Go.XK.s (v := .bool (decide ((readR (sub s b 32) ((at_ s (a + 1)).toNat : Int)).2 ≠ 0))) (e_ne rfl rfl) ?_
                      refine sl_nil (nrm_k ?_)
                      refine sc_ifd rfl (fun c111 => ?_) (fun c111 => ?_)
                      ·
                        refine sc_seq ?_
                        refine sc_reg ?_
                        refine Go.XK.s (v := .int .i64 ((readR (sub s b 32) ((at_ s (a + 1)).toNat : Int)).2)) (e_move rfl) ?_
                        refine Go.XK.s (v := .slice none 0 0) (e_assign rfl) ?_
                        refine Go.XK.s (v := .int .i64 ((readR (sub s b 32) ((at_ s (a + 1)).toNat : Int)).2)) (e_assign rfl) ?_
                        refine sl_nil (nrm_k ?_)
                        refine sc_retf rfl (ret2 Try.results14 (rvt rfl) (rvt rfl) ?_)
                        exact ⟨_, _, _, rfl, by rw [hdec2, runF_go (by simp; omega), E_cons (by omega), ← hbi]; exact runS_inr (by rw [step_img (by show (0 : Int) < _; omega), if_pos c111]), Go.XK.Own.nil _ _ _ _ _, xw_w16⟩
                      ·
                        refine sc_skip (nrm_k ?_)
                        refine sc_seq ?_
                        refine sc_reg ?_
                        refine Go.XK.s (v := v2) (e_move rfl) ?_
                        refine Go.XK.s (v := .agg #[.int .i64 ((readR (sub s b 32) ((at_ s (a + 1)).toNat : Int)).1.P), .int .i64 ((readR (sub s b 32) ((at_ s (a + 1)).toNat : Int)).1.M), .int .i64 ((readR (sub s b 32) ((at_ s (a + 1)).toNat : Int)).1.S), .int .i64 ((readR (sub s b 32) ((at_ s (a + 1)).toNat : Int)).1.C), .int .i64 ((readR (sub s b 32) ((at_ s (a + 1)).toNat : Int)).1.L), .bool ((readR (sub s b 32) ((at_ s (a + 1)).toNat : Int)).1.b)]) (e_load rfl (hb13.loadA Try.isAgg34 Try.sizeOf34 rfl)) ?_
                        refine s_bslice (vs := [(0, .agg #[.int .i64 ((readR (sub s b 32) ((at_ s (a + 1)).toNat : Int)).1.P), .int .i64 ((readR (sub s b 32) ((at_ s (a + 1)).toNat : Int)).1.M), .int .i64 ((readR (sub s b 32) ((at_ s (a + 1)).toNat : Int)).1.S), .int .i64 ((readR (sub s b 32) ((at_ s (a + 1)).toNat : Int)).1.C), .int .i64 ((readR (sub s b 32) ((at_ s (a + 1)).toNat : Int)).1.L), .bool ((readR (sub s b 32) ((at_ s (a + 1)).toNat : Int)).1.b)])]) (e := 34) rfl [.int .i64 ((readR (sub s b 32) ((at_ s (a + 1)).toNat : Int)).1.P), .int .i64 ((readR (sub s b 32) ((at_ s (a + 1)).toNat : Int)).1.M), .int .i64 ((readR (sub s b 32) ((at_ s (a + 1)).toNat : Int)).1.S), .int .i64 ((readR (sub s b 32) ((at_ s (a + 1)).toNat : Int)).1.C), .int .i64 ((readR (sub s b 32) ((at_ s (a + 1)).toNat : Int)).1.L), .bool ((readR (sub s b 32) ((at_ s (a + 1)).toNat : Int)).1.b)] (by kernel_rfl) ?_
                        intro b115 w17 hb115 he115 hs115 hx115
                        have ne_b115_b13 : b115 ≠ b13 := by have h_ := hb13.lt; omega
                        have no_b115_ho : Value.ownBlock v2 ≠ some b115 := fun h_ => by have h2_ := (Go.XK.Own.lt ho _ h_).2; omega
                        have ge_b115 : w.heap.size ≤ b115 := by have h_ := (Below.size xw_w16); omega
                        have xw_w17 : Ext w w17 := Ext.tr xw_w16 hx115
                        replace hb13 := hb13.ext hx115
                        replace ho := ho.ext hx115
                        refine s_appendLit (w0 := w) (z := .agg #[.int .i64 0, .int .i64 0, .int .i64 0, .int .i64 0, .int .i64 0, .bool false]) (kk := 6) (bytes := 48) rfl rfl Try.underlying22 (by kernel_rfl) rfl (by decide) (fun _ => rfl) one_Img [⟨(readR (sub s b 32) ((at_ s (a + 1)).toNat : Int)).1.P, (readR (sub s b 32) ((at_ s (a + 1)).toNat : Int)).1.M, (readR (sub s b 32) ((at_ s (a + 1)).toNat : Int)).1.S, (readR (sub s b 32) ((at_ s (a + 1)).toNat : Int)).1.C, (readR (sub s b 32) ((at_ s (a + 1)).toNat : Int)).1.L, (readR (sub s b 32) ((at_ s (a + 1)).toNat : Int)).1.b⟩] ho xw_w17 hb115 rfl rfl (by first | (simp only [maxLen]; omega) | omega) (by first | (simp only [maxLen]; omega) | omega) ?_
                        intro v116 w18 ho116 xw_w18 hg116
                        refine Go.XK.s (v := v116) (e_assign rfl) ?_
                        refine sl_nil (nrm_k ?_)
                        refine sc_reg ?_
                        refine Go.XK.s (v := .int .i64 b) (e_move rfl) ?_
                        refine Go.XK.s (v := .int .i64 (b + 32)) (e_add rfl rfl (by omega)) ?_
                        refine Go.XK.s (v := .int .i64 (b + 32)) (e_assign rfl) ?_
                        refine sl_nil (nrm_k ?_)
                        refine sc_reg ?_
                        refine Go.XK.s (v := .int .i64 j) (e_move rfl) ?_
                        refine Go.XK.s (v := .int .i64 (j + 1)) (e_add rfl rfl (by omega)) ?_
                        refine Go.XK.s (v := .int .i64 (j + 1)) (e_assign rfl) ?_
                        refine sl_nil ?_
                        exact nrm_loopq rfl _ _ (by omega) ⟨i2 + 1, b + 32, j + 1, v116, _, rfl, rfl, xw_w18, ho116, ⟨⟨by omega, by omega, by omega⟩, ⟨by omega, by omega⟩, by
                          rw [hdec2, runF_go (by simp; omega), E_cons (by omega), runS_inl (by rw [step_img (by show (0 : Int) < _; omega), if_neg (by rw [← hbi]; exact c111)])]
                          rw [← hbi, show rdle (sub s (a + 2) 2) - j - 1 = rdle (sub s (a + 2) 2) - (j + 1) from by omega], by simp; omega⟩⟩ (.cons rfl (.cons rfl (.cons rfl (.cons rfl (.cons rfl (.cons rfl (.cons rfl (.nil))))))))
                  ·
                    refine sc_exit rfl (nrm_k ?_)
                    refine sc_seq ?_
                    refine sc_reg ?_
                    refine Go.XK.s (v := .int .u8 ((at_ s a).toNat)) (e_move rfl) ?_
                    refine Go.XK.s (v := .bool (decide ((at_ s a) = (145 : UInt8)))) (e_beq (a := (at_ s a)) (b := 145) rfl rfl) ?_
                    refine sl_nil (nrm_k ?_)
                    refine sc_ifd rfl (fun c120 => ?_) (fun c120 => ?_)
                    ·
                      have hmore : decide (at_ s a = 144) = false := by rw [c120]; rfl
                      refine sc_seq ?_
                      refine sc_reg ?_
                      refine Go.XK.s (v := v2) (e_move rfl) ?_
                      refine Go.XK.s (v := v2) (e_assign rfl) ?_
                      refine Go.XK.s (v := .int .i64 0) (e_assign rfl) ?_
                      refine sl_nil (nrm_k ?_)
                      refine sc_retf rfl (ret2 Try.results14 (rvt rfl) (rvt rfl) ?_)
                      exact ⟨_, _, _, rfl, by rw [hdec2, show rdle (sub s (a + 2) 2) - j = 0 from by omega, hmore]; exact runF_stop rfl rfl, ho, xw_w12⟩
                    ·
                      have hmore : decide (at_ s a = 144) = true := by
                        rcases Classical.em (at_ s a = 144) with h1_ | h1_
                        · simp [h1_]
                        · exact absurd ⟨h1_, c120⟩ hk78
                      refine sc_skip ?_
                      exact nrm_loopq rfl _ _ (by omega) ⟨i2, b, h + 1, ((at_ s (a + 1)).toNat : Int), v2, o2, rfl, rfl, xw_w12, ho, ⟨⟨by omega, by omega, by omega⟩, fun _ h_ => by omega, by rw [hdec2, show rdle (sub s (a + 2) 2) - j = 0 from by omega, hmore, runF_go (by simp)], by omega, by omega⟩⟩ (.cons rfl (.cons rfl (.cons rfl (.nil))))
            ·
              have hie : i = 64 := by omega
              refine sc_exit rfl (nrm_k ?_)
              refine sc_seq ?_
              refine sc_reg ?_
              refine Go.XK.s (v := .slice none 0 0) (e_assign rfl) ?_
              refine Go.XK.s (v := .int .i64 10) (e_assign rfl) ?_
              refine sl_nil (nrm_k ?_)
              refine sc_retf rfl (ret2 Try.results14 (rvt rfl) (rvt rfl) ?_)
              exact ⟨_, _, _, rfl, by rw [hdec, hie, E_end]; rfl, Go.XK.Own.nil _ _ _ _ _, xw_w7⟩

end Go.Proofs.Ytlgkjpmaekkpjaa
