/- Chapter 27: C6. Printed by my program wip/tools/wk.py. -/
import Derived.Test.YtlgkjpmaekkpjaaC5
import Derived.Test.YtlgkjpmaekkpjaaC3b
import Derived.Test.YtlgkjpmaekkpjaaMath2
set_option linter.unusedVariables false
set_option linter.unusedSimpArgs false
set_option maxRecDepth 4000
set_option maxHeartbeats 1000000
namespace Go.Proofs.Ytlgkjpmaekkpjaa
open Go.XK Go.RowKit
/-- masterdisc/masterdiscref27.Same (function 15) -/
theorem same_c (l m : List Img) (A A2 : Option Addr) (c c2 : Nat) (w : World) (hl : Rd w A 6 Img.enc l) (hm : Rd w A2 6 Img.enc m) (hlc : l.length ≤ 1099511627776) : CallR Try.prog 15 [.slice A l.length c, .slice A2 m.length c2] w (fun v w' => v = .bool (decide (l = m)) ∧ Ext w w') := by
  refine callR_of (n := 26) [(0, .slice A l.length c), (1, .slice A2 m.length c2)] Try.func15 rfl rfl (Nat.le_of_ble_eq_true rfl) rfl ?_
  refine sc_seq ?_
  refine sc_reg ?_
  refine Go.XK.s (v := .bool false) (e_assign rfl) ?_
  refine sl_nil (nrm_k ?_)
  refine sc_seq ?_
  refine sc_seq ?_
  refine sc_reg ?_
  refine Go.XK.s (v := .slice A l.length c) (e_move rfl) ?_
  refine Go.XK.s (v := .int .i64 (l.length : Int)) (e_len Try.underlying22 rfl) ?_
  refine Go.XK.s (v := .slice A2 m.length c2) (e_move rfl) ?_
  refine Go.XK.s (v := .int .i64 (m.length : Int)) (e_len Try.underlying22 rfl) ?_
  refine Go.XK.s (v := .bool (decide ((l.length : Int) ≠ (m.length : Int)))) (e_ne rfl rfl) ?_
  refine sl_nil (nrm_k ?_)
  refine sc_ifd rfl (fun c10 => ?_) (fun c10 => ?_)
  ·
    refine sc_seq ?_
    refine sc_reg ?_
    refine Go.XK.s (v := .bool false) (e_assign rfl) ?_
    refine sl_nil (nrm_k ?_)
    refine sc_retf rfl (ret1 Try.results15 (rvt rfl) ?_)
    exact ⟨congrArg Value.bool (decide_eq_false (fun h_ => by rw [h_] at c10; exact c10 rfl)).symm, (Ext.rfl' w)⟩
  ·
    refine sc_skip (nrm_k ?_)
    refine sc_seq ?_
    refine sc_seq ?_
    refine sc_reg ?_
    refine Go.XK.s (v := .int .i64 0) (e_assign rfl) ?_
    refine sl_nil (nrm_k ?_)
    refine sc_block ?_
    refine sc_loop (fun m_ l_ w_ => ∃ (k : Nat), m_ = l.length - k ∧ l_ = [(5, .int .i64 (k : Int)), (0, .slice A l.length c), (1, .slice A2 m.length c2)] ∧ Ext w w_ ∧ k ≤ l.length ∧ ∀ (j : Nat), j < k → l[j]? = m[j]?) _ [(5, .int .i64 (0 : Int)), (0, .slice A l.length c), (1, .slice A2 m.length c2)] ⟨0, rfl, rfl, (Ext.rfl' w), ⟨Nat.zero_le _, fun j hj => by omega⟩⟩ (.cons rfl (.cons rfl (.cons rfl (.nil)))) ?_
    rintro j2 _ w1 ⟨k, rfl, rfl, xw_w1, ⟨hk, hsame⟩⟩
    refine sc_seq ?_
    refine sc_seq ?_
    refine sc_reg ?_
    refine Go.XK.s (v := .int .i64 (k : Int)) (e_move rfl) ?_
    refine Go.XK.s (v := .slice A l.length c) (e_move rfl) ?_
    refine Go.XK.s (v := .int .i64 (l.length : Int)) (e_len Try.underlying22 rfl) ?_
    refine Go.XK.s (v := .bool (decide ((k : Int) < (l.length : Int)))) (e_lt rfl rfl) ?_
    refine sl_nil (nrm_k ?_)
    refine sc_ifd rfl (fun c14 => ?_) (fun c14 => ?_)
    ·
      obtain ⟨x, hx⟩ : ∃ x, l[k]? = some x := ⟨_, List.getElem?_eq_getElem (by omega)⟩
      obtain ⟨y, hy⟩ : ∃ y, m[k]? = some y := ⟨_, List.getElem?_eq_getElem (by omega)⟩
      refine sc_skip (nrm_k ?_)
      refine sc_seq ?_
      refine sc_block ?_
      refine sc_seq ?_
      refine sc_free [(14, .bool (decide ((k : Int) < (l.length : Int)))), (13, .int .i64 (l.length : Int)), (12, .slice A l.length c), (11, .int .i64 (k : Int)), (5, .int .i64 (k : Int)), (0, .slice A l.length c), (1, .slice A2 m.length c2)] [17, 18, 19, 20, 21, 22, 23, 24, 25] [(Is (.slice A l.length c)), (Is (.int .i64 (k : Int))), (Is (.pointer (some (el A 6 (k : Int) 0)))), (Is (.agg #[.int .i64 x.P, .int .i64 x.M, .int .i64 x.S, .int .i64 x.C, .int .i64 x.L, .bool x.b])), (Is (.slice A2 m.length c2)), (Is (.int .i64 (k : Int))), (Is (.pointer (some (el A2 6 (k : Int) 0)))), (Is (.agg #[.int .i64 y.P, .int .i64 y.M, .int .i64 y.S, .int .i64 y.C, .int .i64 y.L, .bool y.b])), (Is (.bool (decide (x ≠ y))))] [] (by kernel_rfl) (Sub.refl _) (by kernel_rfl) (by kernel_rfl) (by kernel_rfl) rfl (by kernel_rfl) (ds_ext (Stays.spec (.is _ (.is _ (.is _ (.is _ (.is _ (.is _ (.is _ (.is _ (.is _ (.nil)))))))))))) ⟨?_, ?_, ?_, ?_, ?_, ?_, ?_, ?_, ?_, trivial⟩ ?_
      · intro Q act_ wI hxI ha hp
        have xw_wI : Ext w wI := Ext.tr xw_w1 hxI
        exact h_evA (v := .slice A l.length c) ha rfl (e_move rfl) rfl rfl (Ext.rfl' _)
      · intro Q act_ wI hxI ha hp
        have xw_wI : Ext w wI := Ext.tr xw_w1 hxI
        exact h_evA (v := .int .i64 (k : Int)) ha rfl (e_move rfl) rfl rfl (Ext.rfl' _)
      · intro Q act_ wI hxI ha hp
        have xw_wI : Ext w wI := Ext.tr xw_w1 hxI
        have ha := ha.add (show act_.tmps.getD 17 undef = .slice A l.length c from hp 0 (by kernel_rfl) (by decide))
        have ha := ha.add (show act_.tmps.getD 18 undef = .int .i64 (k : Int) from hp 1 (by kernel_rfl) (by decide))
        exact h_evA (v := .pointer (some (el A 6 (k : Int) 0))) ha rfl (e_idxEl (e := x) Try.underlying22 Try.sizeOf34 rfl rfl (hl.ext xw_wI) hx (by omega) rfl) rfl rfl (Ext.rfl' _)
      · intro Q act_ wI hxI ha hp
        have xw_wI : Ext w wI := Ext.tr xw_w1 hxI
        have ha := ha.add (show act_.tmps.getD 19 undef = .pointer (some (el A 6 (k : Int) 0)) from hp 2 (by kernel_rfl) (by decide))
        exact h_evA (v := .agg #[.int .i64 x.P, .int .i64 x.M, .int .i64 x.S, .int .i64 x.C, .int .i64 x.L, .bool x.b]) ha rfl (e_ldElA (xs := l) (enc := Img.enc) (e := x) rfl (hl.ext xw_wI) hx Try.isAgg34 Try.sizeOf34 rfl) rfl rfl (Ext.rfl' _)
      · intro Q act_ wI hxI ha hp
        have xw_wI : Ext w wI := Ext.tr xw_w1 hxI
        exact h_evA (v := .slice A2 m.length c2) ha rfl (e_move rfl) rfl rfl (Ext.rfl' _)
      · intro Q act_ wI hxI ha hp
        have xw_wI : Ext w wI := Ext.tr xw_w1 hxI
        exact h_evA (v := .int .i64 (k : Int)) ha rfl (e_move rfl) rfl rfl (Ext.rfl' _)
      · intro Q act_ wI hxI ha hp
        have xw_wI : Ext w wI := Ext.tr xw_w1 hxI
        have ha := ha.add (show act_.tmps.getD 21 undef = .slice A2 m.length c2 from hp 4 (by kernel_rfl) (by decide))
        have ha := ha.add (show act_.tmps.getD 22 undef = .int .i64 (k : Int) from hp 5 (by kernel_rfl) (by decide))
        exact h_evA (v := .pointer (some (el A2 6 (k : Int) 0))) ha rfl (e_idxEl (e := y) Try.underlying22 Try.sizeOf34 rfl rfl (hm.ext xw_wI) hy (by omega) rfl) rfl rfl (Ext.rfl' _)
      · intro Q act_ wI hxI ha hp
        have xw_wI : Ext w wI := Ext.tr xw_w1 hxI
        have ha := ha.add (show act_.tmps.getD 23 undef = .pointer (some (el A2 6 (k : Int) 0)) from hp 6 (by kernel_rfl) (by decide))
        exact h_evA (v := .agg #[.int .i64 y.P, .int .i64 y.M, .int .i64 y.S, .int .i64 y.C, .int .i64 y.L, .bool y.b]) ha rfl (e_ldElA (xs := m) (enc := Img.enc) (e := y) rfl (hm.ext xw_wI) hy Try.isAgg34 Try.sizeOf34 rfl) rfl rfl (Ext.rfl' _)
      · intro Q act_ wI hxI ha hp
        have xw_wI : Ext w wI := Ext.tr xw_w1 hxI
        have ha := ha.add (show act_.tmps.getD 20 undef = .agg #[.int .i64 x.P, .int .i64 x.M, .int .i64 x.S, .int .i64 x.C, .int .i64 x.L, .bool x.b] from hp 3 (by kernel_rfl) (by decide))
        have ha := ha.add (show act_.tmps.getD 24 undef = .agg #[.int .i64 y.P, .int .i64 y.M, .int .i64 y.S, .int .i64 y.C, .int .i64 y.L, .bool y.b] from hp 7 (by kernel_rfl) (by decide))
        exact h_evA (v := .bool (decide (x ≠ y))) ha rfl (e_bin rfl rfl (run_neq_img _ _ x y _)) rfl rfl (Ext.rfl' _)
      intro vs_ w3 hx_w3 hvs act_ ha hv
      have xw_w3 : Ext w w3 := Ext.tr xw_w1 hx_w3
      have ha := ha.add ((hv 8 (by decide)).trans (show vs_ 8 = .bool (decide (x ≠ y)) from hvs 8 (by decide)))
      refine st_go ha ?_
      clear ha hv hvs
      refine st_nil (nrm_k ?_)
      refine sc_ifd rfl (fun c25 => ?_) (fun c25 => ?_)
      ·
        refine sc_seq ?_
        refine sc_reg ?_
        refine Go.XK.s (v := .bool false) (e_assign rfl) ?_
        refine sl_nil (nrm_k ?_)
        refine sc_retf rfl (ret1 Try.results15 (rvt rfl) ?_)
        exact ⟨congrArg Value.bool (decide_eq_false (fun h_ => by rw [h_] at hx; rw [hx] at hy; exact c25 (Option.some.inj hy))).symm, xw_w3⟩
      ·
        refine sc_skip (nrm_k ?_)
        refine sc_reg ?_
        refine Go.XK.s (v := .int .i64 (k : Int)) (e_move rfl) ?_
        refine Go.XK.s (v := .int .i64 ((k : Int) + 1)) (e_add rfl rfl (by omega)) ?_
        refine Go.XK.s (v := .int .i64 ((k : Int) + 1)) (e_assign rfl) ?_
        refine sl_nil ?_
        exact nrm_loopq rfl _ _ (by omega) ⟨k + 1, rfl, rfl, xw_w3, ⟨by omega, fun j hj => by
          rcases Nat.lt_or_ge j k with h_ | h_
          · exact hsame j h_
          · rw [show j = k from by omega, hx, hy, Classical.not_not.1 c25]⟩⟩ (.cons rfl (.cons rfl (.cons rfl (.nil))))
    ·
      refine sc_exit rfl (nrm_k ?_)
      refine sc_seq ?_
      refine sc_reg ?_
      refine Go.XK.s (v := .bool true) (e_assign rfl) ?_
      refine sl_nil (nrm_k ?_)
      refine sc_retf rfl (ret1 Try.results15 (rvt rfl) ?_)
      exact ⟨congrArg Value.bool (decide_eq_true (List.ext_getElem? (fun j => by
        rcases Nat.lt_or_ge j k with h_ | h_
        · exact hsame j h_
        · rw [List.getElem?_eq_none (by omega), List.getElem?_eq_none (by omega)]))).symm, xw_w1⟩

/-- masterdisc/endian.inside (function 69) -/
theorem inside_c (s : List UInt8) (p : Int) (z : Nat) (w : World) (hs : s.length ≤ 1099511627776) (hz : z ≤ 7) : CallR Try.prog 69 [.string (B s), .int .i64 p, .int .i64 (z : Int)] w (fun v w' => v = .bool (decide (0 ≤ p) && decide (p ≤ (s.length : Int) - (z : Int))) ∧ Ext w w') := by
  refine callR_of (n := 17) [(0, .string (B s)), (1, .int .i64 p), (2, .int .i64 (z : Int))] Try.func69 rfl rfl (Nat.le_of_ble_eq_true rfl) rfl ?_
  refine sc_seq ?_
  refine sc_reg ?_
  refine Go.XK.s (v := .bool false) (e_assign rfl) ?_
  refine sl_nil (nrm_k ?_)
  refine sc_seq ?_
  refine sc_reg ?_
  refine Go.XK.s (v := .int .i64 p) (e_move rfl) ?_
  refine Go.XK.s (v := .bool (decide ((0 : Int) ≤ p))) (e_ge rfl rfl) ?_
  refine Go.XK.s (v := .bool (decide ((0 : Int) ≤ p))) (e_move rfl) ?_
  refine sl_merge 7 16 (.bool ((decide ((0 : Int) ≤ p)) && (decide (p ≤ (s.length : Int) - (z : Int))))) ?_ ?_
  · refine sl_case (t := 9) rfl (fun g1_2 => ?_) (fun g1_2 => ?_)
    ·
      refine sl_gev (v := .int .i64 p) rfl rfl g1_2 (e_move rfl) rfl (by decide) ?_
      refine sl_gev (v := .string (B s)) rfl rfl g1_2 (e_move rfl) rfl (by decide) ?_
      refine sl_gev (v := .int .i64 (s.length : Int)) rfl rfl g1_2 (e_slen Try.underlying9 rfl) rfl (by decide) ?_
      refine sl_gev (v := .int .i64 (z : Int)) rfl rfl g1_2 (e_move rfl) rfl (by decide) ?_
      refine sl_gev (v := .int .i64 ((s.length : Int) - (z : Int))) rfl rfl g1_2 (e_sub rfl rfl (by omega)) rfl (by decide) ?_
      refine sl_gev (v := .bool (decide (p ≤ (s.length : Int) - (z : Int)))) rfl rfl g1_2 (e_le rfl rfl) rfl (by decide) ?_
      refine Go.XK.s (v := .bool (decide (p ≤ (s.length : Int) - (z : Int)))) (e_pickT rfl g1_2 rfl) ?_
      exact sl_nil (fun a ha => ⟨rfl, ha.sub (.cons (by rw [g1_2]; rfl) (sub_self_cons (sub_self_cons (sub_self_cons (sub_self_cons (sub_self_cons (sub_self_cons (sub_self_cons (Sub.refl _) rfl) rfl) rfl) rfl) rfl) rfl) rfl))⟩)
    ·
      refine sl_gskip rfl rfl g1_2 (by decide) ?_
      refine sl_gskip rfl rfl g1_2 (by decide) ?_
      refine sl_gskip rfl rfl g1_2 (by decide) ?_
      refine sl_gskip rfl rfl g1_2 (by decide) ?_
      refine sl_gskip rfl rfl g1_2 (by decide) ?_
      refine sl_gskip rfl rfl g1_2 (by decide) ?_
      refine Go.XK.s (v := .bool false) (e_pickF rfl g1_2 rfl) ?_
      exact sl_nil (fun a ha => ⟨rfl, ha.sub (.cons (by rw [g1_2]; rfl) (sub_self_cons (sub_self_cons (sub_self_cons (sub_self_cons (sub_self_cons (sub_self_cons (sub_self_cons (Sub.refl _) rfl) rfl) rfl) rfl) rfl) rfl) rfl))⟩)
  refine Go.XK.s (v := .bool ((decide ((0 : Int) ≤ p)) && (decide (p ≤ (s.length : Int) - (z : Int))))) (e_assign rfl) ?_
  refine sl_nil (nrm_k ?_)
  refine sc_retf rfl (ret1 Try.results69 (rvt rfl) ?_)
  exact ⟨rfl, (Ext.rfl' w)⟩

/-- masterdisc/endian.read (function 65) -/
theorem eread_c (s : List UInt8) (p : Int) (z : Nat) (w : World) (hs : s.length ≤ 1099511627776) (h0 : 0 ≤ p) (hp : p + z ≤ s.length) (h1 : 1 ≤ z) (hz : z ≤ 7) : CallR Try.prog 65 [.string (B s), .int .i64 p, .int .i64 (z : Int), .func (.func 68) #[] #[]] w (fun v w' => v = .tuple #[.int .i64 (rdle (sub s p z)), .int .i64 0] ∧ Ext w w') := by
  refine callR_of (n := 47) [(0, .string (B s)), (1, .int .i64 p), (2, .int .i64 (z : Int)), (3, .func (.func 68) #[] #[])] Try.func65 rfl rfl (Nat.le_of_ble_eq_true rfl) rfl ?_
  refine sc_seq ?_
  refine sc_reg ?_
  refine Go.XK.s (v := .int .i64 0) (e_assign rfl) ?_
  refine Go.XK.s (v := .int .i64 0) (e_assign rfl) ?_
  refine sl_nil (nrm_k ?_)
  refine sc_seq ?_
  refine sc_block ?_
  refine sc_seq ?_
  refine sc_reg ?_
  refine Go.XK.s (v := .int .i64 (z : Int)) (e_move rfl) ?_
  refine Go.XK.s (v := .bool (decide ((z : Int) < 1))) (e_lt rfl rfl) ?_
  refine Go.XK.s (v := .bool (decide ((z : Int) < 1))) (e_move rfl) ?_
  refine sl_merge 3 18 (.bool ((decide ((z : Int) < 1)) || (decide ((8 : Int) < (z : Int))))) ?_ ?_
  · refine sl_case (t := 15) rfl (fun g1_2 => ?_) (fun g1_2 => ?_)
    ·
      refine sl_gskip rfl rfl g1_2 (by decide) ?_
      refine sl_gskip rfl rfl g1_2 (by decide) ?_
      refine Go.XK.s (v := .bool true) (e_pickT rfl g1_2 rfl) ?_
      exact sl_nil (fun a ha => ⟨rfl, ha.sub (.cons (by rw [g1_2]; rfl) (sub_self_cons (sub_self_cons (sub_self_cons (Sub.refl _) rfl) rfl) rfl))⟩)
    ·
      refine sl_gev (v := .int .i64 (z : Int)) rfl rfl g1_2 (e_move rfl) rfl (by decide) ?_
      refine sl_gev (v := .bool (decide ((8 : Int) < (z : Int)))) rfl rfl g1_2 (e_gt rfl rfl) rfl (by decide) ?_
      refine Go.XK.s (v := .bool (decide ((8 : Int) < (z : Int)))) (e_pickF rfl g1_2 rfl) ?_
      exact sl_nil (fun a ha => ⟨rfl, ha.sub (.cons (by rw [g1_2]; rfl) (sub_self_cons (sub_self_cons (sub_self_cons (Sub.refl _) rfl) rfl) rfl))⟩)
  refine Go.XK.s (v := .bool ((decide ((z : Int) < 1)) || (decide ((8 : Int) < (z : Int))))) (e_assign rfl) ?_
  refine sl_nil (nrm_k ?_)
  refine sc_no rfl (by simp; omega) ?_
  refine sc_seq ?_
  refine sc_reg ?_
  refine Go.XK.s (v := .string (B s)) (e_move rfl) ?_
  refine Go.XK.s (v := .int .i64 p) (e_move rfl) ?_
  refine Go.XK.s (v := .int .i64 (z : Int)) (e_move rfl) ?_
  refine sl_call ent69 rfl rfl (inside_c _ _ z w (by omega) (by omega)) (by decide) ?_
  rintro _ w1 ⟨rfl, hw1⟩
  have xw_w1 : Ext w w1 := Ext.tr (Ext.rfl' w) hw1
  refine Go.XK.s (v := .bool (!(decide (0 ≤ p) && decide (p ≤ (s.length : Int) - (z : Int))))) (e_not rfl) ?_
  refine Go.XK.s (v := .bool (!(decide (0 ≤ p) && decide (p ≤ (s.length : Int) - (z : Int))))) (e_assign rfl) ?_
  refine sl_nil (nrm_k ?_)
  refine sc_no rfl (by simp; omega) ?_
  refine sc_skip (nrm_k ?_)
  refine sc_seq ?_
  refine sc_reg ?_
  refine Go.XK.s (v := .int .u64 0) (e_assign rfl) ?_
  refine sl_nil (nrm_k ?_)
  refine sc_seq ?_
  refine sc_seq ?_
  refine sc_reg ?_
  refine Go.XK.s (v := .int .i64 (z : Int)) (e_move rfl) ?_
  refine Go.XK.s (v := .int .i64 0) (e_move rfl) ?_
  refine sl_nil (nrm_k ?_)
  refine sc_block ?_
  refine sc_loop (fun m_ l_ w_ => ∃ (k : Nat) (a : Int), m_ = z - k ∧ l_ = [(10, .int .u64 a), (26, .int .i64 (k : Int)), (0, .string (B s)), (1, .int .i64 p), (2, .int .i64 (z : Int)), (3, .func (.func 68) #[] #[]), (25, .int .i64 (z : Int))] ∧ Ext w w_ ∧ k ≤ z ∧ a = rdle (sub s p k)) _ [(10, .int .u64 0), (26, .int .i64 (0 : Int)), (0, .string (B s)), (1, .int .i64 p), (2, .int .i64 (z : Int)), (3, .func (.func 68) #[] #[]), (25, .int .i64 (z : Int))] ⟨0, 0, rfl, rfl, xw_w1, ⟨Nat.zero_le _, by simp [sub, rdle]⟩⟩ (.cons rfl (.cons rfl (.cons rfl (.cons rfl (.cons rfl (.cons rfl (.cons rfl (.nil)))))))) ?_
  rintro j3 _ w2 ⟨k, a, rfl, rfl, xw_w2, ⟨hk, ha⟩⟩
  have hab := rdle_bound (sub s p k)
  rw [← ha, sub_length h0 (by omega)] at hab
  refine sc_seq ?_
  refine sc_reg ?_
  refine Go.XK.s (v := .bool (decide ((k : Int) < (z : Int)))) (e_lt rfl rfl) ?_
  refine sl_nil (nrm_k ?_)
  refine sc_seq ?_
  refine sc_ifd rfl (fun c27 => ?_) (fun c27 => ?_)
  ·
    refine sc_skip (nrm_k ?_)
    refine sc_seq ?_
    refine sc_block ?_
    refine sc_seq ?_
    refine sc_reg ?_
    refine Go.XK.s (v := .int .i64 (k : Int)) (e_move rfl) ?_
    refine Go.XK.s (v := .int .i64 (k : Int)) (e_assign rfl) ?_
    refine sl_nil (nrm_k ?_)
    refine sc_reg ?_
    refine Go.XK.s (v := .int .u64 a) (e_move rfl) ?_
    refine Go.XK.s (v := .string (B s)) (e_move rfl) ?_
    refine Go.XK.s (v := .int .i64 p) (e_move rfl) ?_
    refine Go.XK.s (v := .func (.func 68) #[] #[]) (e_move rfl) ?_
    refine Go.XK.s (v := .int .i64 (k : Int)) (e_move rfl) ?_
    refine sl_call ent68 rfl rfl (up1_c _ w2) (by decide) ?_
    rintro _ w4 ⟨rfl, hw4⟩
    have xw_w4 : Ext w w4 := Ext.tr xw_w2 hw4
    refine Go.XK.s (v := .int .i64 (p + (k : Int))) (e_add rfl rfl (by omega)) ?_
    refine Go.XK.s (v := .int .u8 ((at_ s (p + (k : Int))).toNat)) (e_sat Try.underlying9 rfl rfl (by omega) (by omega)) ?_
    refine Go.XK.s (v := .int .u64 ((at_ s (p + (k : Int))).toNat : Int)) (e_u8int (c := at_ s (p + (k : Int))) Try.underlying5 Try.underlying85 (by decide) rfl) ?_
    refine Go.XK.s (v := .int .i64 (k : Int)) (e_move rfl) ?_
    refine Go.XK.s (v := .int .i64 ((8 : Int) * (k : Int))) (e_mul rfl rfl (by omega)) ?_
    refine Go.XK.s (v := .int .u64 (((at_ s (p + (k : Int))).toNat : Int) * 256 ^ k)) (e_shlu (at_ s (p + (k : Int))) k (by omega) rfl rfl) ?_
    refine Go.XK.s (v := .int .u64 (a + ((at_ s (p + (k : Int))).toNat : Int) * 256 ^ k)) (e_oru (at_ s (p + (k : Int))) k (by omega) hab.1 hab.2 rfl rfl) ?_
    refine Go.XK.s (v := .int .u64 (a + ((at_ s (p + (k : Int))).toNat : Int) * 256 ^ k)) (e_assign rfl) ?_
    refine sl_nil (nrm_k ?_)
    refine sc_reg ?_
    refine Go.XK.s (v := .int .i64 ((k : Int) + 1)) (e_add rfl rfl (by omega)) ?_
    refine Go.XK.s (v := .int .i64 ((k : Int) + 1)) (e_move rfl) ?_
    refine sl_nil ?_
    exact nrm_loopq rfl _ _ (by omega) ⟨k + 1, a + ((at_ s (p + (k : Int))).toNat : Int) * 256 ^ k, rfl, rfl, xw_w4, ⟨by omega, by rw [ha, rdle_sub_succ h0 (by omega)]⟩⟩ (.cons rfl (.cons rfl (.cons rfl (.cons rfl (.cons rfl (.cons rfl (.cons rfl (.nil))))))))
  ·
    rw [show k = z from by omega] at ha hab
    have hp7 := p256 z hz
    refine sc_exit rfl (nrm_k ?_)
    refine sc_seq ?_
    refine sc_seq ?_
    refine sc_reg ?_
    refine Go.XK.s (v := .int .u64 a) (e_move rfl) ?_
    refine Go.XK.s (v := .bool (decide ((9223372036854775807 : Int) < a))) (e_gt rfl rfl) ?_
    refine sl_nil (nrm_k ?_)
    refine sc_no rfl (by simp; omega) ?_
    refine sc_skip (nrm_k ?_)
    refine sc_seq ?_
    refine sc_reg ?_
    refine Go.XK.s (v := .int .u64 a) (e_move rfl) ?_
    refine Go.XK.s (v := .int .i64 a) (e_conv Try.underlying85 Try.underlying3 rfl (i64_id (by omega) (by omega))) ?_
    refine Go.XK.s (v := .int .i64 a) (e_assign rfl) ?_
    refine Go.XK.s (v := .int .i64 0) (e_assign rfl) ?_
    refine sl_nil (nrm_k ?_)
    refine sc_retf rfl (ret2 Try.results65 (rvt rfl) (rvt rfl) ?_)
    exact ⟨by rw [ha], xw_w2⟩

/-- masterdisc/endian.ReadLittle (function 51) -/
theorem readl_c (s : List UInt8) (p : Int) (z : Nat) (w : World) (hs : s.length ≤ 1099511627776) (h0 : 0 ≤ p) (hp : p + z ≤ s.length) (h1 : 1 ≤ z) (hz : z ≤ 7) : CallR Try.prog 51 [.string (B s), .int .i64 p, .int .i64 (z : Int)] w (fun v w' => v = .tuple #[.int .i64 (rdle (sub s p z)), .int .i64 0] ∧ Ext w w') := by
  refine callR_of (n := 16) [(0, .string (B s)), (1, .int .i64 p), (2, .int .i64 (z : Int))] Try.func51 rfl rfl (Nat.le_of_ble_eq_true rfl) rfl ?_
  refine sc_seq ?_
  refine sc_reg ?_
  refine Go.XK.s (v := .int .i64 0) (e_assign rfl) ?_
  refine Go.XK.s (v := .int .i64 0) (e_assign rfl) ?_
  refine sl_nil (nrm_k ?_)
  refine sc_seq ?_
  refine sc_reg ?_
  refine Go.XK.s (v := .string (B s)) (e_move rfl) ?_
  refine Go.XK.s (v := .int .i64 p) (e_move rfl) ?_
  refine Go.XK.s (v := .int .i64 (z : Int)) (e_move rfl) ?_
  refine Go.XK.s (v := .int .i64 (z : Int)) (e_move rfl) ?_
  refine sl_call ent61 rfl rfl (up_c _ w) (by decide) ?_
  rintro _ w1 ⟨rfl, hw1⟩
  have xw_w1 : Ext w w1 := Ext.tr (Ext.rfl' w) hw1
  refine sl_call ent65 rfl rfl (eread_c s p z w1 (by omega) (by omega) (by omega) (by omega) (by omega)) (by decide) ?_
  rintro _ w2 ⟨rfl, hw2⟩
  have xw_w2 : Ext w w2 := Ext.tr xw_w1 hw2
  refine Go.XK.s (v := .int .i64 (rdle (sub s p z))) (e_extract (vs := [.int .i64 (rdle (sub s p z)), .int .i64 0]) rfl rfl) ?_
  refine Go.XK.s (v := .int .i64 0) (e_extract (vs := [.int .i64 (rdle (sub s p z)), .int .i64 0]) rfl rfl) ?_
  refine Go.XK.s (v := .int .i64 (rdle (sub s p z))) (e_assign rfl) ?_
  refine Go.XK.s (v := .int .i64 0) (e_assign rfl) ?_
  refine sl_nil (nrm_k ?_)
  refine sc_retf rfl (ret2 Try.results51 (rvt rfl) (rvt rfl) ?_)
  exact ⟨rfl, xw_w2⟩

/-- masterdisc/eltorito.read (function 35) -/
theorem cread_c (s : List UInt8) (p : Int) (z : Nat) (w : World) (hs : s.length ≤ 1099511627776) (h0 : 0 ≤ p) (hp : p + z ≤ s.length) (h1 : 1 ≤ z) (hz : z ≤ 7) : CallR Try.prog 35 [.string (B s), .int .i64 p, .int .i64 (z : Int)] w (fun v w' => v = .int .i64 (rdle (sub s p z)) ∧ Ext w w') := by
  refine callR_of (n := 17) [(0, .string (B s)), (1, .int .i64 p), (2, .int .i64 (z : Int))] Try.func35 rfl rfl (Nat.le_of_ble_eq_true rfl) rfl ?_
  refine sc_seq ?_
  refine sc_reg ?_
  refine Go.XK.s (v := .int .i64 0) (e_assign rfl) ?_
  refine sl_nil (nrm_k ?_)
  refine sc_seq ?_
  refine sc_reg ?_
  refine Go.XK.s (v := .string (B s)) (e_move rfl) ?_
  refine Go.XK.s (v := .int .i64 p) (e_move rfl) ?_
  refine Go.XK.s (v := .int .i64 (z : Int)) (e_move rfl) ?_
  refine sl_call ent51 rfl rfl (readl_c s p z w (by omega) (by omega) (by omega) (by omega) (by omega)) (by decide) ?_
  rintro _ w1 ⟨rfl, hw1⟩
  have xw_w1 : Ext w w1 := Ext.tr (Ext.rfl' w) hw1
  refine Go.XK.s (v := .tuple #[.int .i64 (rdle (sub s p z)), .int .i64 0]) (e_move rfl) ?_
  refine Go.XK.s (v := .int .i64 (rdle (sub s p z))) (e_extract (vs := [.int .i64 (rdle (sub s p z)), .int .i64 0]) rfl rfl) ?_
  refine Go.XK.s (v := .int .i64 0) (e_extract (vs := [.int .i64 (rdle (sub s p z)), .int .i64 0]) rfl rfl) ?_
  refine Go.XK.s (v := .int .i64 (rdle (sub s p z))) (e_assign rfl) ?_
  refine Go.XK.s (v := .int .i64 0) (e_assign rfl) ?_
  refine sl_nil (nrm_k ?_)
  refine sc_seq ?_
  refine sc_reg ?_
  refine Go.XK.s (v := .int .i64 (rdle (sub s p z))) (e_move rfl) ?_
  refine Go.XK.s (v := .int .i64 (rdle (sub s p z))) (e_assign rfl) ?_
  refine sl_nil (nrm_k ?_)
  refine sc_retf rfl (ret1 Try.results35 (rvt rfl) ?_)
  exact ⟨rfl, xw_w1⟩

/-- masterdisc/masterdiscref01.part (function 52) -/
theorem rpart_c (s : List UInt8) (p : Int) (z : Nat) (w : World) (hs : s.length ≤ 1099511627776) (h0 : 0 ≤ p) (hp : p + z ≤ s.length) (h1 : 1 ≤ z) (hz : z ≤ 7) : CallR Try.prog 52 [.string (B s), .int .i64 p, .int .i64 (z : Int)] w (fun v w' => v = .tuple #[.string (B (sub s p z)), .bool true] ∧ Ext w w') := by
  refine callR_of (n := 30) [(0, .string (B s)), (1, .int .i64 p), (2, .int .i64 (z : Int))] Try.func52 rfl rfl (Nat.le_of_ble_eq_true rfl) rfl ?_
  refine sc_seq ?_
  refine sc_reg ?_
  refine Go.XK.s (v := .string (B [])) (e_assign rfl) ?_
  refine Go.XK.s (v := .bool false) (e_assign rfl) ?_
  refine sl_nil (nrm_k ?_)
  refine sc_seq ?_
  refine sc_seq ?_
  refine sc_reg ?_
  refine Go.XK.s (v := .int .i64 p) (e_move rfl) ?_
  refine Go.XK.s (v := .bool (decide (p < 0))) (e_lt rfl rfl) ?_
  refine Go.XK.s (v := .bool (decide (p < 0))) (e_move rfl) ?_
  refine sl_merge 5 15 (.bool ((decide (p < 0)) || (decide ((s.length : Int) < p)))) ?_ ?_
  · refine sl_case (t := 10) rfl (fun g1_2 => ?_) (fun g1_2 => ?_)
    ·
      refine sl_gskip rfl rfl g1_2 (by decide) ?_
      refine sl_gskip rfl rfl g1_2 (by decide) ?_
      refine sl_gskip rfl rfl g1_2 (by decide) ?_
      refine sl_gskip rfl rfl g1_2 (by decide) ?_
      refine Go.XK.s (v := .bool true) (e_pickT rfl g1_2 rfl) ?_
      exact sl_nil (fun a ha => ⟨rfl, ha.sub (.cons (by rw [g1_2]; rfl) (sub_self_cons (sub_self_cons (sub_self_cons (sub_self_cons (sub_self_cons (Sub.refl _) rfl) rfl) rfl) rfl) rfl))⟩)
    ·
      refine sl_gev (v := .int .i64 p) rfl rfl g1_2 (e_move rfl) rfl (by decide) ?_
      refine sl_gev (v := .string (B s)) rfl rfl g1_2 (e_move rfl) rfl (by decide) ?_
      refine sl_gev (v := .int .i64 (s.length : Int)) rfl rfl g1_2 (e_slen Try.underlying9 rfl) rfl (by decide) ?_
      refine sl_gev (v := .bool (decide ((s.length : Int) < p))) rfl rfl g1_2 (e_gt rfl rfl) rfl (by decide) ?_
      refine Go.XK.s (v := .bool (decide ((s.length : Int) < p))) (e_pickF rfl g1_2 rfl) ?_
      exact sl_nil (fun a ha => ⟨rfl, ha.sub (.cons (by rw [g1_2]; rfl) (sub_self_cons (sub_self_cons (sub_self_cons (sub_self_cons (sub_self_cons (Sub.refl _) rfl) rfl) rfl) rfl) rfl))⟩)
  refine Go.XK.s (v := .bool ((decide (p < 0)) || (decide ((s.length : Int) < p)))) (e_move rfl) ?_
  refine sl_merge 7 23 (.bool (((decide (p < 0)) || (decide ((s.length : Int) < p))) || (decide ((s.length : Int) - p < (z : Int))))) ?_ ?_
  · refine sl_case (t := 16) rfl (fun g1_8 => ?_) (fun g1_8 => ?_)
    ·
      refine sl_gskip rfl rfl g1_8 (by decide) ?_
      refine sl_gskip rfl rfl g1_8 (by decide) ?_
      refine sl_gskip rfl rfl g1_8 (by decide) ?_
      refine sl_gskip rfl rfl g1_8 (by decide) ?_
      refine sl_gskip rfl rfl g1_8 (by decide) ?_
      refine sl_gskip rfl rfl g1_8 (by decide) ?_
      refine Go.XK.s (v := .bool true) (e_pickT rfl g1_8 rfl) ?_
      exact sl_nil (fun a ha => ⟨rfl, ha.sub (.cons (by rw [g1_8]; rfl) (sub_self_cons (sub_self_cons (sub_self_cons (sub_self_cons (sub_self_cons (sub_self_cons (sub_self_cons (Sub.refl _) rfl) rfl) rfl) rfl) rfl) rfl) rfl))⟩)
    ·
      refine sl_gev (v := .string (B s)) rfl rfl g1_8 (e_move rfl) rfl (by decide) ?_
      refine sl_gev (v := .int .i64 (s.length : Int)) rfl rfl g1_8 (e_slen Try.underlying9 rfl) rfl (by decide) ?_
      refine sl_gev (v := .int .i64 p) rfl rfl g1_8 (e_move rfl) rfl (by decide) ?_
      refine sl_gev (v := .int .i64 ((s.length : Int) - p)) rfl rfl g1_8 (e_sub rfl rfl (by omega)) rfl (by decide) ?_
      refine sl_gev (v := .int .i64 (z : Int)) rfl rfl g1_8 (e_move rfl) rfl (by decide) ?_
      refine sl_gev (v := .bool (decide ((s.length : Int) - p < (z : Int)))) rfl rfl g1_8 (e_lt rfl rfl) rfl (by decide) ?_
      refine Go.XK.s (v := .bool (decide ((s.length : Int) - p < (z : Int)))) (e_pickF rfl g1_8 rfl) ?_
      exact sl_nil (fun a ha => ⟨rfl, ha.sub (.cons (by rw [g1_8]; rfl) (sub_self_cons (sub_self_cons (sub_self_cons (sub_self_cons (sub_self_cons (sub_self_cons (sub_self_cons (Sub.refl _) rfl) rfl) rfl) rfl) rfl) rfl) rfl))⟩)
  refine sl_nil (nrm_k ?_)
  refine sc_no rfl (by simp; omega) ?_
  refine sc_skip (nrm_k ?_)
  refine sc_seq ?_
  refine sc_reg ?_
  refine Go.XK.s (v := .string (B s)) (e_move rfl) ?_
  refine Go.XK.s (v := .int .i64 p) (e_move rfl) ?_
  refine Go.XK.s (v := .int .i64 p) (e_move rfl) ?_
  refine Go.XK.s (v := .int .i64 (z : Int)) (e_move rfl) ?_
  refine Go.XK.s (v := .int .i64 (p + (z : Int))) (e_add rfl rfl (by omega)) ?_
  refine Go.XK.s (v := .string (B ((s.take ((p + (z : Int)).toNat)).drop p.toNat))) (e_sslice (lo := p.toNat) (hi := (p + (z : Int)).toNat) Try.underlying9 rfl (Bd.at_ rfl (by omega)) (Bd.at_ rfl (by omega)) (by omega) (by omega)) ?_
  refine Go.XK.s (v := .string (B ((s.take ((p + (z : Int)).toNat)).drop p.toNat))) (e_assign rfl) ?_
  refine Go.XK.s (v := .bool true) (e_assign rfl) ?_
  refine sl_nil (nrm_k ?_)
  refine sc_retf rfl (ret2 Try.results52 (rvt rfl) (rvt rfl) ?_)
  exact ⟨by rw [show (s.take (p + (z : Int)).toNat).drop p.toNat = sub s p z from by rw [sub, show (p + (z : Int)).toNat = p.toNat + z from by omega, List.drop_take]; simp], (Ext.rfl' w)⟩

/-- masterdisc/masterdiscref01.value (function 53) -/
theorem rvalue_c (s : List UInt8) (w : World) (hs : s.length ≤ 7) : CallR Try.prog 53 [.string (B s)] w (fun v w' => v = .tuple #[.int .i64 (rdle s), .int .i64 0] ∧ Ext w w') := by
  refine callR_of (n := 29) [(0, .string (B s))] Try.func53 rfl rfl (Nat.le_of_ble_eq_true rfl) rfl ?_
  refine sc_seq ?_
  refine sc_reg ?_
  refine Go.XK.s (v := .int .i64 0) (e_assign rfl) ?_
  refine Go.XK.s (v := .int .i64 0) (e_assign rfl) ?_
  refine sl_nil (nrm_k ?_)
  refine sc_seq ?_
  refine sc_seq ?_
  refine sc_reg ?_
  refine Go.XK.s (v := .string (B s)) (e_move rfl) ?_
  refine Go.XK.s (v := .int .i64 (s.length : Int)) (e_slen Try.underlying9 rfl) ?_
  refine Go.XK.s (v := .bool (decide ((s.length : Int) = 8))) (e_eq rfl rfl) ?_
  refine Go.XK.s (v := .bool (decide ((s.length : Int) = 8))) (e_move rfl) ?_
  refine sl_merge 4 13 (.bool ((decide ((s.length : Int) = 8)) && (decide ((127 : UInt8) < (at_ s 7))))) ?_ ?_
  · refine sl_case (t := 9) rfl (fun g1_3 => ?_) (fun g1_3 => ?_)
    ·
      refine sl_gev (v := .string (B s)) rfl rfl g1_3 (e_move rfl) rfl (by decide) ?_
      refine sl_gev (v := .int .u8 ((at_ s 7).toNat)) rfl rfl g1_3 (e_sat Try.underlying9 rfl rfl (by decide) (by have h_ := of_decide_eq_true g1_3; omega)) rfl (by decide) ?_
      refine sl_gev (v := .bool (decide ((127 : UInt8) < (at_ s 7)))) rfl rfl g1_3 (e_bgt (a := (at_ s 7)) (b := 127) rfl rfl) rfl (by decide) ?_
      refine Go.XK.s (v := .bool (decide ((127 : UInt8) < (at_ s 7)))) (e_pickT rfl g1_3 rfl) ?_
      exact sl_nil (fun a ha => ⟨rfl, ha.sub (.cons (by rw [g1_3]; rfl) (sub_self_cons (sub_self_cons (sub_self_cons (sub_self_cons (Sub.refl _) rfl) rfl) rfl) rfl))⟩)
    ·
      refine sl_gskip rfl rfl g1_3 (by decide) ?_
      refine sl_gskip rfl rfl g1_3 (by decide) ?_
      refine sl_gskip rfl rfl g1_3 (by decide) ?_
      refine Go.XK.s (v := .bool false) (e_pickF rfl g1_3 rfl) ?_
      exact sl_nil (fun a ha => ⟨rfl, ha.sub (.cons (by rw [g1_3]; rfl) (sub_self_cons (sub_self_cons (sub_self_cons (sub_self_cons (Sub.refl _) rfl) rfl) rfl) rfl))⟩)
  refine sl_nil (nrm_k ?_)
  refine sc_no rfl (by simp; omega) ?_
  refine sc_skip (nrm_k ?_)
  refine sc_seq ?_
  refine sc_reg ?_
  refine Go.XK.s (v := .int .i64 0) (e_assign rfl) ?_
  refine sl_nil (nrm_k ?_)
  refine sc_seq ?_
  refine sc_seq ?_
  refine sc_reg ?_
  refine Go.XK.s (v := .string (B s)) (e_move rfl) ?_
  refine Go.XK.s (v := .int .i64 (s.length : Int)) (e_slen Try.underlying9 rfl) ?_
  refine Go.XK.s (v := .int .i64 ((s.length : Int) - 1)) (e_sub rfl rfl (by omega)) ?_
  refine Go.XK.s (v := .int .i64 ((s.length : Int) - 1)) (e_assign rfl) ?_
  refine sl_nil (nrm_k ?_)
  refine sc_block ?_
  refine sc_loop (fun m_ l_ w_ => ∃ (i a : Int), m_ = (i + 1).toNat ∧ l_ = [(4, .int .i64 a), (5, .int .i64 i), (0, .string (B s))] ∧ Ext w w_ ∧ (-1 ≤ i ∧ i < s.length) ∧ a = rdle (s.drop (i + 1).toNat)) _ [(4, .int .i64 0), (5, .int .i64 ((s.length : Int) - 1)), (0, .string (B s))] ⟨(s.length : Int) - 1, 0, rfl, rfl, (Ext.rfl' w), ⟨⟨by omega, by omega⟩, by rw [List.drop_eq_nil_of_le (by omega)]; rfl⟩⟩ (.cons rfl (.cons rfl (.cons rfl (.nil)))) ?_
  rintro j2 _ w1 ⟨i, a, rfl, rfl, xw_w1, ⟨hi, ha⟩⟩
  have hab := rdle_bound (s.drop (i + 1).toNat)
  rw [← ha] at hab
  refine sc_seq ?_
  refine sc_seq ?_
  refine sc_reg ?_
  refine Go.XK.s (v := .int .i64 i) (e_move rfl) ?_
  refine Go.XK.s (v := .bool (decide ((0 : Int) ≤ i))) (e_ge rfl rfl) ?_
  refine sl_nil (nrm_k ?_)
  refine sc_ifd rfl (fun c18 => ?_) (fun c18 => ?_)
  ·
    refine sc_skip (nrm_k ?_)
    refine sc_seq ?_
    refine sc_block ?_
    refine sc_reg ?_
    refine Go.XK.s (v := .int .i64 a) (e_move rfl) ?_
    refine Go.XK.s (v := .int .i64 ((256 : Int) * a)) (e_mul rfl rfl (by have h6 := p256b (s.drop (i + 1).toNat).length (by simp; omega); have hc_ := u8_lt (at_ s i); omega)) ?_
    refine Go.XK.s (v := .string (B s)) (e_move rfl) ?_
    refine Go.XK.s (v := .int .i64 i) (e_move rfl) ?_
    refine Go.XK.s (v := .int .u8 ((at_ s i).toNat)) (e_sat Try.underlying9 rfl rfl (by omega) (by omega)) ?_
    refine Go.XK.s (v := .int .i64 ((at_ s i).toNat : Int)) (e_u8int (c := at_ s i) Try.underlying5 Try.underlying3 (by decide) rfl) ?_
    refine Go.XK.s (v := .int .i64 (((256 : Int) * a) + ((at_ s i).toNat : Int))) (e_add rfl rfl (by have h6 := p256b (s.drop (i + 1).toNat).length (by simp; omega); have hc_ := u8_lt (at_ s i); omega)) ?_
    refine Go.XK.s (v := .int .i64 (((256 : Int) * a) + ((at_ s i).toNat : Int))) (e_assign rfl) ?_
    refine sl_nil (nrm_k ?_)
    refine sc_reg ?_
    refine Go.XK.s (v := .int .i64 i) (e_move rfl) ?_
    refine Go.XK.s (v := .int .i64 (i - 1)) (e_sub rfl rfl (by omega)) ?_
    refine Go.XK.s (v := .int .i64 (i - 1)) (e_assign rfl) ?_
    refine sl_nil ?_
    exact nrm_loopq rfl _ _ (by omega) ⟨i - 1, 256 * a + ((at_ s i).toNat : Int), rfl, rfl, xw_w1, ⟨⟨by omega, by omega⟩, by
      obtain ⟨k, rfl⟩ : ∃ k : Nat, i = k := ⟨i.toNat, by omega⟩
      rw [ha, show ((k : Int) - 1 + 1).toNat = k from by omega, rdle_drop (i := k) (by omega), show ((k : Int) + 1).toNat = k + 1 from by omega]; omega⟩⟩ (.cons rfl (.cons rfl (.cons rfl (.nil))))
  ·
    refine sc_exit rfl (nrm_k ?_)
    refine sc_seq ?_
    refine sc_reg ?_
    refine Go.XK.s (v := .int .i64 a) (e_move rfl) ?_
    refine Go.XK.s (v := .int .i64 a) (e_assign rfl) ?_
    refine Go.XK.s (v := .int .i64 0) (e_assign rfl) ?_
    refine sl_nil (nrm_k ?_)
    refine sc_retf rfl (ret2 Try.results53 (rvt rfl) (rvt rfl) ?_)
    exact ⟨by rw [ha, show (i + 1).toNat = 0 from by omega]; rfl, xw_w1⟩

/-- masterdisc/masterdiscref01.ReadLittle (function 38) -/
theorem rreadl_c (s : List UInt8) (p : Int) (z : Nat) (w : World) (hs : s.length ≤ 1099511627776) (h0 : 0 ≤ p) (hp : p + z ≤ s.length) (h1 : 1 ≤ z) (hz : z ≤ 7) : CallR Try.prog 38 [.string (B s), .int .i64 p, .int .i64 (z : Int)] w (fun v w' => v = .tuple #[.int .i64 (rdle (sub s p z)), .int .i64 0] ∧ Ext w w') := by
  refine callR_of (n := 29) [(0, .string (B s)), (1, .int .i64 p), (2, .int .i64 (z : Int))] Try.func38 rfl rfl (Nat.le_of_ble_eq_true rfl) rfl ?_
  refine sc_seq ?_
  refine sc_reg ?_
  refine Go.XK.s (v := .int .i64 0) (e_assign rfl) ?_
  refine Go.XK.s (v := .int .i64 0) (e_assign rfl) ?_
  refine sl_nil (nrm_k ?_)
  refine sc_seq ?_
  refine sc_seq ?_
  refine sc_reg ?_
  refine Go.XK.s (v := .int .i64 (z : Int)) (e_move rfl) ?_
  refine Go.XK.s (v := .bool (decide ((z : Int) < 1))) (e_lt rfl rfl) ?_
  refine Go.XK.s (v := .bool (decide ((z : Int) < 1))) (e_move rfl) ?_
  refine sl_merge 3 15 (.bool ((decide ((z : Int) < 1)) || (decide ((8 : Int) < (z : Int))))) ?_ ?_
  · refine sl_case (t := 12) rfl (fun g1_2 => ?_) (fun g1_2 => ?_)
    ·
      refine sl_gskip rfl rfl g1_2 (by decide) ?_
      refine sl_gskip rfl rfl g1_2 (by decide) ?_
      refine Go.XK.s (v := .bool true) (e_pickT rfl g1_2 rfl) ?_
      exact sl_nil (fun a ha => ⟨rfl, ha.sub (.cons (by rw [g1_2]; rfl) (sub_self_cons (sub_self_cons (sub_self_cons (Sub.refl _) rfl) rfl) rfl))⟩)
    ·
      refine sl_gev (v := .int .i64 (z : Int)) rfl rfl g1_2 (e_move rfl) rfl (by decide) ?_
      refine sl_gev (v := .bool (decide ((8 : Int) < (z : Int)))) rfl rfl g1_2 (e_gt rfl rfl) rfl (by decide) ?_
      refine Go.XK.s (v := .bool (decide ((8 : Int) < (z : Int)))) (e_pickF rfl g1_2 rfl) ?_
      exact sl_nil (fun a ha => ⟨rfl, ha.sub (.cons (by rw [g1_2]; rfl) (sub_self_cons (sub_self_cons (sub_self_cons (Sub.refl _) rfl) rfl) rfl))⟩)
  refine sl_nil (nrm_k ?_)
  refine sc_no rfl (by simp; omega) ?_
  refine sc_skip (nrm_k ?_)
  refine sc_seq ?_
  refine sc_reg ?_
  refine Go.XK.s (v := .string (B s)) (e_move rfl) ?_
  refine Go.XK.s (v := .int .i64 p) (e_move rfl) ?_
  refine Go.XK.s (v := .int .i64 (z : Int)) (e_move rfl) ?_
  refine sl_call ent52 rfl rfl (rpart_c s p z w (by omega) (by omega) (by omega) (by omega) (by omega)) (by decide) ?_
  rintro _ w1 ⟨rfl, hw1⟩
  have xw_w1 : Ext w w1 := Ext.tr (Ext.rfl' w) hw1
  refine Go.XK.s (v := .tuple #[.string (B (sub s p z)), .bool true]) (e_move rfl) ?_
  refine Go.XK.s (v := .string (B (sub s p z))) (e_extract (vs := [.string (B (sub s p z)), .bool true]) rfl rfl) ?_
  refine Go.XK.s (v := .bool true) (e_extract (vs := [.string (B (sub s p z)), .bool true]) rfl rfl) ?_
  refine Go.XK.s (v := .string (B (sub s p z))) (e_assign rfl) ?_
  refine Go.XK.s (v := .bool true) (e_assign rfl) ?_
  refine sl_nil (nrm_k ?_)
  refine sc_seq ?_
  refine sc_seq ?_
  refine sc_reg ?_
  refine Go.XK.s (v := .bool true) (e_move rfl) ?_
  refine Go.XK.s (v := .bool false) (e_not (b := true) rfl) ?_
  refine sl_nil (nrm_k ?_)
  refine sc_no rfl (by simp) ?_
  refine sc_skip (nrm_k ?_)
  refine sc_seq ?_
  refine sc_reg ?_
  refine Go.XK.s (v := .string (B (sub s p z))) (e_move rfl) ?_
  refine sl_call ent53 rfl rfl (rvalue_c (sub s p z) w1 (by rw [sub_length h0 (by omega)]; omega)) (by decide) ?_
  rintro _ w2 ⟨rfl, hw2⟩
  have xw_w2 : Ext w w2 := Ext.tr xw_w1 hw2
  refine Go.XK.s (v := .int .i64 (rdle (sub s p z))) (e_extract (vs := [.int .i64 (rdle (sub s p z)), .int .i64 0]) rfl rfl) ?_
  refine Go.XK.s (v := .int .i64 0) (e_extract (vs := [.int .i64 (rdle (sub s p z)), .int .i64 0]) rfl rfl) ?_
  refine Go.XK.s (v := .int .i64 (rdle (sub s p z))) (e_assign rfl) ?_
  refine Go.XK.s (v := .int .i64 0) (e_assign rfl) ?_
  refine sl_nil (nrm_k ?_)
  refine sc_retf rfl (ret2 Try.results38 (rvt rfl) (rvt rfl) ?_)
  exact ⟨rfl, xw_w2⟩

/-- masterdisc/masterdiscref27.read (function 37) -/
theorem rread_c (s : List UInt8) (p : Int) (w : World) (hs : s.length = 32) : CallR Try.prog 37 [.string (B s), .int .i64 p] w (fun v w' => v = .tuple #[.agg (readR s p).1.enc.toArray, .int .i64 (readR s p).2] ∧ Ext w w') := by
  refine callR_of (n := 47) [(0, .string (B s)), (1, .int .i64 p)] Try.func37 rfl rfl (Nat.le_of_ble_eq_true rfl) rfl ?_
  refine sc_seq ?_
  refine sc_reg ?_
  refine s_alloc (cs := [.int .i64 0, .int .i64 0, .int .i64 0, .int .i64 0, .int .i64 0, .bool false]) Try.zeroValue34 rfl ?_
  intro b4 w1 hb4 he4 hs4 hx4
  have ge_b4 : w.heap.size ≤ b4 := by have h_ := (Below.size (Ext.rfl' w)); omega
  have xw_w1 : Ext w w1 := Ext.tr (Ext.rfl' w) hx4
  refine Go.XK.s (v := .int .i64 0) (e_assign rfl) ?_
  refine sl_nil (nrm_k ?_)
  refine sc_seq ?_
  refine sc_seq ?_
  refine sc_reg ?_
  refine Go.XK.s (v := .string (B s)) (e_move rfl) ?_
  refine Go.XK.s (v := .int .u8 ((at_ s 0).toNat)) (e_sat Try.underlying9 rfl rfl (by decide) (by omega)) ?_
  refine Go.XK.s (v := .bool (decide ((at_ s 0) ≠ (136 : UInt8)))) (e_bne (a := (at_ s 0)) (b := 136) rfl rfl) ?_
  refine Go.XK.s (v := .bool (decide ((at_ s 0) ≠ (136 : UInt8)))) (e_move rfl) ?_
  refine sl_merge 4 14 (.bool ((decide ((at_ s 0) ≠ (136 : UInt8))) && (decide ((at_ s 0) ≠ (0 : UInt8))))) ?_ ?_
  · refine sl_case (t := 10) rfl (fun g1_3 => ?_) (fun g1_3 => ?_)
    ·
      refine sl_gev (v := .string (B s)) rfl rfl g1_3 (e_move rfl) rfl (by decide) ?_
      refine sl_gev (v := .int .u8 ((at_ s 0).toNat)) rfl rfl g1_3 (e_sat Try.underlying9 rfl rfl (by decide) (by omega)) rfl (by decide) ?_
      refine sl_gev (v := .bool (decide ((at_ s 0) ≠ (0 : UInt8)))) rfl rfl g1_3 (e_bne (a := (at_ s 0)) (b := 0) rfl rfl) rfl (by decide) ?_
      refine Go.XK.s (v := .bool (decide ((at_ s 0) ≠ (0 : UInt8)))) (e_pickT rfl g1_3 rfl) ?_
      exact sl_nil (fun a ha => ⟨rfl, ha.sub (.cons (by rw [g1_3]; rfl) (sub_self_cons (sub_self_cons (sub_self_cons (sub_self_cons (Sub.refl _) rfl) rfl) rfl) rfl))⟩)
    ·
      refine sl_gskip rfl rfl g1_3 (by decide) ?_
      refine sl_gskip rfl rfl g1_3 (by decide) ?_
      refine sl_gskip rfl rfl g1_3 (by decide) ?_
      refine Go.XK.s (v := .bool false) (e_pickF rfl g1_3 rfl) ?_
      exact sl_nil (fun a ha => ⟨rfl, ha.sub (.cons (by rw [g1_3]; rfl) (sub_self_cons (sub_self_cons (sub_self_cons (sub_self_cons (Sub.refl _) rfl) rfl) rfl) rfl))⟩)
  refine sl_nil (nrm_k ?_)
  refine sc_if rfl (fun c14 => ?_) (fun c14 => ?_)
  ·
    refine sc_seq ?_
    refine sc_reg ?_
    refine Go.XK.s (v := .agg #[.int .i64 0, .int .i64 0, .int .i64 0, .int .i64 0, .int .i64 0, .bool false]) (e_build (vs := []) rfl (by kernel_rfl)) ?_
    refine su_blkV [.int .i64 0, .int .i64 0, .int .i64 0, .int .i64 0, .int .i64 0, .bool false] [.int .i64 0, .int .i64 0, .int .i64 0, .int .i64 0, .int .i64 0, .bool false] rfl rfl hb4 rfl Try.sizeOf34 (Nat.le_of_ble_eq_true rfl) rfl rfl ?_
    intro w2 hn_ hm_w2 hs_w2
    have ho_ := hb4
    replace hb4 := hn_
    clear hn_
    have xw_w2 : Ext w w2 := below_mut xw_w1 (Below.size xw_w1) hm_w2 ge_b4
    refine Go.XK.s (v := .int .i64 10) (e_assign rfl) ?_
    refine sl_nil (nrm_k ?_)
    refine sc_retf rfl (ret2 Try.results37 (rvc rfl (hb4.loadA Try.isAgg34 Try.sizeOf34 rfl)) (rvt rfl) ?_)
    exact ⟨by simp at c14; simp [readR, c14]; rfl, xw_w2⟩
  ·
    refine sc_skip (nrm_k ?_)
    refine sc_seq ?_
    refine sc_seq ?_
    refine sc_reg ?_
    refine Go.XK.s (v := .string (B s)) (e_move rfl) ?_
    refine Go.XK.s (v := .int .u8 ((at_ s 1).toNat)) (e_sat Try.underlying9 rfl rfl (by decide) (by omega)) ?_
    refine Go.XK.s (v := .bool (decide ((4 : UInt8) < (at_ s 1)))) (e_bgt (a := (at_ s 1)) (b := 4) rfl rfl) ?_
    refine sl_nil (nrm_k ?_)
    refine sc_ifd rfl (fun c18 => ?_) (fun c18 => ?_)
    ·
      refine sc_seq ?_
      refine sc_reg ?_
      refine Go.XK.s (v := .agg #[.int .i64 0, .int .i64 0, .int .i64 0, .int .i64 0, .int .i64 0, .bool false]) (e_build (vs := []) rfl (by kernel_rfl)) ?_
      refine su_blkV [.int .i64 0, .int .i64 0, .int .i64 0, .int .i64 0, .int .i64 0, .bool false] [.int .i64 0, .int .i64 0, .int .i64 0, .int .i64 0, .int .i64 0, .bool false] rfl rfl hb4 rfl Try.sizeOf34 (Nat.le_of_ble_eq_true rfl) rfl rfl ?_
      intro w3 hn_ hm_w3 hs_w3
      have ho_ := hb4
      replace hb4 := hn_
      clear hn_
      have xw_w3 : Ext w w3 := below_mut xw_w1 (Below.size xw_w1) hm_w3 ge_b4
      refine Go.XK.s (v := .int .i64 14) (e_assign rfl) ?_
      refine sl_nil (nrm_k ?_)
      refine sc_retf rfl (ret2 Try.results37 (rvc rfl (hb4.loadA Try.isAgg34 Try.sizeOf34 rfl)) (rvt rfl) ?_)
      exact ⟨by simp at c14; rw [readR, if_neg (by simpa using c14), if_pos (by simpa using c18)]; rfl, xw_w3⟩
    ·
      refine sc_skip (nrm_k ?_)
      refine sc_seq ?_
      have lt0_b4 := hb4.lt
      refine sc_free [(18, .bool (decide ((4 : UInt8) < (at_ s 1)))), (17, .int .u8 ((at_ s 1).toNat)), (16, .string (B s)), (14, .bool ((decide ((at_ s 0) ≠ (136 : UInt8))) && (decide ((at_ s 0) ≠ (0 : UInt8))))), (10, .bool (decide ((at_ s 0) ≠ (136 : UInt8)))), (9, .bool (decide ((at_ s 0) ≠ (136 : UInt8)))), (8, .int .u8 ((at_ s 0).toNat)), (7, .string (B s)), (5, .int .i64 0), (4, .pointer (some ⟨b4, 0, none⟩)), (0, .string (B s)), (1, .int .i64 p)] [20, 21, 22, 23, 24, 25, 26, 27, 6] [(Is (.int .i64 p)), (Is (.string (B s))), (Is (.int .u8 ((at_ s 1).toNat))), (Is (.int .i64 ((at_ s 1).toNat : Int))), (Is (.string (B s))), (Is (.int .u8 ((at_ s 0).toNat))), (Is (.bool (decide ((at_ s 0) = (136 : UInt8))))), (Is (.agg #[.int .i64 p, .int .i64 ((at_ s 1).toNat : Int), .int .i64 0, .int .i64 0, .int .i64 0, .bool (decide ((at_ s 0) = (136 : UInt8)))])), (fun VV WV => ∃ b_, VV = Value.pointer (some ⟨b_, 0, none⟩) ∧ Blk WV b_ 34 [.int .i64 0, .int .i64 0, .int .i64 0, .int .i64 0, .int .i64 0, .bool false] ∧ w1.heap.size ≤ b_)] [9] (by kernel_rfl) (Sub.refl _) (by kernel_rfl) (by kernel_rfl) (by kernel_rfl) rfl (by kernel_rfl) (ds_ext (Stays.spec (.is _ (.is _ (.is _ (.is _ (.is _ (.is _ (.is _ (.is _ (.any (fun _ _ _ ⟨b_, e_, h_, g_⟩ hx_ => ⟨b_, e_, h_.ext hx_, g_⟩) (.nil)))))))))))) ⟨?_, ?_, ?_, ?_, ?_, ?_, ?_, ?_, ?_, trivial⟩ ?_
      · intro Q act_ wI hxI ha hp
        have xw_wI : Ext w wI := Ext.tr xw_w1 hxI
        replace hb4 := hb4.ext hxI
        exact h_evA (v := .int .i64 p) ha rfl (e_move rfl) rfl rfl (Ext.rfl' _)
      · intro Q act_ wI hxI ha hp
        have xw_wI : Ext w wI := Ext.tr xw_w1 hxI
        replace hb4 := hb4.ext hxI
        exact h_evA (v := .string (B s)) ha rfl (e_move rfl) rfl rfl (Ext.rfl' _)
      · intro Q act_ wI hxI ha hp
        have xw_wI : Ext w wI := Ext.tr xw_w1 hxI
        replace hb4 := hb4.ext hxI
        have ha := ha.add (show act_.tmps.getD 21 undef = .string (B s) from hp 1 (by kernel_rfl) (by decide))
        exact h_evA (v := .int .u8 ((at_ s 1).toNat)) ha rfl (e_sat Try.underlying9 rfl rfl (by decide) (by omega)) rfl rfl (Ext.rfl' _)
      · intro Q act_ wI hxI ha hp
        have xw_wI : Ext w wI := Ext.tr xw_w1 hxI
        replace hb4 := hb4.ext hxI
        have ha := ha.add (show act_.tmps.getD 22 undef = .int .u8 ((at_ s 1).toNat) from hp 2 (by kernel_rfl) (by decide))
        exact h_evA (v := .int .i64 ((at_ s 1).toNat : Int)) ha rfl (e_u8int (c := at_ s 1) Try.underlying5 Try.underlying3 (by decide) rfl) rfl rfl (Ext.rfl' _)
      · intro Q act_ wI hxI ha hp
        have xw_wI : Ext w wI := Ext.tr xw_w1 hxI
        replace hb4 := hb4.ext hxI
        exact h_evA (v := .string (B s)) ha rfl (e_move rfl) rfl rfl (Ext.rfl' _)
      · intro Q act_ wI hxI ha hp
        have xw_wI : Ext w wI := Ext.tr xw_w1 hxI
        replace hb4 := hb4.ext hxI
        have ha := ha.add (show act_.tmps.getD 24 undef = .string (B s) from hp 4 (by kernel_rfl) (by decide))
        exact h_evA (v := .int .u8 ((at_ s 0).toNat)) ha rfl (e_sat Try.underlying9 rfl rfl (by decide) (by omega)) rfl rfl (Ext.rfl' _)
      · intro Q act_ wI hxI ha hp
        have xw_wI : Ext w wI := Ext.tr xw_w1 hxI
        replace hb4 := hb4.ext hxI
        have ha := ha.add (show act_.tmps.getD 25 undef = .int .u8 ((at_ s 0).toNat) from hp 5 (by kernel_rfl) (by decide))
        exact h_evA (v := .bool (decide ((at_ s 0) = (136 : UInt8)))) ha rfl (e_beq (a := (at_ s 0)) (b := 136) rfl rfl) rfl rfl (Ext.rfl' _)
      · intro Q act_ wI hxI ha hp
        have xw_wI : Ext w wI := Ext.tr xw_w1 hxI
        replace hb4 := hb4.ext hxI
        have ha := ha.add (show act_.tmps.getD 20 undef = .int .i64 p from hp 0 (by kernel_rfl) (by decide))
        have ha := ha.add (show act_.tmps.getD 23 undef = .int .i64 ((at_ s 1).toNat : Int) from hp 3 (by kernel_rfl) (by decide))
        have ha := ha.add (show act_.tmps.getD 26 undef = .bool (decide ((at_ s 0) = (136 : UInt8))) from hp 6 (by kernel_rfl) (by decide))
        exact h_evA (v := .agg #[.int .i64 p, .int .i64 ((at_ s 1).toNat : Int), .int .i64 0, .int .i64 0, .int .i64 0, .bool (decide ((at_ s 0) = (136 : UInt8)))]) ha rfl (e_build (vs := [(0, .int .i64 p), (1, .int .i64 ((at_ s 1).toNat : Int)), (5, .bool (decide ((at_ s 0) = (136 : UInt8))))]) rfl (by kernel_rfl)) rfl rfl (Ext.rfl' _)
      · intro Q act_ wI hxI ha hp
        have xw_wI : Ext w wI := Ext.tr xw_w1 hxI
        replace hb4 := hb4.ext hxI
        exact h_evA ha rfl (e_alloc Try.zeroValue34) rfl ⟨_, rfl, Blk.new wI 34 [.int .i64 0, .int .i64 0, .int .i64 0, .int .i64 0, .int .i64 0, .bool false], Below.size hxI⟩ (Ext.alloc _ _)
      intro vs_ w4 hx_w4 hvs act_ ha hv
      have xw_w4 : Ext w w4 := Ext.tr xw_w1 hx_w4
      replace hb4 := hb4.ext hx_w4
      have ha := ha.add ((hv 7 (by decide)).trans (show vs_ 7 = .agg #[.int .i64 p, .int .i64 ((at_ s 1).toNat : Int), .int .i64 0, .int .i64 0, .int .i64 0, .bool (decide ((at_ s 0) = (136 : UInt8)))] from hvs 7 (by decide)))
      obtain ⟨b6, e6, hb6, hg6⟩ := (show ∃ b_, vs_ 8 = Value.pointer (some ⟨b_, 0, none⟩) ∧ Blk w4 b_ 34 [.int .i64 0, .int .i64 0, .int .i64 0, .int .i64 0, .int .i64 0, .bool false] ∧ w1.heap.size ≤ b_ from hvs 8 (by decide))
      have ha := ha.add ((hv 8 (by decide)).trans e6)
      have ne_b6_b4 : b6 ≠ b4 := by omega
      have ge_b6 : w.heap.size ≤ b6 := Nat.le_trans (Below.size xw_w1) hg6
      refine st_go ha ?_
      clear ha hv hvs
      refine st_blkV [.int .i64 p, .int .i64 ((at_ s 1).toNat : Int), .int .i64 0, .int .i64 0, .int .i64 0, .bool (decide ((at_ s 0) = (136 : UInt8)))] [.int .i64 p, .int .i64 ((at_ s 1).toNat : Int), .int .i64 0, .int .i64 0, .int .i64 0, .bool (decide ((at_ s 0) = (136 : UInt8)))] rfl rfl rfl hb6 rfl Try.sizeOf34 (Nat.le_of_ble_eq_true rfl) rfl rfl ?_
      intro w5 hn_ hm_w5 hs_w5
      have ho_ := hb6
      replace hb6 := hn_
      clear hn_
      replace hb4 := hb4.mut hm_w5 (Ne.symm ne_b6_b4)
      have xw_w5 : Ext w w5 := below_mut xw_w4 (Below.size xw_w4) hm_w5 ge_b6
      refine st_nil (nrm_k ?_)
      refine sc_seq ?_
      refine sc_reg ?_
      refine Go.XK.s (v := .string (B s)) (e_move rfl) ?_
      refine sl_call ent38 rfl rfl (rreadl_c s 2 2 w5 (by omega) (by omega) (by omega) (by decide) (by decide)) (by decide) ?_
      rintro _ w6 ⟨rfl, hw6⟩
      have xw_w6 : Ext w w6 := Ext.tr xw_w5 hw6
      replace hb4 := hb4.ext hw6
      replace hb6 := hb6.ext hw6
      refine Go.XK.s (v := .tuple #[.int .i64 (rdle (sub s 2 2)), .int .i64 0]) (e_move rfl) ?_
      refine Go.XK.s (v := .int .i64 (rdle (sub s 2 2))) (e_extract (vs := [.int .i64 (rdle (sub s 2 2)), .int .i64 0]) rfl rfl) ?_
      refine Go.XK.s (v := .int .i64 0) (e_extract (vs := [.int .i64 (rdle (sub s 2 2)), .int .i64 0]) rfl rfl) ?_
      refine Go.XK.s (v := .pointer (some ⟨b6, 2, none⟩)) (e_fieldB (sz := 1) Try.underlying34 rfl Try.sizeOf3 (by decide) rfl rfl) ?_
      refine su_blkV [.int .i64 (rdle (sub s 2 2))] [.int .i64 p, .int .i64 ((at_ s 1).toNat : Int), .int .i64 (rdle (sub s 2 2)), .int .i64 0, .int .i64 0, .bool (decide ((at_ s 0) = (136 : UInt8)))] rfl rfl hb6 rfl Try.sizeOf3 (Nat.le_of_ble_eq_true rfl) rfl rfl ?_
      intro w7 hn_ hm_w7 hs_w7
      have ho_ := hb6
      replace hb6 := hn_
      clear hn_
      replace hb4 := hb4.mut hm_w7 (Ne.symm ne_b6_b4)
      have xw_w7 : Ext w w7 := below_mut xw_w6 (Below.size xw_w6) hm_w7 ge_b6
      refine sl_nil (nrm_k ?_)
      refine sc_seq ?_
      refine sc_reg ?_
      refine Go.XK.s (v := .string (B s)) (e_move rfl) ?_
      refine sl_call ent38 rfl rfl (rreadl_c s 6 2 w7 (by omega) (by omega) (by omega) (by decide) (by decide)) (by decide) ?_
      rintro _ w8 ⟨rfl, hw8⟩
      have xw_w8 : Ext w w8 := Ext.tr xw_w7 hw8
      replace hb4 := hb4.ext hw8
      replace hb6 := hb6.ext hw8
      refine Go.XK.s (v := .tuple #[.int .i64 (rdle (sub s 6 2)), .int .i64 0]) (e_move rfl) ?_
      refine Go.XK.s (v := .int .i64 (rdle (sub s 6 2))) (e_extract (vs := [.int .i64 (rdle (sub s 6 2)), .int .i64 0]) rfl rfl) ?_
      refine Go.XK.s (v := .int .i64 0) (e_extract (vs := [.int .i64 (rdle (sub s 6 2)), .int .i64 0]) rfl rfl) ?_
      refine Go.XK.s (v := .pointer (some ⟨b6, 3, none⟩)) (e_fieldB (sz := 1) Try.underlying34 rfl Try.sizeOf3 (by decide) rfl rfl) ?_
      refine su_blkV [.int .i64 (rdle (sub s 6 2))] [.int .i64 p, .int .i64 ((at_ s 1).toNat : Int), .int .i64 (rdle (sub s 2 2)), .int .i64 (rdle (sub s 6 2)), .int .i64 0, .bool (decide ((at_ s 0) = (136 : UInt8)))] rfl rfl hb6 rfl Try.sizeOf3 (Nat.le_of_ble_eq_true rfl) rfl rfl ?_
      intro w9 hn_ hm_w9 hs_w9
      have ho_ := hb6
      replace hb6 := hn_
      clear hn_
      replace hb4 := hb4.mut hm_w9 (Ne.symm ne_b6_b4)
      have xw_w9 : Ext w w9 := below_mut xw_w8 (Below.size xw_w8) hm_w9 ge_b6
      refine sl_nil (nrm_k ?_)
      refine sc_seq ?_
      refine sc_reg ?_
      refine Go.XK.s (v := .string (B s)) (e_move rfl) ?_
      refine sl_call ent38 rfl rfl (rreadl_c s 8 4 w9 (by omega) (by omega) (by omega) (by decide) (by decide)) (by decide) ?_
      rintro _ w10 ⟨rfl, hw10⟩
      have xw_w10 : Ext w w10 := Ext.tr xw_w9 hw10
      replace hb4 := hb4.ext hw10
      replace hb6 := hb6.ext hw10
      refine Go.XK.s (v := .tuple #[.int .i64 (rdle (sub s 8 4)), .int .i64 0]) (e_move rfl) ?_
      refine Go.XK.s (v := .int .i64 (rdle (sub s 8 4))) (e_extract (vs := [.int .i64 (rdle (sub s 8 4)), .int .i64 0]) rfl rfl) ?_
      refine Go.XK.s (v := .int .i64 0) (e_extract (vs := [.int .i64 (rdle (sub s 8 4)), .int .i64 0]) rfl rfl) ?_
      refine Go.XK.s (v := .pointer (some ⟨b6, 4, none⟩)) (e_fieldB (sz := 1) Try.underlying34 rfl Try.sizeOf3 (by decide) rfl rfl) ?_
      refine su_blkV [.int .i64 (rdle (sub s 8 4))] [.int .i64 p, .int .i64 ((at_ s 1).toNat : Int), .int .i64 (rdle (sub s 2 2)), .int .i64 (rdle (sub s 6 2)), .int .i64 (rdle (sub s 8 4)), .bool (decide ((at_ s 0) = (136 : UInt8)))] rfl rfl hb6 rfl Try.sizeOf3 (Nat.le_of_ble_eq_true rfl) rfl rfl ?_
      intro w11 hn_ hm_w11 hs_w11
      have ho_ := hb6
      replace hb6 := hn_
      clear hn_
      replace hb4 := hb4.mut hm_w11 (Ne.symm ne_b6_b4)
      have xw_w11 : Ext w w11 := below_mut xw_w10 (Below.size xw_w10) hm_w11 ge_b6
      refine sl_nil (nrm_k ?_)
      refine sc_seq ?_
      refine sc_reg ?_
      refine Go.XK.s (v := .agg #[.int .i64 p, .int .i64 ((at_ s 1).toNat : Int), .int .i64 (rdle (sub s 2 2)), .int .i64 (rdle (sub s 6 2)), .int .i64 (rdle (sub s 8 4)), .bool (decide ((at_ s 0) = (136 : UInt8)))]) (e_load rfl (hb6.loadA Try.isAgg34 Try.sizeOf34 rfl)) ?_
      refine su_blkV [.int .i64 p, .int .i64 ((at_ s 1).toNat : Int), .int .i64 (rdle (sub s 2 2)), .int .i64 (rdle (sub s 6 2)), .int .i64 (rdle (sub s 8 4)), .bool (decide ((at_ s 0) = (136 : UInt8)))] [.int .i64 p, .int .i64 ((at_ s 1).toNat : Int), .int .i64 (rdle (sub s 2 2)), .int .i64 (rdle (sub s 6 2)), .int .i64 (rdle (sub s 8 4)), .bool (decide ((at_ s 0) = (136 : UInt8)))] rfl rfl hb4 rfl Try.sizeOf34 (Nat.le_of_ble_eq_true rfl) rfl rfl ?_
      intro w12 hn_ hm_w12 hs_w12
      have ho_ := hb4
      replace hb4 := hn_
      clear hn_
      replace hb6 := hb6.mut hm_w12 ne_b6_b4
      have xw_w12 : Ext w w12 := below_mut xw_w11 (Below.size xw_w11) hm_w12 ge_b4
      refine Go.XK.s (v := .int .i64 0) (e_assign rfl) ?_
      refine sl_nil (nrm_k ?_)
      refine sc_retf rfl (ret2 Try.results37 (rvc rfl (hb4.loadA Try.isAgg34 Try.sizeOf34 rfl)) (rvt rfl) ?_)
      exact ⟨by simp at c14; rw [readR, if_neg (by simpa using c14), if_neg (by simpa using c18)]; rfl, xw_w12⟩

end Go.Proofs.Ytlgkjpmaekkpjaa
