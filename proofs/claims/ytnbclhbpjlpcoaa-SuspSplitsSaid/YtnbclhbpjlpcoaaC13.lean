/- Chapter 24: C13. Printed by my program wip/tools/wk.py. -/
import Derived.Test.YtnbclhbpjlpcoaaMath6
set_option linter.unusedVariables false
set_option linter.unusedSimpArgs false
set_option maxRecDepth 4000
set_option maxHeartbeats 1000000
namespace Go.Proofs.Ytnbclhbpjlpcoaa
open Go.XK Go.RowKit
theorem run_eql_en (x y : Operand) (a b : En) (w : World) : (do eqGuard .eql 41 x y (.agg (encE a).toArray) (.agg (encE b).toArray); binOp .eql 41 (.agg (encE a).toArray) (.agg (encE b).toArray) : Sem Value).run Try.prog w = .ok (.bool (decide (a = b))) w := by
  have hf : (Try.prog.fieldsOf 41).toList = [⟨"Signature", 9, 0, false, "", "", 0⟩, ⟨"Version", 3, 1, false, "", "", 16⟩, ⟨"Data", 9, 2, false, "", "", 24⟩] := by kernel_rfl
  rw [Sem.run_bind, run_eqGuard_agg _ _ _ _ _ _ _ (by kernel_rfl), Result.andThen_ok, run_eql_struct, run_equalIn_struct _ _ _ _ _ (by kernel_rfl) (by kernel_rfl), hf]
  have hx : (decide (a = b)) = (decide (a.g = b.g) && (decide (a.v = b.v) && decide (a.d = b.d))) := by
    cases a; cases b; simp
  rw [hx]
  simp [Op.eqFields, encE, part, run_equalIn_int _ _ _ _ _ _ _ Try.underlying3, run_equalIn_string _ _ _ _ _ Try.underlying9, Try.isAgg3, Try.isAgg9, ite_and, int_beq, B_toList, lst_beq]

/-- masterdisc/masterdisclaw24.SuspBytes (function 3) -/
theorem bytes_c (l : List En) (A : Option Addr) (c : Nat) (s : List UInt8) (w : World) (hl : SlR w A c 3 encE l) (hsl : ∀ x ∈ l, x.g.length ≤ 9223372036854775807) : CallR Try.prog 3 [.slice A l.length c, .string (B s)] w (fun v w' => v = .bool true ∧ Ext w w') := by
  have hmx0 := hl.lenle
  simp only [maxLen] at hmx0
  refine callR_of (n := 73) [(0, .slice A l.length c), (1, .string (B s))] Try.func3 rfl rfl (Nat.le_of_ble_eq_true rfl) rfl ?_
  refine sc_seq ?_
  refine sc_reg ?_
  refine Go.XK.s (v := .bool false) (e_assign rfl) ?_
  refine sl_nil (nrm_k ?_)
  refine sc_seq ?_
  refine sc_seq ?_
  refine sc_reg ?_
  refine sl_call ent9 rfl rfl (awake_c w) (by decide) ?_
  rintro _ w1 ⟨rfl, hw1⟩
  have xw_w1 : Ext w w1 := Ext.tr (Ext.rfl' w) hw1
  refine Go.XK.s (v := .bool false) (e_not (b := true) rfl) ?_
  refine sl_nil (nrm_k ?_)
  refine sc_no rfl rfl ?_
  refine sc_skip (nrm_k ?_)
  refine sc_seq ?_
  refine sc_seq ?_
  refine sc_reg ?_
  refine Go.XK.s (v := .slice A l.length c) (e_move rfl) ?_
  refine sl_call ent10 rfl rfl (small_c _ _ _ 40 w1 (hl.ext xw_w1)) (by decide) ?_
  rintro _ w2 ⟨rfl, hw2⟩
  have xw_w2 : Ext w w2 := Ext.tr xw_w1 hw2
  refine Go.XK.s (v := .bool (!(small l 40))) (e_not rfl) ?_
  refine Go.XK.s (v := .bool (!(small l 40))) (e_move rfl) ?_
  refine sl_merge 4 22 (.bool ((!(small l 40)) && (decide ((l.length : Int) ≤ 1024)))) ?_ ?_
  · refine sl_case (t := 18) rfl (fun g3_3 => ?_) (fun g3_3 => ?_)
    ·
      refine sl_gev (v := .slice A l.length c) rfl rfl g3_3 (e_move rfl) rfl (by decide) ?_
      refine sl_gev (v := .int .i64 (l.length : Int)) rfl rfl g3_3 (e_len Try.underlying22 rfl) rfl (by decide) ?_
      refine sl_gev (v := .bool (decide ((l.length : Int) ≤ 1024))) rfl rfl g3_3 (e_le rfl rfl) rfl (by decide) ?_
      refine Go.XK.s (v := .bool (decide ((l.length : Int) ≤ 1024))) (e_pickT rfl g3_3 rfl) ?_
      exact sl_nil (fun a ha => ⟨rfl, ha.sub (.cons (by rw [g3_3]; rfl) (sub_self_cons (sub_self_cons (sub_self_cons (sub_self_cons (Sub.refl _) rfl) rfl) rfl) rfl))⟩)
    ·
      refine sl_gskip rfl rfl g3_3 (by decide) ?_
      refine sl_gskip rfl rfl g3_3 (by decide) ?_
      refine sl_gskip rfl rfl g3_3 (by decide) ?_
      refine Go.XK.s (v := .bool false) (e_pickF rfl g3_3 rfl) ?_
      exact sl_nil (fun a ha => ⟨rfl, ha.sub (.cons (by rw [g3_3]; rfl) (sub_self_cons (sub_self_cons (sub_self_cons (sub_self_cons (Sub.refl _) rfl) rfl) rfl) rfl))⟩)
  refine Go.XK.s (v := .bool ((!(small l 40)) && (decide ((l.length : Int) ≤ 1024)))) (e_move rfl) ?_
  refine sl_merge 4 27 (.bool (((!(small l 40)) && (decide ((l.length : Int) ≤ 1024))) || (decide ((3000 : Int) < (s.length : Int))))) ?_ ?_
  · refine sl_case (t := 23) rfl (fun g3_8 => ?_) (fun g3_8 => ?_)
    ·
      refine sl_gskip rfl rfl g3_8 (by decide) ?_
      refine sl_gskip rfl rfl g3_8 (by decide) ?_
      refine sl_gskip rfl rfl g3_8 (by decide) ?_
      refine Go.XK.s (v := .bool true) (e_pickT rfl g3_8 rfl) ?_
      exact sl_nil (fun a ha => ⟨rfl, ha.sub (.cons (by rw [g3_8]; rfl) (sub_self_cons (sub_self_cons (sub_self_cons (sub_self_cons (Sub.refl _) rfl) rfl) rfl) rfl))⟩)
    ·
      refine sl_gev (v := .string (B s)) rfl rfl g3_8 (e_move rfl) rfl (by decide) ?_
      refine sl_gev (v := .int .i64 (s.length : Int)) rfl rfl g3_8 (e_slen Try.underlying9 rfl) rfl (by decide) ?_
      refine sl_gev (v := .bool (decide ((3000 : Int) < (s.length : Int)))) rfl rfl g3_8 (e_gt rfl rfl) rfl (by decide) ?_
      refine Go.XK.s (v := .bool (decide ((3000 : Int) < (s.length : Int)))) (e_pickF rfl g3_8 rfl) ?_
      exact sl_nil (fun a ha => ⟨rfl, ha.sub (.cons (by rw [g3_8]; rfl) (sub_self_cons (sub_self_cons (sub_self_cons (sub_self_cons (Sub.refl _) rfl) rfl) rfl) rfl))⟩)
  refine sl_nil (nrm_k ?_)
  refine sc_if rfl (fun c27 => ?_) (fun c27 => ?_)
  ·
    refine sc_seq ?_
    refine sc_reg ?_
    refine Go.XK.s (v := .bool true) (e_assign rfl) ?_
    refine sl_nil (nrm_k ?_)
    refine sc_retf rfl (ret1 Try.results3 (rvt rfl) ?_)
    exact ⟨rfl, xw_w2⟩
  ·
    have h_ := c27
    simp only [Bool.or_eq_false_iff, decide_eq_false_iff_not] at h_
    refine sc_skip (nrm_k ?_)
    refine sc_seq ?_
    refine sc_reg ?_
    refine Go.XK.s (v := .slice A l.length c) (e_move rfl) ?_
    refine sl_call ent11 rfl rfl (encode_c _ _ _ w2 (hl.ext xw_w2) hsl) (by decide) ?_
    rintro _ w3 ⟨rfl, hw3⟩
    have xw_w3 : Ext w w3 := Ext.tr xw_w2 hw3
    refine Go.XK.s (v := .tuple #[.string (B ((encR l).1)), .int .i64 ((encR l).2)]) (e_move rfl) ?_
    refine Go.XK.s (v := .string (B ((encR l).1))) (e_extract (vs := [.string (B ((encR l).1)), .int .i64 ((encR l).2)]) rfl rfl) ?_
    refine Go.XK.s (v := .int .i64 ((encR l).2)) (e_extract (vs := [.string (B ((encR l).1)), .int .i64 ((encR l).2)]) rfl rfl) ?_
    refine Go.XK.s (v := .string (B ((encR l).1))) (e_assign rfl) ?_
    refine Go.XK.s (v := .int .i64 ((encR l).2)) (e_assign rfl) ?_
    refine sl_nil (nrm_k ?_)
    refine sc_seq ?_
    refine sc_reg ?_
    refine Go.XK.s (v := .slice A l.length c) (e_move rfl) ?_
    refine sl_call ent12 rfl rfl (rencode_c _ _ _ w3 (hl.ext xw_w3)) (by decide) ?_
    rintro _ w4 ⟨rfl, hw4⟩
    have xw_w4 : Ext w w4 := Ext.tr xw_w3 hw4
    refine Go.XK.s (v := .tuple #[.string (B ((encR l).1)), .int .i64 ((encR l).2)]) (e_move rfl) ?_
    refine Go.XK.s (v := .string (B ((encR l).1))) (e_extract (vs := [.string (B ((encR l).1)), .int .i64 ((encR l).2)]) rfl rfl) ?_
    refine Go.XK.s (v := .int .i64 ((encR l).2)) (e_extract (vs := [.string (B ((encR l).1)), .int .i64 ((encR l).2)]) rfl rfl) ?_
    refine Go.XK.s (v := .string (B ((encR l).1))) (e_assign rfl) ?_
    refine Go.XK.s (v := .int .i64 ((encR l).2)) (e_assign rfl) ?_
    refine sl_nil (nrm_k ?_)
    refine sc_seq ?_
    refine sc_reg ?_
    refine Go.XK.s (v := .string (B s)) (e_move rfl) ?_
    refine sl_call ent13 rfl rfl (decode_c s w4 (by omega)) (by decide) ?_
    rintro _ w5 ⟨vD12, rfl, hoD12, hw5⟩
    replace hoD12 := Own.low hoD12 (Below.size xw_w4)
    have xw_w5 : Ext w w5 := Ext.tr xw_w4 hw5
    obtain ⟨AD12, cD12, eD12_, hlcD12, hcmD12, _⟩ := Go.XK.Own.shape hoD12 (fun _ => rfl)
    subst eD12_
    refine Go.XK.s (v := .tuple #[.slice AD12 ((decR s).1).length cD12, .int .i64 ((decR s).2)]) (e_move rfl) ?_
    refine Go.XK.s (v := .slice AD12 ((decR s).1).length cD12) (e_extract (vs := [.slice AD12 ((decR s).1).length cD12, .int .i64 ((decR s).2)]) rfl rfl) ?_
    refine Go.XK.s (v := .int .i64 ((decR s).2)) (e_extract (vs := [.slice AD12 ((decR s).1).length cD12, .int .i64 ((decR s).2)]) rfl rfl) ?_
    refine Go.XK.s (v := .slice AD12 ((decR s).1).length cD12) (e_assign rfl) ?_
    refine Go.XK.s (v := .int .i64 ((decR s).2)) (e_assign rfl) ?_
    refine sl_nil (nrm_k ?_)
    refine sc_seq ?_
    refine sc_reg ?_
    refine Go.XK.s (v := .string (B s)) (e_move rfl) ?_
    refine sl_call ent14 rfl rfl (rdecode_c s w5 (by omega)) (by decide) ?_
    rintro _ w6 ⟨vD13, rfl, hoD13, hw6⟩
    replace hoD13 := Own.low hoD13 (Below.size xw_w5)
    have xw_w6 : Ext w w6 := Ext.tr xw_w5 hw6
    replace hoD12 := hoD12.ext hw6
    obtain ⟨AD13, cD13, eD13_, hlcD13, hcmD13, _⟩ := Go.XK.Own.shape hoD13 (fun _ => rfl)
    subst eD13_
    refine Go.XK.s (v := .tuple #[.slice AD13 ((decR s).1).length cD13, .int .i64 ((decR s).2)]) (e_move rfl) ?_
    refine Go.XK.s (v := .slice AD13 ((decR s).1).length cD13) (e_extract (vs := [.slice AD13 ((decR s).1).length cD13, .int .i64 ((decR s).2)]) rfl rfl) ?_
    refine Go.XK.s (v := .int .i64 ((decR s).2)) (e_extract (vs := [.slice AD13 ((decR s).1).length cD13, .int .i64 ((decR s).2)]) rfl rfl) ?_
    refine Go.XK.s (v := .slice AD13 ((decR s).1).length cD13) (e_assign rfl) ?_
    refine Go.XK.s (v := .int .i64 ((decR s).2)) (e_assign rfl) ?_
    refine sl_nil (nrm_k ?_)
    refine sc_seq ?_
    refine sc_reg ?_
    refine Go.XK.s (v := .slice A l.length c) (e_move rfl) ?_
    refine sl_call ent15 rfl rfl (size_c _ _ _ w6 (hl.ext xw_w6)) (by decide) ?_
    rintro _ w7 ⟨rfl, hw7⟩
    have xw_w7 : Ext w w7 := Ext.tr xw_w6 hw7
    replace hoD12 := hoD12.ext hw7
    replace hoD13 := hoD13.ext hw7
    refine Go.XK.s (v := .slice A l.length c) (e_move rfl) ?_
    refine sl_call ent16 rfl rfl (rsize_c _ _ _ w7 (hl.ext xw_w7)) (by decide) ?_
    rintro _ w8 ⟨rfl, hw8⟩
    have xw_w8 : Ext w w8 := Ext.tr xw_w7 hw8
    replace hoD12 := hoD12.ext hw8
    replace hoD13 := hoD13.ext hw8
    refine Go.XK.s (v := .bool (decide (wr64 (szL l : Int) = wr64 (szL l : Int)))) (e_eq rfl rfl) ?_
    refine Go.XK.s (v := .bool (decide (wr64 (szL l : Int) = wr64 (szL l : Int)))) (e_move rfl) ?_
    refine sl_merge 4 57 (.bool ((decide (wr64 (szL l : Int) = wr64 (szL l : Int))) && (decide ((encR l).1 = (encR l).1)))) ?_ ?_
    · refine sl_case (t := 53) rfl (fun g9_5 => ?_) (fun g9_5 => ?_)
      ·
        refine sl_gev (v := .string (B ((encR l).1))) rfl rfl g9_5 (e_move rfl) rfl (by decide) ?_
        refine sl_gev (v := .string (B ((encR l).1))) rfl rfl g9_5 (e_move rfl) rfl (by decide) ?_
        refine sl_gev (v := .bool (decide ((encR l).1 = (encR l).1))) rfl rfl g9_5 (e_seq rfl rfl) rfl (by decide) ?_
        refine Go.XK.s (v := .bool (decide ((encR l).1 = (encR l).1))) (e_pickT rfl g9_5 rfl) ?_
        exact sl_nil (fun a ha => ⟨rfl, ha.sub (.cons (by rw [g9_5]; rfl) (sub_self_cons (sub_self_cons (sub_self_cons (sub_self_cons (Sub.refl _) rfl) rfl) rfl) rfl))⟩)
      ·
        refine sl_gskip rfl rfl g9_5 (by decide) ?_
        refine sl_gskip rfl rfl g9_5 (by decide) ?_
        refine sl_gskip rfl rfl g9_5 (by decide) ?_
        refine Go.XK.s (v := .bool false) (e_pickF rfl g9_5 rfl) ?_
        exact sl_nil (fun a ha => ⟨rfl, ha.sub (.cons (by rw [g9_5]; rfl) (sub_self_cons (sub_self_cons (sub_self_cons (sub_self_cons (Sub.refl _) rfl) rfl) rfl) rfl))⟩)
    refine Go.XK.s (v := .bool ((decide (wr64 (szL l : Int) = wr64 (szL l : Int))) && (decide ((encR l).1 = (encR l).1)))) (e_move rfl) ?_
    refine sl_merge 4 62 (.bool (((decide (wr64 (szL l : Int) = wr64 (szL l : Int))) && (decide ((encR l).1 = (encR l).1))) && (decide ((encR l).2 = (encR l).2)))) ?_ ?_
    · refine sl_case (t := 58) rfl (fun g9_10 => ?_) (fun g9_10 => ?_)
      ·
        refine sl_gev (v := .int .i64 ((encR l).2)) rfl rfl g9_10 (e_move rfl) rfl (by decide) ?_
        refine sl_gev (v := .int .i64 ((encR l).2)) rfl rfl g9_10 (e_move rfl) rfl (by decide) ?_
        refine sl_gev (v := .bool (decide ((encR l).2 = (encR l).2))) rfl rfl g9_10 (e_eq rfl rfl) rfl (by decide) ?_
        refine Go.XK.s (v := .bool (decide ((encR l).2 = (encR l).2))) (e_pickT rfl g9_10 rfl) ?_
        exact sl_nil (fun a ha => ⟨rfl, ha.sub (.cons (by rw [g9_10]; rfl) (sub_self_cons (sub_self_cons (sub_self_cons (sub_self_cons (Sub.refl _) rfl) rfl) rfl) rfl))⟩)
      ·
        refine sl_gskip rfl rfl g9_10 (by decide) ?_
        refine sl_gskip rfl rfl g9_10 (by decide) ?_
        refine sl_gskip rfl rfl g9_10 (by decide) ?_
        refine Go.XK.s (v := .bool false) (e_pickF rfl g9_10 rfl) ?_
        exact sl_nil (fun a ha => ⟨rfl, ha.sub (.cons (by rw [g9_10]; rfl) (sub_self_cons (sub_self_cons (sub_self_cons (sub_self_cons (Sub.refl _) rfl) rfl) rfl) rfl))⟩)
    refine Go.XK.s (v := .bool (((decide (wr64 (szL l : Int) = wr64 (szL l : Int))) && (decide ((encR l).1 = (encR l).1))) && (decide ((encR l).2 = (encR l).2)))) (e_move rfl) ?_
    refine sl_mergeW 4 67 (.bool ((((decide (wr64 (szL l : Int) = wr64 (szL l : Int))) && (decide ((encR l).1 = (encR l).1))) && (decide ((encR l).2 = (encR l).2))) && (decide ((decR s).1 = (decR s).1)))) (fun w_ => Ext w8 w_) ?_ (fun w9 hw9 => ?_)
    · refine sl_case (t := 63) rfl (fun g9_15 => ?_) (fun g9_15 => ?_)
      ·
        refine sl_gev (v := .slice AD12 ((decR s).1).length cD12) rfl rfl g9_15 (e_move rfl) rfl (by decide) ?_
        refine sl_gev (v := .slice AD13 ((decR s).1).length cD13) rfl rfl g9_15 (e_move rfl) rfl (by decide) ?_
        refine sl_gcall rfl rfl g9_15 ent17 rfl rfl (same_c _ _ _ _ _ _ w8 (Go.XK.Own.slr hoD12 (fun _ => rfl)) (Go.XK.Own.slr hoD13 (fun _ => rfl))) (by decide) ?_
        rintro _ w10 ⟨rfl, hw10⟩
        have xw_w10 : Ext w w10 := Ext.tr xw_w8 hw10
        have xw8_w10 : Ext w8 w10 := Ext.tr (Ext.rfl' w8) hw10
        replace hoD12 := hoD12.ext hw10
        replace hoD13 := hoD13.ext hw10
        refine Go.XK.s (v := .bool (decide ((decR s).1 = (decR s).1))) (e_pickT rfl g9_15 rfl) ?_
        exact sl_nil (fun a ha => ⟨xw8_w10, ha.sub (.cons (by rw [g9_15]; rfl) (sub_self_cons (sub_self_cons (sub_self_cons (sub_self_cons (Sub.refl _) rfl) rfl) rfl) rfl))⟩)
      ·
        refine sl_gskip rfl rfl g9_15 (by decide) ?_
        refine sl_gskip rfl rfl g9_15 (by decide) ?_
        refine sl_gskip rfl rfl g9_15 (by decide) ?_
        refine Go.XK.s (v := .bool false) (e_pickF rfl g9_15 rfl) ?_
        exact sl_nil (fun a ha => ⟨(Ext.rfl' w8), ha.sub (.cons (by rw [g9_15]; rfl) (sub_self_cons (sub_self_cons (sub_self_cons (sub_self_cons (Sub.refl _) rfl) rfl) rfl) rfl))⟩)
    have xw_w9 : Ext w w9 := Ext.tr xw_w8 hw9
    replace hoD12 := hoD12.ext hw9
    replace hoD13 := hoD13.ext hw9
    refine Go.XK.s (v := .bool ((((decide (wr64 (szL l : Int) = wr64 (szL l : Int))) && (decide ((encR l).1 = (encR l).1))) && (decide ((encR l).2 = (encR l).2))) && (decide ((decR s).1 = (decR s).1)))) (e_move rfl) ?_
    refine sl_merge 4 72 (.bool (((((decide (wr64 (szL l : Int) = wr64 (szL l : Int))) && (decide ((encR l).1 = (encR l).1))) && (decide ((encR l).2 = (encR l).2))) && (decide ((decR s).1 = (decR s).1))) && (decide ((decR s).2 = (decR s).2)))) ?_ ?_
    · refine sl_case (t := 68) rfl (fun g9_20 => ?_) (fun g9_20 => ?_)
      ·
        refine sl_gev (v := .int .i64 ((decR s).2)) rfl rfl g9_20 (e_move rfl) rfl (by decide) ?_
        refine sl_gev (v := .int .i64 ((decR s).2)) rfl rfl g9_20 (e_move rfl) rfl (by decide) ?_
        refine sl_gev (v := .bool (decide ((decR s).2 = (decR s).2))) rfl rfl g9_20 (e_eq rfl rfl) rfl (by decide) ?_
        refine Go.XK.s (v := .bool (decide ((decR s).2 = (decR s).2))) (e_pickT rfl g9_20 rfl) ?_
        exact sl_nil (fun a ha => ⟨rfl, ha.sub (.cons (by rw [g9_20]; rfl) (sub_self_cons (sub_self_cons (sub_self_cons (sub_self_cons (Sub.refl _) rfl) rfl) rfl) rfl))⟩)
      ·
        refine sl_gskip rfl rfl g9_20 (by decide) ?_
        refine sl_gskip rfl rfl g9_20 (by decide) ?_
        refine sl_gskip rfl rfl g9_20 (by decide) ?_
        refine Go.XK.s (v := .bool false) (e_pickF rfl g9_20 rfl) ?_
        exact sl_nil (fun a ha => ⟨rfl, ha.sub (.cons (by rw [g9_20]; rfl) (sub_self_cons (sub_self_cons (sub_self_cons (sub_self_cons (Sub.refl _) rfl) rfl) rfl) rfl))⟩)
    refine Go.XK.s (v := .bool (((((decide (wr64 (szL l : Int) = wr64 (szL l : Int))) && (decide ((encR l).1 = (encR l).1))) && (decide ((encR l).2 = (encR l).2))) && (decide ((decR s).1 = (decR s).1))) && (decide ((decR s).2 = (decR s).2)))) (e_assign rfl) ?_
    refine sl_nil (nrm_k ?_)
    refine sc_retf rfl (ret1 Try.results3 (rvt rfl) ?_)
    exact ⟨congrArg Value.bool (by simp), xw_w9⟩

/-- masterdisc/masterdisclaw24.SuspGroups (function 4) -/
theorem groups_l (l : List En) (A : Option Addr) (c : Nat) (z : Int) (w : World) (hl : SlR w A c 3 encE l) (hsl : ∀ x ∈ l, x.g.length ≤ 9223372036854775807) : CallR Try.prog 4 [.slice A l.length c, .int .i64 z] w (fun v w' => v = .bool true ∧ Ext w w') := by
  have hmx0 := hl.lenle
  simp only [maxLen] at hmx0
  refine callR_of (n := 41) [(0, .slice A l.length c), (1, .int .i64 z)] Try.func4 rfl rfl (Nat.le_of_ble_eq_true rfl) rfl ?_
  refine sc_seq ?_
  refine sc_reg ?_
  refine Go.XK.s (v := .bool false) (e_assign rfl) ?_
  refine sl_nil (nrm_k ?_)
  refine sc_seq ?_
  refine sc_seq ?_
  refine sc_reg ?_
  refine sl_call ent9 rfl rfl (awake_c w) (by decide) ?_
  rintro _ w1 ⟨rfl, hw1⟩
  have xw_w1 : Ext w w1 := Ext.tr (Ext.rfl' w) hw1
  refine Go.XK.s (v := .bool false) (e_not (b := true) rfl) ?_
  refine sl_nil (nrm_k ?_)
  refine sc_no rfl rfl ?_
  refine sc_skip (nrm_k ?_)
  refine sc_seq ?_
  refine sc_seq ?_
  refine sc_reg ?_
  refine Go.XK.s (v := .slice A l.length c) (e_move rfl) ?_
  refine sl_call ent10 rfl rfl (small_c _ _ _ 80 w1 (hl.ext xw_w1)) (by decide) ?_
  rintro _ w2 ⟨rfl, hw2⟩
  have xw_w2 : Ext w w2 := Ext.tr xw_w1 hw2
  refine Go.XK.s (v := .bool (!(small l 80))) (e_not rfl) ?_
  refine sl_nil (nrm_k ?_)
  refine sc_if rfl (fun c13 => ?_) (fun c13 => ?_)
  ·
    refine sc_seq ?_
    refine sc_reg ?_
    refine Go.XK.s (v := .bool true) (e_assign rfl) ?_
    refine sl_nil (nrm_k ?_)
    refine sc_retf rfl (ret1 Try.results4 (rvt rfl) ?_)
    exact ⟨rfl, xw_w2⟩
  ·
    refine sc_skip (nrm_k ?_)
    refine sc_seq ?_
    refine sc_reg ?_
    refine Go.XK.s (v := .slice A l.length c) (e_move rfl) ?_
    refine Go.XK.s (v := .int .i64 z) (e_move rfl) ?_
    refine sl_call ent18 rfl rfl (groups_c _ _ _ z w2 (hl.ext xw_w2) hsl) (by decide) ?_
    rintro _ w3 ⟨vG14, gsG14, rfl, hqG14, hoG14, hogG14, hw3⟩
    replace hoG14 := Own.low hoG14 (Below.size xw_w2)
    replace hogG14 := OwG.low hogG14 (Below.size xw_w2)
    have xw_w3 : Ext w w3 := Ext.tr xw_w2 hw3
    obtain ⟨AG14, cG14, eG14_, hlcG14, hcmG14, _⟩ := Go.XK.Own.shape hoG14 (fun _ => rfl)
    subst eG14_
    refine Go.XK.s (v := .tuple #[.slice AG14 gsG14.length cG14, .int .i64 ((grpR l z).2)]) (e_move rfl) ?_
    refine Go.XK.s (v := .slice AG14 gsG14.length cG14) (e_extract (vs := [.slice AG14 gsG14.length cG14, .int .i64 ((grpR l z).2)]) rfl rfl) ?_
    refine Go.XK.s (v := .int .i64 ((grpR l z).2)) (e_extract (vs := [.slice AG14 gsG14.length cG14, .int .i64 ((grpR l z).2)]) rfl rfl) ?_
    refine Go.XK.s (v := .slice AG14 gsG14.length cG14) (e_assign rfl) ?_
    refine Go.XK.s (v := .int .i64 ((grpR l z).2)) (e_assign rfl) ?_
    refine sl_nil (nrm_k ?_)
    refine sc_seq ?_
    refine sc_reg ?_
    refine Go.XK.s (v := .slice A l.length c) (e_move rfl) ?_
    refine Go.XK.s (v := .int .i64 z) (e_move rfl) ?_
    refine sl_call ent19 rfl rfl (rgroups_c _ _ _ z w3 (hl.ext xw_w3)) (by decide) ?_
    rintro _ w4 ⟨vG15, gsG15, rfl, hqG15, hoG15, hogG15, hw4⟩
    replace hoG15 := Own.low hoG15 (Below.size xw_w3)
    replace hogG15 := OwG.low hogG15 (Below.size xw_w3)
    have xw_w4 : Ext w w4 := Ext.tr xw_w3 hw4
    replace hoG14 := hoG14.ext hw4
    replace hogG14 := hogG14.ext hw4
    obtain ⟨AG15, cG15, eG15_, hlcG15, hcmG15, _⟩ := Go.XK.Own.shape hoG15 (fun _ => rfl)
    subst eG15_
    refine Go.XK.s (v := .tuple #[.slice AG15 gsG15.length cG15, .int .i64 ((grpR l z).2)]) (e_move rfl) ?_
    refine Go.XK.s (v := .slice AG15 gsG15.length cG15) (e_extract (vs := [.slice AG15 gsG15.length cG15, .int .i64 ((grpR l z).2)]) rfl rfl) ?_
    refine Go.XK.s (v := .int .i64 ((grpR l z).2)) (e_extract (vs := [.slice AG15 gsG15.length cG15, .int .i64 ((grpR l z).2)]) rfl rfl) ?_
    refine Go.XK.s (v := .slice AG15 gsG15.length cG15) (e_assign rfl) ?_
    refine Go.XK.s (v := .int .i64 ((grpR l z).2)) (e_assign rfl) ?_
    refine sl_nil (nrm_k ?_)
    refine sc_seq ?_
    refine sc_reg ?_
    refine Go.XK.s (v := .int .i64 ((grpR l z).2)) (e_move rfl) ?_
    refine Go.XK.s (v := .int .i64 ((grpR l z).2)) (e_move rfl) ?_
    refine Go.XK.s (v := .bool (decide ((grpR l z).2 = (grpR l z).2))) (e_eq rfl rfl) ?_
    refine Go.XK.s (v := .bool (decide ((grpR l z).2 = (grpR l z).2))) (e_move rfl) ?_
    refine sl_mergeW 4 33 (.bool ((decide ((grpR l z).2 = (grpR l z).2)) && (decide (gsG14.map (fun g_ : Gp => g_.l) = gsG15.map (fun g_ : Gp => g_.l))))) (fun w_ => Ext w4 w_) ?_ (fun w5 hw5 => ?_)
    · refine sl_case (t := 29) rfl (fun g7_3 => ?_) (fun g7_3 => ?_)
      ·
        refine sl_gev (v := .slice AG14 gsG14.length cG14) rfl rfl g7_3 (e_move rfl) rfl (by decide) ?_
        refine sl_gev (v := .slice AG15 gsG15.length cG15) rfl rfl g7_3 (e_move rfl) rfl (by decide) ?_
        refine sl_gcall rfl rfl g7_3 ent20 rfl rfl (sameG_c _ _ _ _ _ _ w4 (Go.XK.Own.slr hoG14 (fun _ => rfl)) (OwG.inn hogG14) (Go.XK.Own.slr hoG15 (fun _ => rfl)) (OwG.inn hogG15)) (by decide) ?_
        rintro _ w6 ⟨rfl, hw6⟩
        have xw_w6 : Ext w w6 := Ext.tr xw_w4 hw6
        have xw4_w6 : Ext w4 w6 := Ext.tr (Ext.rfl' w4) hw6
        replace hoG14 := hoG14.ext hw6
        replace hogG14 := hogG14.ext hw6
        replace hoG15 := hoG15.ext hw6
        replace hogG15 := hogG15.ext hw6
        refine Go.XK.s (v := .bool (decide (gsG14.map (fun g_ : Gp => g_.l) = gsG15.map (fun g_ : Gp => g_.l)))) (e_pickT rfl g7_3 rfl) ?_
        exact sl_nil (fun a ha => ⟨xw4_w6, ha.sub (.cons (by rw [g7_3]; rfl) (sub_self_cons (sub_self_cons (sub_self_cons (sub_self_cons (Sub.refl _) rfl) rfl) rfl) rfl))⟩)
      ·
        refine sl_gskip rfl rfl g7_3 (by decide) ?_
        refine sl_gskip rfl rfl g7_3 (by decide) ?_
        refine sl_gskip rfl rfl g7_3 (by decide) ?_
        refine Go.XK.s (v := .bool false) (e_pickF rfl g7_3 rfl) ?_
        exact sl_nil (fun a ha => ⟨(Ext.rfl' w4), ha.sub (.cons (by rw [g7_3]; rfl) (sub_self_cons (sub_self_cons (sub_self_cons (sub_self_cons (Sub.refl _) rfl) rfl) rfl) rfl))⟩)
    have xw_w5 : Ext w w5 := Ext.tr xw_w4 hw5
    replace hoG14 := hoG14.ext hw5
    replace hogG14 := hogG14.ext hw5
    replace hoG15 := hoG15.ext hw5
    replace hogG15 := hogG15.ext hw5
    refine Go.XK.s (v := .bool ((decide ((grpR l z).2 = (grpR l z).2)) && (decide (gsG14.map (fun g_ : Gp => g_.l) = gsG15.map (fun g_ : Gp => g_.l))))) (e_move rfl) ?_
    refine sl_mergeW 6 40 (.bool (((decide ((grpR l z).2 = (grpR l z).2)) && (decide (gsG14.map (fun g_ : Gp => g_.l) = gsG15.map (fun g_ : Gp => g_.l)))) && (decide (lenL (gsG15.map (fun g_ : Gp => g_.l)) = lenL (gsG15.map (fun g_ : Gp => g_.l)))))) (fun w_ => Ext w5 w_) ?_ (fun w7 hw7 => ?_)
    · refine sl_case (t := 34) rfl (fun g7_8 => ?_) (fun g7_8 => ?_)
      ·
        refine sl_gev (v := .slice AG15 gsG15.length cG15) rfl rfl g7_8 (e_move rfl) rfl (by decide) ?_
        refine sl_gcall rfl rfl g7_8 ent22 rfl rfl (lens_c _ _ _ w5 (Go.XK.Own.slr hoG15 (fun _ => rfl)) (OwG.inn hogG15) (grp_hbg hqG15) (grp_hll hqG15)) (by decide) ?_
        rintro vD18 w8 ⟨hoD18, hw8⟩
        replace hoD18 := Own.low hoD18 (Below.size xw_w5)
        have xw_w8 : Ext w w8 := Ext.tr xw_w5 hw8
        have xw5_w8 : Ext w5 w8 := Ext.tr (Ext.rfl' w5) hw8
        replace hoG14 := hoG14.ext hw8
        replace hogG14 := hogG14.ext hw8
        replace hoG15 := hoG15.ext hw8
        replace hogG15 := hogG15.ext hw8
        obtain ⟨AD18, cD18, eD18_, hlcD18, hcmD18, _⟩ := Go.XK.Own.shape hoD18 (fun _ => rfl)
        subst eD18_
        refine sl_gev (v := .slice AG15 gsG15.length cG15) rfl rfl g7_8 (e_move rfl) rfl (by decide) ?_
        refine sl_gcall rfl rfl g7_8 ent23 rfl rfl (rlens_c _ _ _ w8 (Go.XK.Own.slr hoG15 (fun _ => rfl)) (OwG.inn hogG15) (grp_hbg hqG15) (grp_hll hqG15)) (by decide) ?_
        rintro vD19 w9 ⟨hoD19, hw9⟩
        replace hoD19 := Own.low hoD19 (Below.size xw_w8)
        have xw_w9 : Ext w w9 := Ext.tr xw_w8 hw9
        have xw5_w9 : Ext w5 w9 := Ext.tr xw5_w8 hw9
        replace hoG14 := hoG14.ext hw9
        replace hogG14 := hogG14.ext hw9
        replace hoG15 := hoG15.ext hw9
        replace hogG15 := hogG15.ext hw9
        replace hoD18 := hoD18.ext hw9
        obtain ⟨AD19, cD19, eD19_, hlcD19, hcmD19, _⟩ := Go.XK.Own.shape hoD19 (fun _ => rfl)
        subst eD19_
        refine sl_gcall rfl rfl g7_8 ent21 rfl rfl (equalI_c _ _ _ _ _ _ w9 (Go.XK.Own.slr hoD18 (fun _ => rfl)) (Go.XK.Own.slr hoD19 (fun _ => rfl))) (by decide) ?_
        rintro _ w10 ⟨rfl, hw10⟩
        have xw_w10 : Ext w w10 := Ext.tr xw_w9 hw10
        have xw5_w10 : Ext w5 w10 := Ext.tr xw5_w9 hw10
        replace hoG14 := hoG14.ext hw10
        replace hogG14 := hogG14.ext hw10
        replace hoG15 := hoG15.ext hw10
        replace hogG15 := hogG15.ext hw10
        replace hoD18 := hoD18.ext hw10
        replace hoD19 := hoD19.ext hw10
        refine Go.XK.s (v := .bool (decide (lenL (gsG15.map (fun g_ : Gp => g_.l)) = lenL (gsG15.map (fun g_ : Gp => g_.l))))) (e_pickT rfl g7_8 rfl) ?_
        exact sl_nil (fun a ha => ⟨xw5_w10, ha.sub (.cons (by rw [g7_8]; rfl) (sub_self_cons (sub_self_cons (sub_self_cons (sub_self_cons (sub_self_cons (sub_self_cons (Sub.refl _) rfl) rfl) rfl) rfl) rfl) rfl))⟩)
      ·
        refine sl_gskip rfl rfl g7_8 (by decide) ?_
        refine sl_gskip rfl rfl g7_8 (by decide) ?_
        refine sl_gskip rfl rfl g7_8 (by decide) ?_
        refine sl_gskip rfl rfl g7_8 (by decide) ?_
        refine sl_gskip rfl rfl g7_8 (by decide) ?_
        refine Go.XK.s (v := .bool false) (e_pickF rfl g7_8 rfl) ?_
        exact sl_nil (fun a ha => ⟨(Ext.rfl' w5), ha.sub (.cons (by rw [g7_8]; rfl) (sub_self_cons (sub_self_cons (sub_self_cons (sub_self_cons (sub_self_cons (sub_self_cons (Sub.refl _) rfl) rfl) rfl) rfl) rfl) rfl))⟩)
    have xw_w7 : Ext w w7 := Ext.tr xw_w5 hw7
    replace hoG14 := hoG14.ext hw7
    replace hogG14 := hogG14.ext hw7
    replace hoG15 := hoG15.ext hw7
    replace hogG15 := hogG15.ext hw7
    refine Go.XK.s (v := .bool (((decide ((grpR l z).2 = (grpR l z).2)) && (decide (gsG14.map (fun g_ : Gp => g_.l) = gsG15.map (fun g_ : Gp => g_.l)))) && (decide (lenL (gsG15.map (fun g_ : Gp => g_.l)) = lenL (gsG15.map (fun g_ : Gp => g_.l)))))) (e_assign rfl) ?_
    refine sl_nil (nrm_k ?_)
    refine sc_retf rfl (ret1 Try.results4 (rvt rfl) ?_)
    exact ⟨congrArg Value.bool (by simp [hqG14, hqG15]), xw_w7⟩

/-- masterdisc/masterdisclaw24.SuspExtensions (function 5) -/
theorem exts_c (z : Int) (s a b c : List UInt8) (l : List En) (A : Option Addr) (cl : Nat) (w : World) (hs1 : s.length ≤ 140737488351232) (ha1 : a.length ≤ 140737488351232) (hb1 : b.length ≤ 140737488351232) (hc1 : c.length ≤ 140737488351232) (hl : SlR w A cl 3 encE l) : CallR Try.prog 5 [.int .i64 z, .string (B s), .string (B a), .string (B b), .string (B c), .slice A l.length cl] w (fun v w' => v = .bool true ∧ Ext w w') := by
  have hmx0 := hl.lenle
  simp only [maxLen] at hmx0
  refine callR_of (n := 115) [(0, .int .i64 z), (1, .string (B s)), (2, .string (B a)), (3, .string (B b)), (4, .string (B c)), (5, .slice A l.length cl)] Try.func5 rfl rfl (Nat.le_of_ble_eq_true rfl) rfl ?_
  refine sc_seq ?_
  refine sc_reg ?_
  refine Go.XK.s (v := .bool false) (e_assign rfl) ?_
  refine sl_nil (nrm_k ?_)
  refine sc_seq ?_
  refine sc_seq ?_
  refine sc_reg ?_
  refine sl_call ent9 rfl rfl (awake_c w) (by decide) ?_
  rintro _ w1 ⟨rfl, hw1⟩
  have xw_w1 : Ext w w1 := Ext.tr (Ext.rfl' w) hw1
  refine Go.XK.s (v := .bool false) (e_not (b := true) rfl) ?_
  refine sl_nil (nrm_k ?_)
  refine sc_no rfl rfl ?_
  refine sc_skip (nrm_k ?_)
  refine sc_seq ?_
  refine sc_seq ?_
  refine sc_reg ?_
  refine Go.XK.s (v := .string (B s)) (e_move rfl) ?_
  refine Go.XK.s (v := .int .i64 (s.length : Int)) (e_slen Try.underlying9 rfl) ?_
  refine Go.XK.s (v := .string (B a)) (e_move rfl) ?_
  refine Go.XK.s (v := .int .i64 (a.length : Int)) (e_slen Try.underlying9 rfl) ?_
  refine Go.XK.s (v := .int .i64 ((s.length : Int) + (a.length : Int))) (e_add rfl rfl (by omega)) ?_
  refine Go.XK.s (v := .string (B b)) (e_move rfl) ?_
  refine Go.XK.s (v := .int .i64 (b.length : Int)) (e_slen Try.underlying9 rfl) ?_
  refine Go.XK.s (v := .int .i64 (((s.length : Int) + (a.length : Int)) + (b.length : Int))) (e_add rfl rfl (by omega)) ?_
  refine Go.XK.s (v := .string (B c)) (e_move rfl) ?_
  refine Go.XK.s (v := .int .i64 (c.length : Int)) (e_slen Try.underlying9 rfl) ?_
  refine Go.XK.s (v := .int .i64 ((((s.length : Int) + (a.length : Int)) + (b.length : Int)) + (c.length : Int))) (e_add rfl rfl (by omega)) ?_
  refine Go.XK.s (v := .bool (decide ((1000 : Int) < (((s.length : Int) + (a.length : Int)) + (b.length : Int)) + (c.length : Int)))) (e_gt rfl rfl) ?_
  refine Go.XK.s (v := .bool (decide ((1000 : Int) < (((s.length : Int) + (a.length : Int)) + (b.length : Int)) + (c.length : Int)))) (e_move rfl) ?_
  refine sl_mergeW 4 43 (.bool ((decide ((1000 : Int) < (((s.length : Int) + (a.length : Int)) + (b.length : Int)) + (c.length : Int))) || (!(small l 40)))) (fun w_ => Ext w1 w_) ?_ (fun w2 hw2 => ?_)
  · refine sl_case (t := 39) rfl (fun g3_12 => ?_) (fun g3_12 => ?_)
    ·
      refine sl_gskip rfl rfl g3_12 (by decide) ?_
      refine sl_gskip rfl rfl g3_12 (by decide) ?_
      refine sl_gskip rfl rfl g3_12 (by decide) ?_
      refine Go.XK.s (v := .bool true) (e_pickT rfl g3_12 rfl) ?_
      exact sl_nil (fun a ha => ⟨(Ext.rfl' w1), ha.sub (.cons (by rw [g3_12]; rfl) (sub_self_cons (sub_self_cons (sub_self_cons (sub_self_cons (Sub.refl _) rfl) rfl) rfl) rfl))⟩)
    ·
      refine sl_gev (v := .slice A l.length cl) rfl rfl g3_12 (e_move rfl) rfl (by decide) ?_
      refine sl_gcall rfl rfl g3_12 ent10 rfl rfl (small_c _ _ _ 40 w1 (hl.ext xw_w1)) (by decide) ?_
      rintro _ w3 ⟨rfl, hw3⟩
      have xw_w3 : Ext w w3 := Ext.tr xw_w1 hw3
      have xw1_w3 : Ext w1 w3 := Ext.tr (Ext.rfl' w1) hw3
      refine sl_gev (v := .bool (!(small l 40))) rfl rfl g3_12 (e_not rfl) rfl (by decide) ?_
      refine Go.XK.s (v := .bool (!(small l 40))) (e_pickF rfl g3_12 rfl) ?_
      exact sl_nil (fun a ha => ⟨xw1_w3, ha.sub (.cons (by rw [g3_12]; rfl) (sub_self_cons (sub_self_cons (sub_self_cons (sub_self_cons (Sub.refl _) rfl) rfl) rfl) rfl))⟩)
  have xw_w2 : Ext w w2 := Ext.tr xw_w1 hw2
  refine sl_nil (nrm_k ?_)
  refine sc_if rfl (fun c43 => ?_) (fun c43 => ?_)
  ·
    refine sc_seq ?_
    refine sc_reg ?_
    refine Go.XK.s (v := .bool true) (e_assign rfl) ?_
    refine sl_nil (nrm_k ?_)
    refine sc_retf rfl (ret1 Try.results5 (rvt rfl) ?_)
    exact ⟨rfl, xw_w2⟩
  ·
    have h_ := c43
    simp only [Bool.or_eq_false_iff, decide_eq_false_iff_not, Bool.not_eq_false'] at h_
    obtain ⟨hsum, hsml⟩ := h_
    have hss := small_spec hsml
    have hdl : ∀ x ∈ l, x.d.length ≤ 1099511627776 := fun x hx => by have := (hss.2 x hx).1; omega
    have hll : l.length ≤ 1000000 := by omega
    refine sc_skip (nrm_k ?_)
    refine sc_seq ?_
    refine sc_reg ?_
    refine Go.XK.s (v := .int .i64 z) (e_move rfl) ?_
    refine sl_call ent24 rfl rfl (ind_c z w2) (by decide) ?_
    rintro _ w4 ⟨rfl, hw4⟩
    have xw_w4 : Ext w w4 := Ext.tr xw_w2 hw4
    refine Go.XK.s (v := .tuple #[.agg #[.string (B ((indR z).1.g)), .int .i64 ((indR z).1.v), .string (B ((indR z).1.d))], .int .i64 ((indR z).2)]) (e_move rfl) ?_
    refine Go.XK.s (v := .agg #[.string (B ((indR z).1.g)), .int .i64 ((indR z).1.v), .string (B ((indR z).1.d))]) (e_extract (vs := [.agg #[.string (B ((indR z).1.g)), .int .i64 ((indR z).1.v), .string (B ((indR z).1.d))], .int .i64 ((indR z).2)]) rfl rfl) ?_
    refine Go.XK.s (v := .int .i64 ((indR z).2)) (e_extract (vs := [.agg #[.string (B ((indR z).1.g)), .int .i64 ((indR z).1.v), .string (B ((indR z).1.d))], .int .i64 ((indR z).2)]) rfl rfl) ?_
    refine s_alloc (cs := [.string (B []), .int .i64 0, .string (B [])]) Try.zeroValue41 rfl ?_
    intro b13 w5 hb13 he13 hs13 hx13
    have ge_b13 : w.heap.size ≤ b13 := by have h_ := (Below.size xw_w4); omega
    have xw_w5 : Ext w w5 := Ext.tr xw_w4 hx13
    refine su_blkV [.string (B ((indR z).1.g)), .int .i64 ((indR z).1.v), .string (B ((indR z).1.d))] [.string (B ((indR z).1.g)), .int .i64 ((indR z).1.v), .string (B ((indR z).1.d))] rfl rfl hb13 rfl Try.sizeOf41 (Nat.le_of_ble_eq_true rfl) rfl rfl ?_
    intro w6 hn_ hm_w6 hs_w6
    have ho_ := hb13
    replace hb13 := hn_
    clear hn_
    have xw_w6 : Ext w w6 := below_mut xw_w5 (Below.size xw_w5) hm_w6 ge_b13
    refine Go.XK.s (v := .int .i64 ((indR z).2)) (e_assign rfl) ?_
    refine sl_nil (nrm_k ?_)
    refine sc_seq ?_
    refine sc_reg ?_
    refine Go.XK.s (v := .int .i64 z) (e_move rfl) ?_
    refine sl_call ent25 rfl rfl (rind_c z w6) (by decide) ?_
    rintro _ w7 ⟨rfl, hw7⟩
    have xw_w7 : Ext w w7 := Ext.tr xw_w6 hw7
    replace hb13 := hb13.ext hw7
    refine Go.XK.s (v := .tuple #[.agg #[.string (B ((indR z).1.g)), .int .i64 ((indR z).1.v), .string (B ((indR z).1.d))], .int .i64 ((indR z).2)]) (e_move rfl) ?_
    refine Go.XK.s (v := .agg #[.string (B ((indR z).1.g)), .int .i64 ((indR z).1.v), .string (B ((indR z).1.d))]) (e_extract (vs := [.agg #[.string (B ((indR z).1.g)), .int .i64 ((indR z).1.v), .string (B ((indR z).1.d))], .int .i64 ((indR z).2)]) rfl rfl) ?_
    refine Go.XK.s (v := .int .i64 ((indR z).2)) (e_extract (vs := [.agg #[.string (B ((indR z).1.g)), .int .i64 ((indR z).1.v), .string (B ((indR z).1.d))], .int .i64 ((indR z).2)]) rfl rfl) ?_
    refine s_alloc (cs := [.string (B []), .int .i64 0, .string (B [])]) Try.zeroValue41 rfl ?_
    intro b15 w8 hb15 he15 hs15 hx15
    have ne_b15_b13 : b15 ≠ b13 := by have h_ := hb13.lt; omega
    have ge_b15 : w.heap.size ≤ b15 := by have h_ := (Below.size xw_w7); omega
    have xw_w8 : Ext w w8 := Ext.tr xw_w7 hx15
    replace hb13 := hb13.ext hx15
    refine su_blkV [.string (B ((indR z).1.g)), .int .i64 ((indR z).1.v), .string (B ((indR z).1.d))] [.string (B ((indR z).1.g)), .int .i64 ((indR z).1.v), .string (B ((indR z).1.d))] rfl rfl hb15 rfl Try.sizeOf41 (Nat.le_of_ble_eq_true rfl) rfl rfl ?_
    intro w9 hn_ hm_w9 hs_w9
    have ho_ := hb15
    replace hb15 := hn_
    clear hn_
    replace hb13 := hb13.mut hm_w9 (Ne.symm ne_b15_b13)
    have xw_w9 : Ext w w9 := below_mut xw_w8 (Below.size xw_w8) hm_w9 ge_b15
    refine Go.XK.s (v := .int .i64 ((indR z).2)) (e_assign rfl) ?_
    refine sl_nil (nrm_k ?_)
    refine sc_seq ?_
    refine sc_reg ?_
    refine Go.XK.s (v := .string (B s)) (e_move rfl) ?_
    refine sl_call ent26 rfl rfl (inds_c s w9) (by decide) ?_
    rintro _ w10 ⟨rfl, hw10⟩
    have xw_w10 : Ext w w10 := Ext.tr xw_w9 hw10
    replace hb13 := hb13.ext hw10
    replace hb15 := hb15.ext hw10
    refine Go.XK.s (v := .tuple #[.int .i64 ((indS s).1), .bool ((indS s).2)]) (e_move rfl) ?_
    refine Go.XK.s (v := .int .i64 ((indS s).1)) (e_extract (vs := [.int .i64 ((indS s).1), .bool ((indS s).2)]) rfl rfl) ?_
    refine Go.XK.s (v := .bool ((indS s).2)) (e_extract (vs := [.int .i64 ((indS s).1), .bool ((indS s).2)]) rfl rfl) ?_
    refine Go.XK.s (v := .int .i64 ((indS s).1)) (e_assign rfl) ?_
    refine Go.XK.s (v := .bool ((indS s).2)) (e_assign rfl) ?_
    refine sl_nil (nrm_k ?_)
    refine sc_seq ?_
    refine sc_reg ?_
    refine Go.XK.s (v := .string (B s)) (e_move rfl) ?_
    refine sl_call ent27 rfl rfl (rinds_c s w10) (by decide) ?_
    rintro _ w11 ⟨rfl, hw11⟩
    have xw_w11 : Ext w w11 := Ext.tr xw_w10 hw11
    replace hb13 := hb13.ext hw11
    replace hb15 := hb15.ext hw11
    refine Go.XK.s (v := .tuple #[.int .i64 ((indS s).1), .bool ((indS s).2)]) (e_move rfl) ?_
    refine Go.XK.s (v := .int .i64 ((indS s).1)) (e_extract (vs := [.int .i64 ((indS s).1), .bool ((indS s).2)]) rfl rfl) ?_
    refine Go.XK.s (v := .bool ((indS s).2)) (e_extract (vs := [.int .i64 ((indS s).1), .bool ((indS s).2)]) rfl rfl) ?_
    refine Go.XK.s (v := .int .i64 ((indS s).1)) (e_assign rfl) ?_
    refine Go.XK.s (v := .bool ((indS s).2)) (e_assign rfl) ?_
    refine sl_nil (nrm_k ?_)
    refine sc_seq ?_
    refine sc_reg ?_
    refine Go.XK.s (v := .string (B a)) (e_move rfl) ?_
    refine Go.XK.s (v := .string (B b)) (e_move rfl) ?_
    refine Go.XK.s (v := .string (B c)) (e_move rfl) ?_
    refine Go.XK.s (v := .int .i64 z) (e_move rfl) ?_
    refine sl_call ent28 rfl rfl (refr_c a b c z w11 (by omega) (by omega) (by omega)) (by decide) ?_
    rintro _ w12 ⟨rfl, hw12⟩
    have xw_w12 : Ext w w12 := Ext.tr xw_w11 hw12
    replace hb13 := hb13.ext hw12
    replace hb15 := hb15.ext hw12
    refine Go.XK.s (v := .tuple #[.agg #[.string (B ((refR a b c z).1.g)), .int .i64 ((refR a b c z).1.v), .string (B ((refR a b c z).1.d))], .int .i64 ((refR a b c z).2)]) (e_move rfl) ?_
    refine Go.XK.s (v := .agg #[.string (B ((refR a b c z).1.g)), .int .i64 ((refR a b c z).1.v), .string (B ((refR a b c z).1.d))]) (e_extract (vs := [.agg #[.string (B ((refR a b c z).1.g)), .int .i64 ((refR a b c z).1.v), .string (B ((refR a b c z).1.d))], .int .i64 ((refR a b c z).2)]) rfl rfl) ?_
    refine Go.XK.s (v := .int .i64 ((refR a b c z).2)) (e_extract (vs := [.agg #[.string (B ((refR a b c z).1.g)), .int .i64 ((refR a b c z).1.v), .string (B ((refR a b c z).1.d))], .int .i64 ((refR a b c z).2)]) rfl rfl) ?_
    refine s_alloc (cs := [.string (B []), .int .i64 0, .string (B [])]) Try.zeroValue41 rfl ?_
    intro b21 w13 hb21 he21 hs21 hx21
    have ne_b21_b13 : b21 ≠ b13 := by have h_ := hb13.lt; omega
    have ne_b21_b15 : b21 ≠ b15 := by have h_ := hb15.lt; omega
    have ge_b21 : w.heap.size ≤ b21 := by have h_ := (Below.size xw_w12); omega
    have xw_w13 : Ext w w13 := Ext.tr xw_w12 hx21
    replace hb13 := hb13.ext hx21
    replace hb15 := hb15.ext hx21
    refine su_blkV [.string (B ((refR a b c z).1.g)), .int .i64 ((refR a b c z).1.v), .string (B ((refR a b c z).1.d))] [.string (B ((refR a b c z).1.g)), .int .i64 ((refR a b c z).1.v), .string (B ((refR a b c z).1.d))] rfl rfl hb21 rfl Try.sizeOf41 (Nat.le_of_ble_eq_true rfl) rfl rfl ?_
    intro w14 hn_ hm_w14 hs_w14
    have ho_ := hb21
    replace hb21 := hn_
    clear hn_
    replace hb13 := hb13.mut hm_w14 (Ne.symm ne_b21_b13)
    replace hb15 := hb15.mut hm_w14 (Ne.symm ne_b21_b15)
    have xw_w14 : Ext w w14 := below_mut xw_w13 (Below.size xw_w13) hm_w14 ge_b21
    refine Go.XK.s (v := .int .i64 ((refR a b c z).2)) (e_assign rfl) ?_
    refine sl_nil (nrm_k ?_)
    refine sc_seq ?_
    refine sc_reg ?_
    refine Go.XK.s (v := .string (B a)) (e_move rfl) ?_
    refine Go.XK.s (v := .string (B b)) (e_move rfl) ?_
    refine Go.XK.s (v := .string (B c)) (e_move rfl) ?_
    refine Go.XK.s (v := .int .i64 z) (e_move rfl) ?_
    refine sl_call ent29 rfl rfl (rrefr_c a b c z w14 (by omega) (by omega) (by omega)) (by decide) ?_
    rintro _ w15 ⟨rfl, hw15⟩
    have xw_w15 : Ext w w15 := Ext.tr xw_w14 hw15
    replace hb13 := hb13.ext hw15
    replace hb15 := hb15.ext hw15
    replace hb21 := hb21.ext hw15
    refine Go.XK.s (v := .tuple #[.agg #[.string (B ((refR a b c z).1.g)), .int .i64 ((refR a b c z).1.v), .string (B ((refR a b c z).1.d))], .int .i64 ((refR a b c z).2)]) (e_move rfl) ?_
    refine Go.XK.s (v := .agg #[.string (B ((refR a b c z).1.g)), .int .i64 ((refR a b c z).1.v), .string (B ((refR a b c z).1.d))]) (e_extract (vs := [.agg #[.string (B ((refR a b c z).1.g)), .int .i64 ((refR a b c z).1.v), .string (B ((refR a b c z).1.d))], .int .i64 ((refR a b c z).2)]) rfl rfl) ?_
    refine Go.XK.s (v := .int .i64 ((refR a b c z).2)) (e_extract (vs := [.agg #[.string (B ((refR a b c z).1.g)), .int .i64 ((refR a b c z).1.v), .string (B ((refR a b c z).1.d))], .int .i64 ((refR a b c z).2)]) rfl rfl) ?_
    refine s_alloc (cs := [.string (B []), .int .i64 0, .string (B [])]) Try.zeroValue41 rfl ?_
    intro b23 w16 hb23 he23 hs23 hx23
    have ne_b23_b13 : b23 ≠ b13 := by have h_ := hb13.lt; omega
    have ne_b23_b15 : b23 ≠ b15 := by have h_ := hb15.lt; omega
    have ne_b23_b21 : b23 ≠ b21 := by have h_ := hb21.lt; omega
    have ge_b23 : w.heap.size ≤ b23 := by have h_ := (Below.size xw_w15); omega
    have xw_w16 : Ext w w16 := Ext.tr xw_w15 hx23
    replace hb13 := hb13.ext hx23
    replace hb15 := hb15.ext hx23
    replace hb21 := hb21.ext hx23
    refine su_blkV [.string (B ((refR a b c z).1.g)), .int .i64 ((refR a b c z).1.v), .string (B ((refR a b c z).1.d))] [.string (B ((refR a b c z).1.g)), .int .i64 ((refR a b c z).1.v), .string (B ((refR a b c z).1.d))] rfl rfl hb23 rfl Try.sizeOf41 (Nat.le_of_ble_eq_true rfl) rfl rfl ?_
    intro w17 hn_ hm_w17 hs_w17
    have ho_ := hb23
    replace hb23 := hn_
    clear hn_
    replace hb13 := hb13.mut hm_w17 (Ne.symm ne_b23_b13)
    replace hb15 := hb15.mut hm_w17 (Ne.symm ne_b23_b15)
    replace hb21 := hb21.mut hm_w17 (Ne.symm ne_b23_b21)
    have xw_w17 : Ext w w17 := below_mut xw_w16 (Below.size xw_w16) hm_w17 ge_b23
    refine Go.XK.s (v := .int .i64 ((refR a b c z).2)) (e_assign rfl) ?_
    refine sl_nil (nrm_k ?_)
    refine sc_seq ?_
    refine sc_reg ?_
    refine Go.XK.s (v := .agg #[.string (B ((indR z).1.g)), .int .i64 ((indR z).1.v), .string (B ((indR z).1.d))]) (e_load rfl (hb13.loadA Try.isAgg41 Try.sizeOf41 rfl)) ?_
    refine Go.XK.s (v := .agg #[.string (B ((indR z).1.g)), .int .i64 ((indR z).1.v), .string (B ((indR z).1.d))]) (e_load rfl (hb15.loadA Try.isAgg41 Try.sizeOf41 rfl)) ?_
    refine Go.XK.s (v := .bool (decide ((indR z).1 = (indR z).1))) (e_bin rfl rfl (run_eql_en _ _ (indR z).1 (indR z).1 _)) ?_
    refine Go.XK.s (v := .bool (decide ((indR z).1 = (indR z).1))) (e_move rfl) ?_
    refine sl_merge 4 87 (.bool ((decide ((indR z).1 = (indR z).1)) && (decide ((indR z).2 = (indR z).2)))) ?_ ?_
    · refine sl_case (t := 83) rfl (fun g11_3 => ?_) (fun g11_3 => ?_)
      ·
        refine sl_gev (v := .int .i64 ((indR z).2)) rfl rfl g11_3 (e_move rfl) rfl (by decide) ?_
        refine sl_gev (v := .int .i64 ((indR z).2)) rfl rfl g11_3 (e_move rfl) rfl (by decide) ?_
        refine sl_gev (v := .bool (decide ((indR z).2 = (indR z).2))) rfl rfl g11_3 (e_eq rfl rfl) rfl (by decide) ?_
        refine Go.XK.s (v := .bool (decide ((indR z).2 = (indR z).2))) (e_pickT rfl g11_3 rfl) ?_
        exact sl_nil (fun a ha => ⟨rfl, ha.sub (.cons (by rw [g11_3]; rfl) (sub_self_cons (sub_self_cons (sub_self_cons (sub_self_cons (Sub.refl _) rfl) rfl) rfl) rfl))⟩)
      ·
        refine sl_gskip rfl rfl g11_3 (by decide) ?_
        refine sl_gskip rfl rfl g11_3 (by decide) ?_
        refine sl_gskip rfl rfl g11_3 (by decide) ?_
        refine Go.XK.s (v := .bool false) (e_pickF rfl g11_3 rfl) ?_
        exact sl_nil (fun a ha => ⟨rfl, ha.sub (.cons (by rw [g11_3]; rfl) (sub_self_cons (sub_self_cons (sub_self_cons (sub_self_cons (Sub.refl _) rfl) rfl) rfl) rfl))⟩)
    refine Go.XK.s (v := .bool ((decide ((indR z).1 = (indR z).1)) && (decide ((indR z).2 = (indR z).2)))) (e_move rfl) ?_
    refine sl_merge 4 92 (.bool (((decide ((indR z).1 = (indR z).1)) && (decide ((indR z).2 = (indR z).2))) && (decide ((indS s).1 = (indS s).1)))) ?_ ?_
    · refine sl_case (t := 88) rfl (fun g11_8 => ?_) (fun g11_8 => ?_)
      ·
        refine sl_gev (v := .int .i64 ((indS s).1)) rfl rfl g11_8 (e_move rfl) rfl (by decide) ?_
        refine sl_gev (v := .int .i64 ((indS s).1)) rfl rfl g11_8 (e_move rfl) rfl (by decide) ?_
        refine sl_gev (v := .bool (decide ((indS s).1 = (indS s).1))) rfl rfl g11_8 (e_eq rfl rfl) rfl (by decide) ?_
        refine Go.XK.s (v := .bool (decide ((indS s).1 = (indS s).1))) (e_pickT rfl g11_8 rfl) ?_
        exact sl_nil (fun a ha => ⟨rfl, ha.sub (.cons (by rw [g11_8]; rfl) (sub_self_cons (sub_self_cons (sub_self_cons (sub_self_cons (Sub.refl _) rfl) rfl) rfl) rfl))⟩)
      ·
        refine sl_gskip rfl rfl g11_8 (by decide) ?_
        refine sl_gskip rfl rfl g11_8 (by decide) ?_
        refine sl_gskip rfl rfl g11_8 (by decide) ?_
        refine Go.XK.s (v := .bool false) (e_pickF rfl g11_8 rfl) ?_
        exact sl_nil (fun a ha => ⟨rfl, ha.sub (.cons (by rw [g11_8]; rfl) (sub_self_cons (sub_self_cons (sub_self_cons (sub_self_cons (Sub.refl _) rfl) rfl) rfl) rfl))⟩)
    refine Go.XK.s (v := .bool (((decide ((indR z).1 = (indR z).1)) && (decide ((indR z).2 = (indR z).2))) && (decide ((indS s).1 = (indS s).1)))) (e_move rfl) ?_
    refine sl_merge 4 97 (.bool ((((decide ((indR z).1 = (indR z).1)) && (decide ((indR z).2 = (indR z).2))) && (decide ((indS s).1 = (indS s).1))) && (((indS s).2) == ((indS s).2)))) ?_ ?_
    · refine sl_case (t := 93) rfl (fun g11_13 => ?_) (fun g11_13 => ?_)
      ·
        refine sl_gev (v := .bool ((indS s).2)) rfl rfl g11_13 (e_move rfl) rfl (by decide) ?_
        refine sl_gev (v := .bool ((indS s).2)) rfl rfl g11_13 (e_move rfl) rfl (by decide) ?_
        refine sl_gev (v := .bool (((indS s).2) == ((indS s).2))) rfl rfl g11_13 (e_booleq Try.underlying4 rfl rfl) rfl (by decide) ?_
        refine Go.XK.s (v := .bool (((indS s).2) == ((indS s).2))) (e_pickT rfl g11_13 rfl) ?_
        exact sl_nil (fun a ha => ⟨rfl, ha.sub (.cons (by rw [g11_13]; rfl) (sub_self_cons (sub_self_cons (sub_self_cons (sub_self_cons (Sub.refl _) rfl) rfl) rfl) rfl))⟩)
      ·
        refine sl_gskip rfl rfl g11_13 (by decide) ?_
        refine sl_gskip rfl rfl g11_13 (by decide) ?_
        refine sl_gskip rfl rfl g11_13 (by decide) ?_
        refine Go.XK.s (v := .bool false) (e_pickF rfl g11_13 rfl) ?_
        exact sl_nil (fun a ha => ⟨rfl, ha.sub (.cons (by rw [g11_13]; rfl) (sub_self_cons (sub_self_cons (sub_self_cons (sub_self_cons (Sub.refl _) rfl) rfl) rfl) rfl))⟩)
    refine Go.XK.s (v := .bool ((((decide ((indR z).1 = (indR z).1)) && (decide ((indR z).2 = (indR z).2))) && (decide ((indS s).1 = (indS s).1))) && (((indS s).2) == ((indS s).2)))) (e_move rfl) ?_
    refine sl_merge 4 102 (.bool (((((decide ((indR z).1 = (indR z).1)) && (decide ((indR z).2 = (indR z).2))) && (decide ((indS s).1 = (indS s).1))) && (((indS s).2) == ((indS s).2))) && (decide ((refR a b c z).1 = (refR a b c z).1)))) ?_ ?_
    · refine sl_case (t := 98) rfl (fun g11_18 => ?_) (fun g11_18 => ?_)
      ·
        refine sl_gev (v := .agg #[.string (B ((refR a b c z).1.g)), .int .i64 ((refR a b c z).1.v), .string (B ((refR a b c z).1.d))]) rfl rfl g11_18 (e_load rfl (hb21.loadA Try.isAgg41 Try.sizeOf41 rfl)) rfl (by decide) ?_
        refine sl_gev (v := .agg #[.string (B ((refR a b c z).1.g)), .int .i64 ((refR a b c z).1.v), .string (B ((refR a b c z).1.d))]) rfl rfl g11_18 (e_load rfl (hb23.loadA Try.isAgg41 Try.sizeOf41 rfl)) rfl (by decide) ?_
        refine sl_gev (v := .bool (decide ((refR a b c z).1 = (refR a b c z).1))) rfl rfl g11_18 (e_bin rfl rfl (run_eql_en _ _ (refR a b c z).1 (refR a b c z).1 _)) rfl (by decide) ?_
        refine Go.XK.s (v := .bool (decide ((refR a b c z).1 = (refR a b c z).1))) (e_pickT rfl g11_18 rfl) ?_
        exact sl_nil (fun a ha => ⟨rfl, ha.sub (.cons (by rw [g11_18]; rfl) (sub_self_cons (sub_self_cons (sub_self_cons (sub_self_cons (Sub.refl _) rfl) rfl) rfl) rfl))⟩)
      ·
        refine sl_gskip rfl rfl g11_18 (by decide) ?_
        refine sl_gskip rfl rfl g11_18 (by decide) ?_
        refine sl_gskip rfl rfl g11_18 (by decide) ?_
        refine Go.XK.s (v := .bool false) (e_pickF rfl g11_18 rfl) ?_
        exact sl_nil (fun a ha => ⟨rfl, ha.sub (.cons (by rw [g11_18]; rfl) (sub_self_cons (sub_self_cons (sub_self_cons (sub_self_cons (Sub.refl _) rfl) rfl) rfl) rfl))⟩)
    refine Go.XK.s (v := .bool (((((decide ((indR z).1 = (indR z).1)) && (decide ((indR z).2 = (indR z).2))) && (decide ((indS s).1 = (indS s).1))) && (((indS s).2) == ((indS s).2))) && (decide ((refR a b c z).1 = (refR a b c z).1)))) (e_move rfl) ?_
    refine sl_merge 4 107 (.bool ((((((decide ((indR z).1 = (indR z).1)) && (decide ((indR z).2 = (indR z).2))) && (decide ((indS s).1 = (indS s).1))) && (((indS s).2) == ((indS s).2))) && (decide ((refR a b c z).1 = (refR a b c z).1))) && (decide ((refR a b c z).2 = (refR a b c z).2)))) ?_ ?_
    · refine sl_case (t := 103) rfl (fun g11_23 => ?_) (fun g11_23 => ?_)
      ·
        refine sl_gev (v := .int .i64 ((refR a b c z).2)) rfl rfl g11_23 (e_move rfl) rfl (by decide) ?_
        refine sl_gev (v := .int .i64 ((refR a b c z).2)) rfl rfl g11_23 (e_move rfl) rfl (by decide) ?_
        refine sl_gev (v := .bool (decide ((refR a b c z).2 = (refR a b c z).2))) rfl rfl g11_23 (e_eq rfl rfl) rfl (by decide) ?_
        refine Go.XK.s (v := .bool (decide ((refR a b c z).2 = (refR a b c z).2))) (e_pickT rfl g11_23 rfl) ?_
        exact sl_nil (fun a ha => ⟨rfl, ha.sub (.cons (by rw [g11_23]; rfl) (sub_self_cons (sub_self_cons (sub_self_cons (sub_self_cons (Sub.refl _) rfl) rfl) rfl) rfl))⟩)
      ·
        refine sl_gskip rfl rfl g11_23 (by decide) ?_
        refine sl_gskip rfl rfl g11_23 (by decide) ?_
        refine sl_gskip rfl rfl g11_23 (by decide) ?_
        refine Go.XK.s (v := .bool false) (e_pickF rfl g11_23 rfl) ?_
        exact sl_nil (fun a ha => ⟨rfl, ha.sub (.cons (by rw [g11_23]; rfl) (sub_self_cons (sub_self_cons (sub_self_cons (sub_self_cons (Sub.refl _) rfl) rfl) rfl) rfl))⟩)
    refine Go.XK.s (v := .bool ((((((decide ((indR z).1 = (indR z).1)) && (decide ((indR z).2 = (indR z).2))) && (decide ((indS s).1 = (indS s).1))) && (((indS s).2) == ((indS s).2))) && (decide ((refR a b c z).1 = (refR a b c z).1))) && (decide ((refR a b c z).2 = (refR a b c z).2)))) (e_move rfl) ?_
    refine sl_mergeW 6 114 (.bool (((((((decide ((indR z).1 = (indR z).1)) && (decide ((indR z).2 = (indR z).2))) && (decide ((indS s).1 = (indS s).1))) && (((indS s).2) == ((indS s).2))) && (decide ((refR a b c z).1 = (refR a b c z).1))) && (decide ((refR a b c z).2 = (refR a b c z).2))) && (decide (refL l = refL l)))) (fun w_ => Ext w17 w_) ?_ (fun w18 hw18 => ?_)
    · refine sl_case (t := 108) rfl (fun g11_28 => ?_) (fun g11_28 => ?_)
      ·
        refine sl_gev (v := .slice A l.length cl) rfl rfl g11_28 (e_move rfl) rfl (by decide) ?_
        refine sl_gcall rfl rfl g11_28 ent31 rfl rfl (refs_c _ _ _ w17 (hl.ext xw_w17) hdl (by omega)) (by decide) ?_
        rintro vD22 w19 ⟨hoD22, hw19⟩
        replace hoD22 := Own.low hoD22 (Below.size xw_w17)
        have xw_w19 : Ext w w19 := Ext.tr xw_w17 hw19
        have xw17_w19 : Ext w17 w19 := Ext.tr (Ext.rfl' w17) hw19
        replace hb13 := hb13.ext hw19
        replace hb15 := hb15.ext hw19
        replace hb21 := hb21.ext hw19
        replace hb23 := hb23.ext hw19
        obtain ⟨AD22, cD22, eD22_, hlcD22, hcmD22, _⟩ := Go.XK.Own.shape hoD22 (fun _ => rfl)
        subst eD22_
        refine sl_gev (v := .slice A l.length cl) rfl rfl g11_28 (e_move rfl) rfl (by decide) ?_
        refine sl_gcall rfl rfl g11_28 ent32 rfl rfl (rrefs_c _ _ _ w19 (hl.ext xw_w19) hdl (by omega)) (by decide) ?_
        rintro vD23 w20 ⟨hoD23, hw20⟩
        replace hoD23 := Own.low hoD23 (Below.size xw_w19)
        have xw_w20 : Ext w w20 := Ext.tr xw_w19 hw20
        have xw17_w20 : Ext w17 w20 := Ext.tr xw17_w19 hw20
        replace hb13 := hb13.ext hw20
        replace hb15 := hb15.ext hw20
        replace hb21 := hb21.ext hw20
        replace hb23 := hb23.ext hw20
        replace hoD22 := hoD22.ext hw20
        obtain ⟨AD23, cD23, eD23_, hlcD23, hcmD23, _⟩ := Go.XK.Own.shape hoD23 (fun _ => rfl)
        subst eD23_
        refine sl_gcall rfl rfl g11_28 ent30 rfl rfl (equalS_c _ _ _ _ _ _ w20 (Go.XK.Own.slr hoD22 (fun _ => rfl)) (Go.XK.Own.slr hoD23 (fun _ => rfl))) (by decide) ?_
        rintro _ w21 ⟨rfl, hw21⟩
        have xw_w21 : Ext w w21 := Ext.tr xw_w20 hw21
        have xw17_w21 : Ext w17 w21 := Ext.tr xw17_w20 hw21
        replace hb13 := hb13.ext hw21
        replace hb15 := hb15.ext hw21
        replace hb21 := hb21.ext hw21
        replace hb23 := hb23.ext hw21
        replace hoD22 := hoD22.ext hw21
        replace hoD23 := hoD23.ext hw21
        refine Go.XK.s (v := .bool (decide (refL l = refL l))) (e_pickT rfl g11_28 rfl) ?_
        exact sl_nil (fun a ha => ⟨xw17_w21, ha.sub (.cons (by rw [g11_28]; rfl) (sub_self_cons (sub_self_cons (sub_self_cons (sub_self_cons (sub_self_cons (sub_self_cons (Sub.refl _) rfl) rfl) rfl) rfl) rfl) rfl))⟩)
      ·
        refine sl_gskip rfl rfl g11_28 (by decide) ?_
        refine sl_gskip rfl rfl g11_28 (by decide) ?_
        refine sl_gskip rfl rfl g11_28 (by decide) ?_
        refine sl_gskip rfl rfl g11_28 (by decide) ?_
        refine sl_gskip rfl rfl g11_28 (by decide) ?_
        refine Go.XK.s (v := .bool false) (e_pickF rfl g11_28 rfl) ?_
        exact sl_nil (fun a ha => ⟨(Ext.rfl' w17), ha.sub (.cons (by rw [g11_28]; rfl) (sub_self_cons (sub_self_cons (sub_self_cons (sub_self_cons (sub_self_cons (sub_self_cons (Sub.refl _) rfl) rfl) rfl) rfl) rfl) rfl))⟩)
    have xw_w18 : Ext w w18 := Ext.tr xw_w17 hw18
    replace hb13 := hb13.ext hw18
    replace hb15 := hb15.ext hw18
    replace hb21 := hb21.ext hw18
    replace hb23 := hb23.ext hw18
    refine Go.XK.s (v := .bool (((((((decide ((indR z).1 = (indR z).1)) && (decide ((indR z).2 = (indR z).2))) && (decide ((indS s).1 = (indS s).1))) && (((indS s).2) == ((indS s).2))) && (decide ((refR a b c z).1 = (refR a b c z).1))) && (decide ((refR a b c z).2 = (refR a b c z).2))) && (decide (refL l = refL l)))) (e_assign rfl) ?_
    refine sl_nil (nrm_k ?_)
    refine sc_retf rfl (ret1 Try.results5 (rvt rfl) ?_)
    exact ⟨congrArg Value.bool (by simp), xw_w18⟩

/-- masterdisc/masterdisclaw24.SuspReturns$1 (function 42) -/
theorem isst_c (x : En) (w : World) : CallR Try.prog 42 [.agg #[.string (B x.g), .int .i64 x.v, .string (B x.d)]] w (fun v w' => v = .bool (decide (x.g = [83, 84])) ∧ Ext w w') := by
  refine callR_of (n := 6) [(0, .agg #[.string (B x.g), .int .i64 x.v, .string (B x.d)])] Try.func42 rfl rfl (Nat.le_of_ble_eq_true rfl) rfl ?_
  refine sc_seq ?_
  refine sc_reg ?_
  refine s_box (cs := [.string (B x.g), .int .i64 x.v, .string (B x.d)]) rfl rfl ?_
  intro b1 w1 hb1 he1 hs1 hx1
  have ge_b1 : w.heap.size ≤ b1 := by have h_ := (Below.size (Ext.rfl' w)); omega
  have xw_w1 : Ext w w1 := Ext.tr (Ext.rfl' w) hx1
  refine Go.XK.s (v := .bool false) (e_assign rfl) ?_
  refine sl_nil (nrm_k ?_)
  refine sc_seq ?_
  refine sc_reg ?_
  refine Go.XK.s (v := .pointer (some ⟨b1, 0, none⟩)) (e_fieldB (sz := 1) Try.underlying41 rfl Try.sizeOf9 (by decide) rfl rfl) ?_
  refine Go.XK.s (v := .string (B x.g)) (e_load rfl (load1 Try.isAgg9 (hb1.cell (j := 0) rfl))) ?_
  refine Go.XK.s (v := .bool (decide (x.g = [83, 84]))) (e_seq rfl rfl) ?_
  refine Go.XK.s (v := .bool (decide (x.g = [83, 84]))) (e_assign rfl) ?_
  refine sl_nil (nrm_k ?_)
  refine sc_retf rfl (ret1 Try.results42 (rvt rfl) ?_)
  exact ⟨rfl, xw_w1⟩

/-- slices.IndexFunc[[]masterdisc/api.SuspEntry,masterdisc/api.SuspEntry] (function 61) -/
theorem idxst_c (l : List En) (A : Option Addr) (c : Nat) (w : World) (hl : SlR w A c 3 encE l) : CallR Try.prog 61 [.slice A l.length c, .func (.func 42) #[] #[]] w (fun v w' => ∃ r : Int, v = .int .i64 r ∧ decide (0 ≤ r) = l.any (fun x_ : En => decide (x_.g = [83, 84])) ∧ Ext w w') := by
  have hmx0 := hl.lenle
  simp only [maxLen] at hmx0
  refine callR_of (n := 19) [(0, .slice A l.length c), (1, .func (.func 42) #[] #[])] Try.func61 rfl rfl (Nat.le_of_ble_eq_true rfl) rfl ?_
  refine sc_seq ?_
  refine sc_reg ?_
  refine Go.XK.s (v := .int .i64 0) (e_assign rfl) ?_
  refine sl_nil (nrm_k ?_)
  refine sc_seq ?_
  refine sc_seq ?_
  refine sc_reg ?_
  refine Go.XK.s (v := .slice A l.length c) (e_move rfl) ?_
  refine Go.XK.s (v := .int .i64 (l.length : Int)) (e_len Try.underlying22 rfl) ?_
  refine Go.XK.s (v := .int .i64 0) (e_move rfl) ?_
  refine sl_nil (nrm_k ?_)
  refine sc_block ?_
  refine sc_loop (fun m_ l_ w_ => ∃ (i : Nat), m_ = l.length - i ∧ l_ = [(8, .int .i64 (i : Int)), (0, .slice A l.length c), (1, .func (.func 42) #[] #[]), (6, .slice A l.length c), (7, .int .i64 (l.length : Int))] ∧ Ext w w_ ∧ i ≤ l.length ∧ (l.take i).any (fun x_ : En => decide (x_.g = [83, 84])) = false) _ [(8, .int .i64 (0 : Int)), (0, .slice A l.length c), (1, .func (.func 42) #[] #[]), (6, .slice A l.length c), (7, .int .i64 (l.length : Int))] ⟨0, rfl, rfl, (Ext.rfl' w), ⟨by omega, rfl⟩⟩ (.cons rfl (.cons rfl (.cons rfl (.cons rfl (.cons rfl (.nil)))))) ?_
  rintro j2 _ w1 ⟨i, rfl, rfl, xw_w1, ⟨hi, hn⟩⟩
  refine sc_seq ?_
  refine sc_reg ?_
  refine Go.XK.s (v := .bool (decide ((i : Int) < (l.length : Int)))) (e_lt rfl rfl) ?_
  refine sl_nil (nrm_k ?_)
  refine sc_seq ?_
  refine sc_ifd rfl (fun c9 => ?_) (fun c9 => ?_)
  ·
    obtain ⟨x, hx⟩ : ∃ x, l[i]? = some x := ⟨_, List.getElem?_eq_getElem (by omega)⟩
    refine sc_skip (nrm_k ?_)
    refine sc_seq ?_
    refine sc_block ?_
    refine sc_seq ?_
    refine sc_reg ?_
    refine Go.XK.s (v := .int .i64 (i : Int)) (e_move rfl) ?_
    refine Go.XK.s (v := .int .i64 (i : Int)) (e_assign rfl) ?_
    refine sl_nil (nrm_k ?_)
    refine sc_seq ?_
    refine sc_reg ?_
    refine Go.XK.s (v := .func (.func 42) #[] #[]) (e_move rfl) ?_
    refine Go.XK.s (v := .slice A l.length c) (e_move rfl) ?_
    refine Go.XK.s (v := .int .i64 (i : Int)) (e_move rfl) ?_
    refine Go.XK.s (v := .pointer (some (el A 3 (i : Int) 0))) (e_idxEl (e := x) Try.underlying22 Try.sizeOf41 rfl rfl (hl.1.ext xw_w1) hx (by omega) rfl) ?_
    refine Go.XK.s (v := .agg #[.string (B x.g), .int .i64 x.v, .string (B x.d)]) (e_ldElA (xs := l) (enc := encE) (e := x) rfl (hl.1.ext xw_w1) hx Try.isAgg41 Try.sizeOf41 rfl) ?_
    refine sl_call ent42 rfl rfl (isst_c x w1) (by decide) ?_
    rintro _ w3 ⟨rfl, hw3⟩
    have xw_w3 : Ext w w3 := Ext.tr xw_w1 hw3
    refine sl_nil (nrm_k ?_)
    refine sc_ifd rfl (fun c16 => ?_) (fun c16 => ?_)
    ·
      refine sc_seq ?_
      refine sc_reg ?_
      refine Go.XK.s (v := .int .i64 (i : Int)) (e_move rfl) ?_
      refine Go.XK.s (v := .int .i64 (i : Int)) (e_assign rfl) ?_
      refine sl_nil (nrm_k ?_)
      refine sc_retf rfl (ret1 Try.results61 (rvt rfl) ?_)
      exact ⟨_, rfl, by rw [any_yes hx (decide_eq_true c16)]; exact decide_eq_true (by omega), xw_w3⟩
    ·
      refine sc_skip (nrm_k ?_)
      refine sc_reg ?_
      refine Go.XK.s (v := .int .i64 ((i : Int) + 1)) (e_add rfl rfl (by omega)) ?_
      refine Go.XK.s (v := .int .i64 ((i : Int) + 1)) (e_move rfl) ?_
      refine sl_nil ?_
      exact nrm_loopq rfl _ _ (by omega) ⟨i + 1, rfl, rfl, xw_w3, ⟨by omega, any_no hx hn (decide_eq_false c16)⟩⟩ (.cons rfl (.cons rfl (.cons rfl (.cons rfl (.cons rfl (.nil))))))
  ·
    refine sc_exit rfl (nrm_k ?_)
    refine sc_seq ?_
    refine sc_reg ?_
    refine Go.XK.s (v := .int .i64 (-1)) (e_assign rfl) ?_
    refine sl_nil (nrm_k ?_)
    refine sc_retf rfl (ret1 Try.results61 (rvt rfl) ?_)
    exact ⟨_, rfl, by rw [any_end hn (by omega)]; rfl, xw_w1⟩

/-- slices.ContainsFunc[[]masterdisc/api.SuspEntry,masterdisc/api.SuspEntry] (function 41) -/
theorem hasst_c (l : List En) (A : Option Addr) (c : Nat) (w : World) (hl : SlR w A c 3 encE l) : CallR Try.prog 41 [.slice A l.length c, .func (.func 42) #[] #[]] w (fun v w' => v = .bool (l.any (fun x_ : En => decide (x_.g = [83, 84]))) ∧ Ext w w') := by
  refine callR_of (n := 9) [(0, .slice A l.length c), (1, .func (.func 42) #[] #[])] Try.func41 rfl rfl (Nat.le_of_ble_eq_true rfl) rfl ?_
  refine sc_seq ?_
  refine sc_reg ?_
  refine Go.XK.s (v := .bool false) (e_assign rfl) ?_
  refine sl_nil (nrm_k ?_)
  refine sc_seq ?_
  refine sc_reg ?_
  refine Go.XK.s (v := .slice A l.length c) (e_move rfl) ?_
  refine Go.XK.s (v := .func (.func 42) #[] #[]) (e_move rfl) ?_
  refine sl_call ent61 rfl rfl (idxst_c _ _ _ w (hl.ext (Ext.rfl' w))) (by decide) ?_
  rintro _ w1 ⟨r61, rfl, hr61, hw1⟩
  have xw_w1 : Ext w w1 := Ext.tr (Ext.rfl' w) hw1
  refine Go.XK.s (v := .bool (decide ((0 : Int) ≤ r61))) (e_ge rfl rfl) ?_
  refine Go.XK.s (v := .bool (decide ((0 : Int) ≤ r61))) (e_assign rfl) ?_
  refine sl_nil (nrm_k ?_)
  refine sc_retf rfl (ret1 Try.results41 (rvt rfl) ?_)
  exact ⟨congrArg Value.bool hr61, xw_w1⟩

/-- masterdisc/masterdisclaw24.SuspReturns (function 8) -/
theorem returns_c (l : List En) (A : Option Addr) (c : Nat) (s : List UInt8) (w : World) (hl : SlR w A c 3 encE l) (hsl : ∀ x ∈ l, x.g.length ≤ 9223372036854775807) (hs1 : s.length ≤ 140737488351232) : CallR Try.prog 8 [.slice A l.length c, .string (B s)] w (fun v w' => v = .bool true ∧ Ext w w') := by
  have hmx0 := hl.lenle
  simp only [maxLen] at hmx0
  refine callR_of (n := 70) [(0, .slice A l.length c), (1, .string (B s))] Try.func8 rfl rfl (Nat.le_of_ble_eq_true rfl) rfl ?_
  refine sc_seq ?_
  refine sc_reg ?_
  refine Go.XK.s (v := .bool false) (e_assign rfl) ?_
  refine sl_nil (nrm_k ?_)
  refine sc_seq ?_
  refine sc_seq ?_
  refine sc_reg ?_
  refine sl_call ent9 rfl rfl (awake_c w) (by decide) ?_
  rintro _ w1 ⟨rfl, hw1⟩
  have xw_w1 : Ext w w1 := Ext.tr (Ext.rfl' w) hw1
  refine Go.XK.s (v := .bool false) (e_not (b := true) rfl) ?_
  refine sl_nil (nrm_k ?_)
  refine sc_no rfl rfl ?_
  refine sc_skip (nrm_k ?_)
  refine sc_seq ?_
  refine sc_seq ?_
  refine sc_reg ?_
  refine Go.XK.s (v := .slice A l.length c) (e_move rfl) ?_
  refine sl_call ent10 rfl rfl (small_c _ _ _ 40 w1 (hl.ext xw_w1)) (by decide) ?_
  rintro _ w2 ⟨rfl, hw2⟩
  have xw_w2 : Ext w w2 := Ext.tr xw_w1 hw2
  refine Go.XK.s (v := .bool (!(small l 40))) (e_not rfl) ?_
  refine Go.XK.s (v := .bool (!(small l 40))) (e_move rfl) ?_
  refine sl_merge 4 20 (.bool ((!(small l 40)) || (decide ((300 : Int) < (s.length : Int))))) ?_ ?_
  · refine sl_case (t := 16) rfl (fun g3_3 => ?_) (fun g3_3 => ?_)
    ·
      refine sl_gskip rfl rfl g3_3 (by decide) ?_
      refine sl_gskip rfl rfl g3_3 (by decide) ?_
      refine sl_gskip rfl rfl g3_3 (by decide) ?_
      refine Go.XK.s (v := .bool true) (e_pickT rfl g3_3 rfl) ?_
      exact sl_nil (fun a ha => ⟨rfl, ha.sub (.cons (by rw [g3_3]; rfl) (sub_self_cons (sub_self_cons (sub_self_cons (sub_self_cons (Sub.refl _) rfl) rfl) rfl) rfl))⟩)
    ·
      refine sl_gev (v := .string (B s)) rfl rfl g3_3 (e_move rfl) rfl (by decide) ?_
      refine sl_gev (v := .int .i64 (s.length : Int)) rfl rfl g3_3 (e_slen Try.underlying9 rfl) rfl (by decide) ?_
      refine sl_gev (v := .bool (decide ((300 : Int) < (s.length : Int)))) rfl rfl g3_3 (e_gt rfl rfl) rfl (by decide) ?_
      refine Go.XK.s (v := .bool (decide ((300 : Int) < (s.length : Int)))) (e_pickF rfl g3_3 rfl) ?_
      exact sl_nil (fun a ha => ⟨rfl, ha.sub (.cons (by rw [g3_3]; rfl) (sub_self_cons (sub_self_cons (sub_self_cons (sub_self_cons (Sub.refl _) rfl) rfl) rfl) rfl))⟩)
  refine Go.XK.s (v := .bool ((!(small l 40)) || (decide ((300 : Int) < (s.length : Int))))) (e_move rfl) ?_
  refine sl_mergeW 3 24 (.bool (((!(small l 40)) || (decide ((300 : Int) < (s.length : Int)))) || (l.any (fun x_ : En => decide (x_.g = [83, 84]))))) (fun w_ => Ext w2 w_) ?_ (fun w3 hw3 => ?_)
  · refine sl_case (t := 21) rfl (fun g3_8 => ?_) (fun g3_8 => ?_)
    ·
      refine sl_gskip rfl rfl g3_8 (by decide) ?_
      refine sl_gskip rfl rfl g3_8 (by decide) ?_
      refine Go.XK.s (v := .bool true) (e_pickT rfl g3_8 rfl) ?_
      exact sl_nil (fun a ha => ⟨(Ext.rfl' w2), ha.sub (.cons (by rw [g3_8]; rfl) (sub_self_cons (sub_self_cons (sub_self_cons (Sub.refl _) rfl) rfl) rfl))⟩)
    ·
      refine sl_gev (v := .slice A l.length c) rfl rfl g3_8 (e_move rfl) rfl (by decide) ?_
      refine sl_gcall rfl rfl g3_8 ent41 rfl rfl (hasst_c _ _ _ w2 (hl.ext xw_w2)) (by decide) ?_
      rintro _ w4 ⟨rfl, hw4⟩
      have xw_w4 : Ext w w4 := Ext.tr xw_w2 hw4
      have xw2_w4 : Ext w2 w4 := Ext.tr (Ext.rfl' w2) hw4
      refine Go.XK.s (v := .bool (l.any (fun x_ : En => decide (x_.g = [83, 84])))) (e_pickF rfl g3_8 rfl) ?_
      exact sl_nil (fun a ha => ⟨xw2_w4, ha.sub (.cons (by rw [g3_8]; rfl) (sub_self_cons (sub_self_cons (sub_self_cons (Sub.refl _) rfl) rfl) rfl))⟩)
  have xw_w3 : Ext w w3 := Ext.tr xw_w2 hw3
  refine sl_nil (nrm_k ?_)
  refine sc_if rfl (fun c24 => ?_) (fun c24 => ?_)
  ·
    refine sc_seq ?_
    refine sc_reg ?_
    refine Go.XK.s (v := .bool true) (e_assign rfl) ?_
    refine sl_nil (nrm_k ?_)
    refine sc_retf rfl (ret1 Try.results8 (rvt rfl) ?_)
    exact ⟨rfl, xw_w3⟩
  ·
    have h_ := c24
    simp only [Bool.or_eq_false_iff, decide_eq_false_iff_not, Bool.not_eq_false'] at h_
    obtain ⟨⟨hsml, hs3⟩, hst⟩ := h_
    have hel := encR_len l
    refine sc_skip (nrm_k ?_)
    refine sc_seq ?_
    refine sc_reg ?_
    refine Go.XK.s (v := .slice A l.length c) (e_move rfl) ?_
    refine sl_call ent11 rfl rfl (encode_c _ _ _ w3 (hl.ext xw_w3) hsl) (by decide) ?_
    rintro _ w5 ⟨rfl, hw5⟩
    have xw_w5 : Ext w w5 := Ext.tr xw_w3 hw5
    refine Go.XK.s (v := .tuple #[.string (B ((encR l).1)), .int .i64 ((encR l).2)]) (e_move rfl) ?_
    refine Go.XK.s (v := .string (B ((encR l).1))) (e_extract (vs := [.string (B ((encR l).1)), .int .i64 ((encR l).2)]) rfl rfl) ?_
    refine Go.XK.s (v := .int .i64 ((encR l).2)) (e_extract (vs := [.string (B ((encR l).1)), .int .i64 ((encR l).2)]) rfl rfl) ?_
    refine Go.XK.s (v := .string (B ((encR l).1))) (e_assign rfl) ?_
    refine Go.XK.s (v := .int .i64 ((encR l).2)) (e_assign rfl) ?_
    refine sl_nil (nrm_k ?_)
    refine sc_seq ?_
    refine sc_seq ?_
    refine sc_reg ?_
    refine Go.XK.s (v := .int .i64 ((encR l).2)) (e_move rfl) ?_
    refine Go.XK.s (v := .bool (decide ((encR l).2 ≠ 0))) (e_ne rfl rfl) ?_
    refine sl_nil (nrm_k ?_)
    refine sc_ifd rfl (fun c31 => ?_) (fun c31 => ?_)
    ·
      refine sc_seq ?_
      refine sc_reg ?_
      refine Go.XK.s (v := .string (B ((encR l).1))) (e_move rfl) ?_
      refine Go.XK.s (v := .bool (decide ((encR l).1 = []))) (e_seq rfl rfl) ?_
      refine Go.XK.s (v := .bool (decide ((encR l).1 = []))) (e_assign rfl) ?_
      refine sl_nil (nrm_k ?_)
      refine sc_retf rfl (ret1 Try.results8 (rvt rfl) ?_)
      exact ⟨congrArg Value.bool (decide_eq_true (encR_err c31)), xw_w5⟩
    ·
      refine sc_skip (nrm_k ?_)
      refine sc_seq ?_
      refine sc_seq ?_
      refine sc_reg ?_
      refine Go.XK.s (v := .string (B s)) (e_move rfl) ?_
      refine Go.XK.s (v := .string (B s)) (e_move rfl) ?_
      refine Go.XK.s (v := .int .i64 (s.length : Int)) (e_slen Try.underlying9 rfl) ?_
      refine Go.XK.s (v := .int .i64 (min (s.length : Int) 3)) (e_min2 (m := min (s.length : Int) 3) rfl rfl (by split <;> omega)) ?_
      refine Go.XK.s (v := .string (B (s.take (min s.length 3)))) (e_sslice (lo := 0) (hi := min s.length 3) Try.underlying9 rfl Bd.no (Bd.at_ rfl (by omega)) (by omega) (by omega)) ?_
      refine Go.XK.s (v := .string (B s)) (e_move rfl) ?_
      refine Go.XK.s (v := .string (B ([0] ++ s))) (e_sadd rfl rfl (by first | omega | (simp <;> omega))) ?_
      refine Go.XK.s (v := .string (B s)) (e_move rfl) ?_
      refine Go.XK.s (v := .string (B ([83, 84, 4, 1] ++ s))) (e_sadd rfl rfl (by first | omega | (simp <;> omega))) ?_
      refine s_bslice (vs := [(0, .string (B [])), (1, .string (B (s.take (min s.length 3)))), (2, .string (B ([0] ++ s))), (3, .string (B ([83, 84, 4, 1] ++ s)))]) (e := 9) rfl [.string (B []), .string (B (s.take (min s.length 3))), .string (B ([0] ++ s)), .string (B ([83, 84, 4, 1] ++ s))] (by kernel_rfl) ?_
      intro b43 w6 hb43 he43 hs43 hx43
      have ge_b43 : w.heap.size ≤ b43 := by have h_ := (Below.size xw_w5); omega
      have xw_w6 : Ext w w6 := Ext.tr xw_w5 hx43
      have ho43 : Go.XK.Own w6 w.heap.size 9 1 encS (.slice (some ⟨b43, 0, none⟩) 4 4) (tails s) := Go.XK.Own.ofBlk (xs := tails s) hb43 ge_b43 (fun _ => rfl) (by show (4 : Nat) ≤ maxLen; decide)
      refine Go.XK.s (v := .int .i64 4) (e_lenOwn Try.underlying48 rfl ho43 (fun _ => rfl)) ?_
      refine Go.XK.s (v := .int .i64 0) (e_move rfl) ?_
      refine sl_nil (nrm_k ?_)
      refine sc_block ?_
      refine sc_loop (fun m_ l_ w_ => ∃ (i : Nat), m_ = 4 - i ∧ l_ = [(45, .int .i64 (i : Int)), (0, .slice A l.length c), (5, .string (B ((encR l).1))), (43, .slice (some ⟨b43, 0, none⟩) 4 4), (44, .int .i64 4)] ∧ Ext w w_ ∧ Go.XK.Own w_ w.heap.size 9 1 encS (.slice (some ⟨b43, 0, none⟩) 4 4) (tails s) ∧ i ≤ 4) _ [(45, .int .i64 (0 : Int)), (0, .slice A l.length c), (5, .string (B ((encR l).1))), (43, .slice (some ⟨b43, 0, none⟩) 4 4), (44, .int .i64 4)] ⟨0, rfl, rfl, xw_w6, ho43, (by omega)⟩ (.cons rfl (.cons rfl (.cons rfl (.cons rfl (.cons rfl (.nil)))))) ?_
      rintro j8 _ w7 ⟨i, rfl, rfl, xw_w7, ho43, hi⟩
      refine sc_seq ?_
      refine sc_reg ?_
      refine Go.XK.s (v := .bool (decide ((i : Int) < 4))) (e_lt rfl rfl) ?_
      refine sl_nil (nrm_k ?_)
      refine sc_seq ?_
      refine sc_ifd rfl (fun c46 => ?_) (fun c46 => ?_)
      ·
        obtain ⟨t, ht⟩ : ∃ t, (tails s)[i]? = some t := ⟨_, List.getElem?_eq_getElem (by show i < 4; omega)⟩
        have htm := List.mem_of_getElem? ht
        have hdec := ret_dec c31 hst (tails_stop t htm)
        have htl := tails_len (by omega) t htm
        refine sc_skip (nrm_k ?_)
        refine sc_seq ?_
        refine sc_block ?_
        refine sc_seq ?_
        refine sc_reg ?_
        refine Go.XK.s (v := .pointer (some (el (ownA (.slice (some ⟨b43, 0, none⟩) 4 4)) 1 (i : Int) 0))) (e_idxOwn (x0 := t) Try.underlying48 Try.sizeOf9 rfl rfl ho43 (fun _ => rfl) ht (by omega)) ?_
        refine Go.XK.s (v := .string (B t)) (e_ldEl (xs := tails s) (enc := encS) (e := t) rfl (Go.XK.Own.rd ho43 (fun _ => rfl)) ht Try.isAgg9 rfl) ?_
        refine Go.XK.s (v := .string (B t)) (e_assign rfl) ?_
        refine sl_nil (nrm_k ?_)
        refine sc_seq ?_
        refine sc_reg ?_
        refine Go.XK.s (v := .string (B ((encR l).1))) (e_move rfl) ?_
        refine Go.XK.s (v := .string (B t)) (e_move rfl) ?_
        refine Go.XK.s (v := .string (B (((encR l).1) ++ t))) (e_sadd rfl rfl (by first | omega | (simp only [maxLen]; omega))) ?_
        refine sl_call ent13 rfl rfl (decode_c (((encR l).1) ++ t) w7 (by rw [List.length_append]; omega)) (by decide) ?_
        rintro _ w9 ⟨vD24, rfl, hoD24, hw9⟩
        replace hoD24 := Own.low hoD24 (Below.size xw_w7)
        have xw_w9 : Ext w w9 := Ext.tr xw_w7 hw9
        replace ho43 := ho43.ext hw9
        obtain ⟨AD24, cD24, eD24_, hlcD24, hcmD24, _⟩ := Go.XK.Own.shape hoD24 (fun _ => rfl)
        subst eD24_
        refine Go.XK.s (v := .tuple #[.slice AD24 ((decR (((encR l).1) ++ t)).1).length cD24, .int .i64 ((decR (((encR l).1) ++ t)).2)]) (e_move rfl) ?_
        refine Go.XK.s (v := .slice AD24 ((decR (((encR l).1) ++ t)).1).length cD24) (e_extract (vs := [.slice AD24 ((decR (((encR l).1) ++ t)).1).length cD24, .int .i64 ((decR (((encR l).1) ++ t)).2)]) rfl rfl) ?_
        refine Go.XK.s (v := .int .i64 ((decR (((encR l).1) ++ t)).2)) (e_extract (vs := [.slice AD24 ((decR (((encR l).1) ++ t)).1).length cD24, .int .i64 ((decR (((encR l).1) ++ t)).2)]) rfl rfl) ?_
        refine Go.XK.s (v := .slice AD24 ((decR (((encR l).1) ++ t)).1).length cD24) (e_assign rfl) ?_
        refine Go.XK.s (v := .int .i64 ((decR (((encR l).1) ++ t)).2)) (e_assign rfl) ?_
        refine sl_nil (nrm_k ?_)
        refine sc_seq ?_
        refine sc_reg ?_
        refine Go.XK.s (v := .int .i64 ((decR (((encR l).1) ++ t)).2)) (e_move rfl) ?_
        refine Go.XK.s (v := .bool (decide ((decR (((encR l).1) ++ t)).2 ≠ 0))) (e_ne rfl rfl) ?_
        refine Go.XK.s (v := .bool (decide ((decR (((encR l).1) ++ t)).2 ≠ 0))) (e_move rfl) ?_
        refine sl_mergeW 5 63 (.bool ((decide ((decR (((encR l).1) ++ t)).2 ≠ 0)) || (!(decide ((decR (((encR l).1) ++ t)).1 = l))))) (fun w_ => Ext w9 w_) ?_ (fun w10 hw10 => ?_)
        · refine sl_case (t := 58) rfl (fun g12_2 => ?_) (fun g12_2 => ?_)
          ·
            refine sl_gskip rfl rfl g12_2 (by decide) ?_
            refine sl_gskip rfl rfl g12_2 (by decide) ?_
            refine sl_gskip rfl rfl g12_2 (by decide) ?_
            refine sl_gskip rfl rfl g12_2 (by decide) ?_
            refine Go.XK.s (v := .bool true) (e_pickT rfl g12_2 rfl) ?_
            exact sl_nil (fun a ha => ⟨(Ext.rfl' w9), ha.sub (.cons (by rw [g12_2]; rfl) (sub_self_cons (sub_self_cons (sub_self_cons (sub_self_cons (sub_self_cons (Sub.refl _) rfl) rfl) rfl) rfl) rfl))⟩)
          ·
            refine sl_gev (v := .slice AD24 ((decR (((encR l).1) ++ t)).1).length cD24) rfl rfl g12_2 (e_move rfl) rfl (by decide) ?_
            refine sl_gev (v := .slice A l.length c) rfl rfl g12_2 (e_move rfl) rfl (by decide) ?_
            refine sl_gcall rfl rfl g12_2 ent17 rfl rfl (same_c _ _ _ _ _ _ w9 (Go.XK.Own.slr hoD24 (fun _ => rfl)) (hl.ext xw_w9)) (by decide) ?_
            rintro _ w11 ⟨rfl, hw11⟩
            have xw_w11 : Ext w w11 := Ext.tr xw_w9 hw11
            have xw9_w11 : Ext w9 w11 := Ext.tr (Ext.rfl' w9) hw11
            replace ho43 := ho43.ext hw11
            replace hoD24 := hoD24.ext hw11
            refine sl_gev (v := .bool (!(decide ((decR (((encR l).1) ++ t)).1 = l)))) rfl rfl g12_2 (e_not rfl) rfl (by decide) ?_
            refine Go.XK.s (v := .bool (!(decide ((decR (((encR l).1) ++ t)).1 = l)))) (e_pickF rfl g12_2 rfl) ?_
            exact sl_nil (fun a ha => ⟨xw9_w11, ha.sub (.cons (by rw [g12_2]; rfl) (sub_self_cons (sub_self_cons (sub_self_cons (sub_self_cons (sub_self_cons (Sub.refl _) rfl) rfl) rfl) rfl) rfl))⟩)
        have xw_w10 : Ext w w10 := Ext.tr xw_w9 hw10
        replace ho43 := ho43.ext hw10
        replace hoD24 := hoD24.ext hw10
        refine sl_nil (nrm_k ?_)
        refine sc_no rfl (by rw [hdec]; simp) ?_
        refine sc_skip (nrm_k ?_)
        refine sc_reg ?_
        refine Go.XK.s (v := .int .i64 ((i : Int) + 1)) (e_add rfl rfl (by omega)) ?_
        refine Go.XK.s (v := .int .i64 ((i : Int) + 1)) (e_move rfl) ?_
        refine sl_nil ?_
        exact nrm_loopq rfl _ _ (by omega) ⟨i + 1, rfl, rfl, xw_w10, ho43, (by omega)⟩ (.cons rfl (.cons rfl (.cons rfl (.cons rfl (.cons rfl (.nil))))))
      ·
        refine sc_exit rfl (nrm_k ?_)
        refine sc_seq ?_
        refine sc_reg ?_
        refine Go.XK.s (v := .string (B ((encR l).1))) (e_move rfl) ?_
        refine Go.XK.s (v := .int .i64 (((encR l).1).length : Int)) (e_slen Try.underlying9 rfl) ?_
        refine Go.XK.s (v := .slice A l.length c) (e_move rfl) ?_
        refine sl_call ent15 rfl rfl (size_c _ _ _ w7 (hl.ext xw_w7)) (by decide) ?_
        rintro _ w12 ⟨rfl, hw12⟩
        have xw_w12 : Ext w w12 := Ext.tr xw_w7 hw12
        replace ho43 := ho43.ext hw12
        refine Go.XK.s (v := .bool (decide ((((encR l).1).length : Int) = wr64 (szL l : Int)))) (e_eq rfl rfl) ?_
        refine Go.XK.s (v := .bool (decide ((((encR l).1).length : Int) = wr64 (szL l : Int)))) (e_assign rfl) ?_
        refine sl_nil (nrm_k ?_)
        refine sc_retf rfl (ret1 Try.results8 (rvt rfl) ?_)
        exact ⟨congrArg Value.bool (decide_eq_true (ret_len c31)), xw_w12⟩

/-- masterdisc/masterdisclaw24.SuspJoins$1 (function 37) -/
theorem big_c (l : List En) (A : Option Addr) (c : Nat) (w : World) (hl : SlR w A c 3 encE l) : CallR Try.prog 37 [.slice A l.length c] w (fun v w' => v = .bool (!small l 40) ∧ Ext w w') := by
  refine callR_of (n := 6) [(0, .slice A l.length c)] Try.func37 rfl rfl (Nat.le_of_ble_eq_true rfl) rfl ?_
  refine sc_seq ?_
  refine sc_reg ?_
  refine Go.XK.s (v := .bool false) (e_assign rfl) ?_
  refine sl_nil (nrm_k ?_)
  refine sc_seq ?_
  refine sc_reg ?_
  refine Go.XK.s (v := .slice A l.length c) (e_move rfl) ?_
  refine sl_call ent10 rfl rfl (small_c _ _ _ 40 w (hl.ext (Ext.rfl' w))) (by decide) ?_
  rintro _ w1 ⟨rfl, hw1⟩
  have xw_w1 : Ext w w1 := Ext.tr (Ext.rfl' w) hw1
  refine Go.XK.s (v := .bool (!(small l 40))) (e_not rfl) ?_
  refine Go.XK.s (v := .bool (!(small l 40))) (e_assign rfl) ?_
  refine sl_nil (nrm_k ?_)
  refine sc_retf rfl (ret1 Try.results37 (rvt rfl) ?_)
  exact ⟨rfl, xw_w1⟩

/-- slices.IndexFunc[[][]masterdisc/api.SuspEntry,[]masterdisc/api.SuspEntry] (function 57) -/
theorem idxbig_c (gs : List Gp) (Ag : Option Addr) (cg : Nat) (w : World) (hg : SlR w Ag cg 1 encG gs) (hin : InG w gs) : CallR Try.prog 57 [.slice Ag gs.length cg, .func (.func 37) #[] #[]] w (fun v w' => ∃ r : Int, v = .int .i64 r ∧ decide (0 ≤ r) = gs.any (fun x_ : Gp => !small x_.l 40) ∧ Ext w w') := by
  have hmx0 := hg.lenle
  simp only [maxLen] at hmx0
  refine callR_of (n := 19) [(0, .slice Ag gs.length cg), (1, .func (.func 37) #[] #[])] Try.func57 rfl rfl (Nat.le_of_ble_eq_true rfl) rfl ?_
  refine sc_seq ?_
  refine sc_reg ?_
  refine Go.XK.s (v := .int .i64 0) (e_assign rfl) ?_
  refine sl_nil (nrm_k ?_)
  refine sc_seq ?_
  refine sc_seq ?_
  refine sc_reg ?_
  refine Go.XK.s (v := .slice Ag gs.length cg) (e_move rfl) ?_
  refine Go.XK.s (v := .int .i64 (gs.length : Int)) (e_len Try.underlying33 rfl) ?_
  refine Go.XK.s (v := .int .i64 0) (e_move rfl) ?_
  refine sl_nil (nrm_k ?_)
  refine sc_block ?_
  refine sc_loop (fun m_ l_ w_ => ∃ (i : Nat), m_ = gs.length - i ∧ l_ = [(8, .int .i64 (i : Int)), (0, .slice Ag gs.length cg), (1, .func (.func 37) #[] #[]), (6, .slice Ag gs.length cg), (7, .int .i64 (gs.length : Int))] ∧ Ext w w_ ∧ i ≤ gs.length ∧ (gs.take i).any (fun x_ : Gp => !small x_.l 40) = false) _ [(8, .int .i64 (0 : Int)), (0, .slice Ag gs.length cg), (1, .func (.func 37) #[] #[]), (6, .slice Ag gs.length cg), (7, .int .i64 (gs.length : Int))] ⟨0, rfl, rfl, (Ext.rfl' w), ⟨by omega, rfl⟩⟩ (.cons rfl (.cons rfl (.cons rfl (.cons rfl (.cons rfl (.nil)))))) ?_
  rintro j2 _ w1 ⟨i, rfl, rfl, xw_w1, ⟨hi, hn⟩⟩
  refine sc_seq ?_
  refine sc_reg ?_
  refine Go.XK.s (v := .bool (decide ((i : Int) < (gs.length : Int)))) (e_lt rfl rfl) ?_
  refine sl_nil (nrm_k ?_)
  refine sc_seq ?_
  refine sc_ifd rfl (fun c9 => ?_) (fun c9 => ?_)
  ·
    obtain ⟨x, hx⟩ : ∃ x, gs[i]? = some x := ⟨_, List.getElem?_eq_getElem (by omega)⟩
    have hin_x := hin x (List.mem_of_getElem? hx)
    refine sc_skip (nrm_k ?_)
    refine sc_seq ?_
    refine sc_block ?_
    refine sc_seq ?_
    refine sc_reg ?_
    refine Go.XK.s (v := .int .i64 (i : Int)) (e_move rfl) ?_
    refine Go.XK.s (v := .int .i64 (i : Int)) (e_assign rfl) ?_
    refine sl_nil (nrm_k ?_)
    refine sc_seq ?_
    refine sc_reg ?_
    refine Go.XK.s (v := .func (.func 37) #[] #[]) (e_move rfl) ?_
    refine Go.XK.s (v := .slice Ag gs.length cg) (e_move rfl) ?_
    refine Go.XK.s (v := .int .i64 (i : Int)) (e_move rfl) ?_
    refine Go.XK.s (v := .pointer (some (el Ag 1 (i : Int) 0))) (e_idxEl (e := x) Try.underlying33 Try.sizeOf22 rfl rfl (hg.1.ext xw_w1) hx (by omega) rfl) ?_
    refine Go.XK.s (v := .slice x.A x.l.length x.c) (e_ldEl (xs := gs) (enc := encG) (e := x) rfl (hg.1.ext xw_w1) hx Try.isAgg22 rfl) ?_
    refine sl_call ent37 rfl rfl (big_c _ _ _ w1 (hin_x.ext xw_w1)) (by decide) ?_
    rintro _ w3 ⟨rfl, hw3⟩
    have xw_w3 : Ext w w3 := Ext.tr xw_w1 hw3
    refine sl_nil (nrm_k ?_)
    refine sc_if rfl (fun c16 => ?_) (fun c16 => ?_)
    ·
      refine sc_seq ?_
      refine sc_reg ?_
      refine Go.XK.s (v := .int .i64 (i : Int)) (e_move rfl) ?_
      refine Go.XK.s (v := .int .i64 (i : Int)) (e_assign rfl) ?_
      refine sl_nil (nrm_k ?_)
      refine sc_retf rfl (ret1 Try.results57 (rvt rfl) ?_)
      exact ⟨_, rfl, by rw [any_yes hx c16]; exact decide_eq_true (by omega), xw_w3⟩
    ·
      refine sc_skip (nrm_k ?_)
      refine sc_reg ?_
      refine Go.XK.s (v := .int .i64 ((i : Int) + 1)) (e_add rfl rfl (by omega)) ?_
      refine Go.XK.s (v := .int .i64 ((i : Int) + 1)) (e_move rfl) ?_
      refine sl_nil ?_
      exact nrm_loopq rfl _ _ (by omega) ⟨i + 1, rfl, rfl, xw_w3, ⟨by omega, any_no hx hn c16⟩⟩ (.cons rfl (.cons rfl (.cons rfl (.cons rfl (.cons rfl (.nil))))))
  ·
    refine sc_exit rfl (nrm_k ?_)
    refine sc_seq ?_
    refine sc_reg ?_
    refine Go.XK.s (v := .int .i64 (-1)) (e_assign rfl) ?_
    refine sl_nil (nrm_k ?_)
    refine sc_retf rfl (ret1 Try.results57 (rvt rfl) ?_)
    exact ⟨_, rfl, by rw [any_end hn (by omega)]; rfl, xw_w1⟩

/-- slices.ContainsFunc[[][]masterdisc/api.SuspEntry,[]masterdisc/api.SuspEntry] (function 36) -/
theorem hasbig_c (gs : List Gp) (Ag : Option Addr) (cg : Nat) (w : World) (hg : SlR w Ag cg 1 encG gs) (hin : InG w gs) : CallR Try.prog 36 [.slice Ag gs.length cg, .func (.func 37) #[] #[]] w (fun v w' => v = .bool (gs.any (fun x_ : Gp => !small x_.l 40)) ∧ Ext w w') := by
  refine callR_of (n := 9) [(0, .slice Ag gs.length cg), (1, .func (.func 37) #[] #[])] Try.func36 rfl rfl (Nat.le_of_ble_eq_true rfl) rfl ?_
  refine sc_seq ?_
  refine sc_reg ?_
  refine Go.XK.s (v := .bool false) (e_assign rfl) ?_
  refine sl_nil (nrm_k ?_)
  refine sc_seq ?_
  refine sc_reg ?_
  refine Go.XK.s (v := .slice Ag gs.length cg) (e_move rfl) ?_
  refine Go.XK.s (v := .func (.func 37) #[] #[]) (e_move rfl) ?_
  refine sl_call ent57 rfl rfl (idxbig_c _ _ _ w (hg.ext (Ext.rfl' w)) (hin.ext (Ext.rfl' w))) (by decide) ?_
  rintro _ w1 ⟨r57, rfl, hr57, hw1⟩
  have xw_w1 : Ext w w1 := Ext.tr (Ext.rfl' w) hw1
  refine Go.XK.s (v := .bool (decide ((0 : Int) ≤ r57))) (e_ge rfl rfl) ?_
  refine Go.XK.s (v := .bool (decide ((0 : Int) ≤ r57))) (e_assign rfl) ?_
  refine sl_nil (nrm_k ?_)
  refine sc_retf rfl (ret1 Try.results36 (rvt rfl) ?_)
  exact ⟨congrArg Value.bool hr57, xw_w1⟩

/-- masterdisc/masterdisclaw24.SuspJoins (function 7) -/
theorem joins_c (gs : List Gp) (Ag : Option Addr) (cg : Nat) (ps : List Pl) (A2 : Option Addr) (c2 : Nat) (z : Int) (w : World) (hg : SlR w Ag cg 1 encG gs) (hin : InG w gs) (hps : SlR w A2 c2 2 encPl ps) : CallR Try.prog 7 [.slice Ag gs.length cg, .slice A2 ps.length c2, .int .i64 z] w (fun v w' => v = .bool true ∧ Ext w w') := by
  have hmx0 := hg.lenle
  simp only [maxLen] at hmx0
  have hmx1 := hps.lenle
  simp only [maxLen] at hmx1
  refine callR_of (n := 79) [(0, .slice Ag gs.length cg), (1, .slice A2 ps.length c2), (2, .int .i64 z)] Try.func7 rfl rfl (Nat.le_of_ble_eq_true rfl) rfl ?_
  refine sc_seq ?_
  refine sc_reg ?_
  refine Go.XK.s (v := .bool false) (e_assign rfl) ?_
  refine sl_nil (nrm_k ?_)
  refine sc_seq ?_
  refine sc_seq ?_
  refine sc_reg ?_
  refine sl_call ent9 rfl rfl (awake_c w) (by decide) ?_
  rintro _ w1 ⟨rfl, hw1⟩
  have xw_w1 : Ext w w1 := Ext.tr (Ext.rfl' w) hw1
  refine Go.XK.s (v := .bool false) (e_not (b := true) rfl) ?_
  refine sl_nil (nrm_k ?_)
  refine sc_no rfl rfl ?_
  refine sc_skip (nrm_k ?_)
  refine sc_seq ?_
  refine sc_seq ?_
  refine sc_reg ?_
  refine Go.XK.s (v := .slice Ag gs.length cg) (e_move rfl) ?_
  refine Go.XK.s (v := .int .i64 (gs.length : Int)) (e_len Try.underlying33 rfl) ?_
  refine Go.XK.s (v := .bool (decide ((6 : Int) < (gs.length : Int)))) (e_gt rfl rfl) ?_
  refine Go.XK.s (v := .bool (decide ((6 : Int) < (gs.length : Int)))) (e_move rfl) ?_
  refine sl_merge 4 26 (.bool ((decide ((6 : Int) < (gs.length : Int))) || (decide ((6 : Int) < (ps.length : Int))))) ?_ ?_
  · refine sl_case (t := 22) rfl (fun g3_3 => ?_) (fun g3_3 => ?_)
    ·
      refine sl_gskip rfl rfl g3_3 (by decide) ?_
      refine sl_gskip rfl rfl g3_3 (by decide) ?_
      refine sl_gskip rfl rfl g3_3 (by decide) ?_
      refine Go.XK.s (v := .bool true) (e_pickT rfl g3_3 rfl) ?_
      exact sl_nil (fun a ha => ⟨rfl, ha.sub (.cons (by rw [g3_3]; rfl) (sub_self_cons (sub_self_cons (sub_self_cons (sub_self_cons (Sub.refl _) rfl) rfl) rfl) rfl))⟩)
    ·
      refine sl_gev (v := .slice A2 ps.length c2) rfl rfl g3_3 (e_move rfl) rfl (by decide) ?_
      refine sl_gev (v := .int .i64 (ps.length : Int)) rfl rfl g3_3 (e_len Try.underlying51 rfl) rfl (by decide) ?_
      refine sl_gev (v := .bool (decide ((6 : Int) < (ps.length : Int)))) rfl rfl g3_3 (e_gt rfl rfl) rfl (by decide) ?_
      refine Go.XK.s (v := .bool (decide ((6 : Int) < (ps.length : Int)))) (e_pickF rfl g3_3 rfl) ?_
      exact sl_nil (fun a ha => ⟨rfl, ha.sub (.cons (by rw [g3_3]; rfl) (sub_self_cons (sub_self_cons (sub_self_cons (sub_self_cons (Sub.refl _) rfl) rfl) rfl) rfl))⟩)
  refine Go.XK.s (v := .bool ((decide ((6 : Int) < (gs.length : Int))) || (decide ((6 : Int) < (ps.length : Int))))) (e_move rfl) ?_
  refine sl_mergeW 3 30 (.bool (((decide ((6 : Int) < (gs.length : Int))) || (decide ((6 : Int) < (ps.length : Int)))) || (gs.any (fun x_ : Gp => !small x_.l 40)))) (fun w_ => Ext w1 w_) ?_ (fun w2 hw2 => ?_)
  · refine sl_case (t := 27) rfl (fun g3_8 => ?_) (fun g3_8 => ?_)
    ·
      refine sl_gskip rfl rfl g3_8 (by decide) ?_
      refine sl_gskip rfl rfl g3_8 (by decide) ?_
      refine Go.XK.s (v := .bool true) (e_pickT rfl g3_8 rfl) ?_
      exact sl_nil (fun a ha => ⟨(Ext.rfl' w1), ha.sub (.cons (by rw [g3_8]; rfl) (sub_self_cons (sub_self_cons (sub_self_cons (Sub.refl _) rfl) rfl) rfl))⟩)
    ·
      refine sl_gev (v := .slice Ag gs.length cg) rfl rfl g3_8 (e_move rfl) rfl (by decide) ?_
      refine sl_gcall rfl rfl g3_8 ent36 rfl rfl (hasbig_c _ _ _ w1 (hg.ext xw_w1) (hin.ext xw_w1)) (by decide) ?_
      rintro _ w3 ⟨rfl, hw3⟩
      have xw_w3 : Ext w w3 := Ext.tr xw_w1 hw3
      have xw1_w3 : Ext w1 w3 := Ext.tr (Ext.rfl' w1) hw3
      refine Go.XK.s (v := .bool (gs.any (fun x_ : Gp => !small x_.l 40))) (e_pickF rfl g3_8 rfl) ?_
      exact sl_nil (fun a ha => ⟨xw1_w3, ha.sub (.cons (by rw [g3_8]; rfl) (sub_self_cons (sub_self_cons (sub_self_cons (Sub.refl _) rfl) rfl) rfl))⟩)
  have xw_w2 : Ext w w2 := Ext.tr xw_w1 hw2
  refine sl_nil (nrm_k ?_)
  refine sc_if rfl (fun c30 => ?_) (fun c30 => ?_)
  ·
    refine sc_seq ?_
    refine sc_reg ?_
    refine Go.XK.s (v := .bool true) (e_assign rfl) ?_
    refine sl_nil (nrm_k ?_)
    refine sc_retf rfl (ret1 Try.results7 (rvt rfl) ?_)
    exact ⟨rfl, xw_w2⟩
  ·
    have h_ := c30
    simp only [Bool.or_eq_false_iff, decide_eq_false_iff_not] at h_
    obtain ⟨⟨hg6, hp6⟩, hany⟩ := h_
    have hsm : ∀ g ∈ gs, small g.l 40 = true := fun g hg_ => by have := List.any_eq_false.1 hany g hg_; simpa using this
    have hbg : ∀ g ∈ gs, szL g.l ≤ 1000000 := fun g hg_ => small_sz (hsm g hg_)
    have hsl2 : ∀ g ∈ gs, ∀ x ∈ g.l, x.g.length ≤ 9223372036854775807 := fun g hg_ x hx_ => by have := ((small_spec (hsm g hg_)).2 x hx_).2; omega
    refine sc_skip (nrm_k ?_)
    refine sc_seq ?_
    refine sc_reg ?_
    refine Go.XK.s (v := .slice Ag gs.length cg) (e_move rfl) ?_
    refine Go.XK.s (v := .slice A2 ps.length c2) (e_move rfl) ?_
    refine sl_call ent33 rfl rfl (join_c _ _ _ _ _ _ w2 (hg.ext xw_w2) (hin.ext xw_w2) (hps.ext xw_w2) hbg (by omega) hsl2) (by decide) ?_
    rintro _ w4 ⟨vD25, rfl, hoD25, hw4⟩
    replace hoD25 := Own.low hoD25 (Below.size xw_w2)
    have xw_w4 : Ext w w4 := Ext.tr xw_w2 hw4
    obtain ⟨AD25, cD25, eD25_, hlcD25, hcmD25, _⟩ := Go.XK.Own.shape hoD25 (fun _ => rfl)
    subst eD25_
    refine Go.XK.s (v := .tuple #[.slice AD25 ((joinR (gs.map (fun g_ : Gp => g_.l)) ps).1).length cD25, .int .i64 ((joinR (gs.map (fun g_ : Gp => g_.l)) ps).2)]) (e_move rfl) ?_
    refine Go.XK.s (v := .slice AD25 ((joinR (gs.map (fun g_ : Gp => g_.l)) ps).1).length cD25) (e_extract (vs := [.slice AD25 ((joinR (gs.map (fun g_ : Gp => g_.l)) ps).1).length cD25, .int .i64 ((joinR (gs.map (fun g_ : Gp => g_.l)) ps).2)]) rfl rfl) ?_
    refine Go.XK.s (v := .int .i64 ((joinR (gs.map (fun g_ : Gp => g_.l)) ps).2)) (e_extract (vs := [.slice AD25 ((joinR (gs.map (fun g_ : Gp => g_.l)) ps).1).length cD25, .int .i64 ((joinR (gs.map (fun g_ : Gp => g_.l)) ps).2)]) rfl rfl) ?_
    refine Go.XK.s (v := .slice AD25 ((joinR (gs.map (fun g_ : Gp => g_.l)) ps).1).length cD25) (e_assign rfl) ?_
    refine Go.XK.s (v := .int .i64 ((joinR (gs.map (fun g_ : Gp => g_.l)) ps).2)) (e_assign rfl) ?_
    refine sl_nil (nrm_k ?_)
    refine sc_seq ?_
    refine sc_reg ?_
    refine Go.XK.s (v := .slice Ag gs.length cg) (e_move rfl) ?_
    refine Go.XK.s (v := .slice A2 ps.length c2) (e_move rfl) ?_
    refine sl_call ent38 rfl rfl (rjoin_c _ _ _ _ _ _ w4 (hg.ext xw_w4) (hin.ext xw_w4) (hps.ext xw_w4) hbg (by omega)) (by decide) ?_
    rintro _ w5 ⟨vD26, rfl, hoD26, hw5⟩
    replace hoD26 := Own.low hoD26 (Below.size xw_w4)
    have xw_w5 : Ext w w5 := Ext.tr xw_w4 hw5
    replace hoD25 := hoD25.ext hw5
    obtain ⟨AD26, cD26, eD26_, hlcD26, hcmD26, _⟩ := Go.XK.Own.shape hoD26 (fun _ => rfl)
    subst eD26_
    refine Go.XK.s (v := .tuple #[.slice AD26 ((joinR (gs.map (fun g_ : Gp => g_.l)) ps).1).length cD26, .int .i64 ((joinR (gs.map (fun g_ : Gp => g_.l)) ps).2)]) (e_move rfl) ?_
    refine Go.XK.s (v := .slice AD26 ((joinR (gs.map (fun g_ : Gp => g_.l)) ps).1).length cD26) (e_extract (vs := [.slice AD26 ((joinR (gs.map (fun g_ : Gp => g_.l)) ps).1).length cD26, .int .i64 ((joinR (gs.map (fun g_ : Gp => g_.l)) ps).2)]) rfl rfl) ?_
    refine Go.XK.s (v := .int .i64 ((joinR (gs.map (fun g_ : Gp => g_.l)) ps).2)) (e_extract (vs := [.slice AD26 ((joinR (gs.map (fun g_ : Gp => g_.l)) ps).1).length cD26, .int .i64 ((joinR (gs.map (fun g_ : Gp => g_.l)) ps).2)]) rfl rfl) ?_
    refine Go.XK.s (v := .slice AD26 ((joinR (gs.map (fun g_ : Gp => g_.l)) ps).1).length cD26) (e_assign rfl) ?_
    refine Go.XK.s (v := .int .i64 ((joinR (gs.map (fun g_ : Gp => g_.l)) ps).2)) (e_assign rfl) ?_
    refine sl_nil (nrm_k ?_)
    refine sc_seq ?_
    refine sc_seq ?_
    refine sc_reg ?_
    refine Go.XK.s (v := .slice AD25 ((joinR (gs.map (fun g_ : Gp => g_.l)) ps).1).length cD25) (e_move rfl) ?_
    refine Go.XK.s (v := .slice AD26 ((joinR (gs.map (fun g_ : Gp => g_.l)) ps).1).length cD26) (e_move rfl) ?_
    refine sl_call ent30 rfl rfl (equalS_c _ _ _ _ _ _ w5 (Go.XK.Own.slr hoD25 (fun _ => rfl)) (Go.XK.Own.slr hoD26 (fun _ => rfl))) (by decide) ?_
    rintro _ w6 ⟨rfl, hw6⟩
    have xw_w6 : Ext w w6 := Ext.tr xw_w5 hw6
    replace hoD25 := hoD25.ext hw6
    replace hoD26 := hoD26.ext hw6
    refine Go.XK.s (v := .bool (!(decide ((joinR (gs.map (fun g_ : Gp => g_.l)) ps).1 = (joinR (gs.map (fun g_ : Gp => g_.l)) ps).1)))) (e_not rfl) ?_
    refine Go.XK.s (v := .bool (!(decide ((joinR (gs.map (fun g_ : Gp => g_.l)) ps).1 = (joinR (gs.map (fun g_ : Gp => g_.l)) ps).1)))) (e_move rfl) ?_
    refine sl_merge 4 51 (.bool ((!(decide ((joinR (gs.map (fun g_ : Gp => g_.l)) ps).1 = (joinR (gs.map (fun g_ : Gp => g_.l)) ps).1))) || (decide ((joinR (gs.map (fun g_ : Gp => g_.l)) ps).2 ≠ (joinR (gs.map (fun g_ : Gp => g_.l)) ps).2)))) ?_ ?_
    · refine sl_case (t := 47) rfl (fun g7_4 => ?_) (fun g7_4 => ?_)
      ·
        refine sl_gskip rfl rfl g7_4 (by decide) ?_
        refine sl_gskip rfl rfl g7_4 (by decide) ?_
        refine sl_gskip rfl rfl g7_4 (by decide) ?_
        refine Go.XK.s (v := .bool true) (e_pickT rfl g7_4 rfl) ?_
        exact sl_nil (fun a ha => ⟨rfl, ha.sub (.cons (by rw [g7_4]; rfl) (sub_self_cons (sub_self_cons (sub_self_cons (sub_self_cons (Sub.refl _) rfl) rfl) rfl) rfl))⟩)
      ·
        refine sl_gev (v := .int .i64 ((joinR (gs.map (fun g_ : Gp => g_.l)) ps).2)) rfl rfl g7_4 (e_move rfl) rfl (by decide) ?_
        refine sl_gev (v := .int .i64 ((joinR (gs.map (fun g_ : Gp => g_.l)) ps).2)) rfl rfl g7_4 (e_move rfl) rfl (by decide) ?_
        refine sl_gev (v := .bool (decide ((joinR (gs.map (fun g_ : Gp => g_.l)) ps).2 ≠ (joinR (gs.map (fun g_ : Gp => g_.l)) ps).2))) rfl rfl g7_4 (e_ne rfl rfl) rfl (by decide) ?_
        refine Go.XK.s (v := .bool (decide ((joinR (gs.map (fun g_ : Gp => g_.l)) ps).2 ≠ (joinR (gs.map (fun g_ : Gp => g_.l)) ps).2))) (e_pickF rfl g7_4 rfl) ?_
        exact sl_nil (fun a ha => ⟨rfl, ha.sub (.cons (by rw [g7_4]; rfl) (sub_self_cons (sub_self_cons (sub_self_cons (sub_self_cons (Sub.refl _) rfl) rfl) rfl) rfl))⟩)
    refine sl_nil (nrm_k ?_)
    refine sc_no rfl (by simp) ?_
    refine sc_skip (nrm_k ?_)
    refine sc_seq ?_
    refine sc_seq ?_
    refine sc_reg ?_
    refine Go.XK.s (v := .slice A2 ps.length c2) (e_move rfl) ?_
    refine Go.XK.s (v := .int .i64 (ps.length : Int)) (e_len Try.underlying51 rfl) ?_
    refine Go.XK.s (v := .int .i64 0) (e_move rfl) ?_
    refine sl_nil (nrm_k ?_)
    refine sc_block ?_
    refine sc_loop (fun m_ l_ w_ => ∃ (i : Nat), m_ = ps.length - i ∧ l_ = [(54, .int .i64 (i : Int)), (2, .int .i64 z), (52, .slice A2 ps.length c2), (53, .int .i64 (ps.length : Int))] ∧ Ext w w_ ∧ Go.XK.Own w_ w.heap.size 9 1 encS (.slice AD25 (((joinR (gs.map (fun g_ : Gp => g_.l)) ps).1).length) cD25) ((joinR (gs.map (fun g_ : Gp => g_.l)) ps).1) ∧ Go.XK.Own w_ w.heap.size 9 1 encS (.slice AD26 (((joinR (gs.map (fun g_ : Gp => g_.l)) ps).1).length) cD26) ((joinR (gs.map (fun g_ : Gp => g_.l)) ps).1) ∧ i ≤ ps.length) _ [(54, .int .i64 (0 : Int)), (2, .int .i64 z), (52, .slice A2 ps.length c2), (53, .int .i64 (ps.length : Int))] ⟨0, rfl, rfl, xw_w6, hoD25, hoD26, (by omega)⟩ (.cons rfl (.cons rfl (.cons rfl (.cons rfl (.nil))))) ?_
    rintro j8 _ w7 ⟨i, rfl, rfl, xw_w7, hoD25, hoD26, hi⟩
    refine sc_seq ?_
    refine sc_reg ?_
    refine Go.XK.s (v := .bool (decide ((i : Int) < (ps.length : Int)))) (e_lt rfl rfl) ?_
    refine sl_nil (nrm_k ?_)
    refine sc_seq ?_
    refine sc_ifd rfl (fun c55 => ?_) (fun c55 => ?_)
    ·
      obtain ⟨p, hp⟩ : ∃ p, ps[i]? = some p := ⟨_, List.getElem?_eq_getElem (by omega)⟩
      refine sc_skip (nrm_k ?_)
      refine sc_seq ?_
      refine sc_block ?_
      refine sc_seq ?_
      refine sc_reg ?_
      refine Go.XK.s (v := .pointer (some (el A2 2 (i : Int) 0))) (e_idxEl (e := p) Try.underlying51 Try.sizeOf53 rfl rfl (hps.1.ext xw_w7) hp (by omega) rfl) ?_
      refine Go.XK.s (v := .agg #[.int .i64 p.b, .int .i64 p.o]) (e_ldElA (xs := ps) (enc := encPl) (e := p) rfl (hps.1.ext xw_w7) hp Try.isAgg53 Try.sizeOf53 rfl) ?_
      refine s_alloc (cs := [.int .i64 0, .int .i64 0]) Try.zeroValue53 rfl ?_
      intro b12 w9 hb12 he12 hs12 hx12
      have no_b12_hoD25 : Value.ownBlock (.slice AD25 (((joinR (gs.map (fun g_ : Gp => g_.l)) ps).1).length) cD25) ≠ some b12 := fun h_ => by have h2_ := (Go.XK.Own.lt hoD25 _ h_).2; omega
      have no_b12_hoD26 : Value.ownBlock (.slice AD26 (((joinR (gs.map (fun g_ : Gp => g_.l)) ps).1).length) cD26) ≠ some b12 := fun h_ => by have h2_ := (Go.XK.Own.lt hoD26 _ h_).2; omega
      have ge_b12 : w.heap.size ≤ b12 := by have h_ := (Below.size xw_w7); omega
      have xw_w9 : Ext w w9 := Ext.tr xw_w7 hx12
      replace hoD25 := hoD25.ext hx12
      replace hoD26 := hoD26.ext hx12
      refine su_blkV [.int .i64 p.b, .int .i64 p.o] [.int .i64 p.b, .int .i64 p.o] rfl rfl hb12 rfl Try.sizeOf53 (Nat.le_of_ble_eq_true rfl) rfl rfl ?_
      intro w10 hn_ hm_w10 hs_w10
      have ho_ := hb12
      replace hb12 := hn_
      clear hn_
      replace hoD25 := hoD25.mut hm_w10 no_b12_hoD25
      replace hoD26 := hoD26.mut hm_w10 no_b12_hoD26
      have xw_w10 : Ext w w10 := below_mut xw_w9 (Below.size xw_w9) hm_w10 ge_b12
      refine sl_nil (nrm_k ?_)
      refine sc_seq ?_
      refine sc_reg ?_
      refine Go.XK.s (v := .agg #[.int .i64 p.b, .int .i64 p.o]) (e_load rfl (hb12.loadA Try.isAgg53 Try.sizeOf53 rfl)) ?_
      refine Go.XK.s (v := .int .i64 z) (e_move rfl) ?_
      refine sl_call ent39 rfl rfl (con_c p z w10) (by decide) ?_
      rintro _ w11 ⟨rfl, hw11⟩
      have xw_w11 : Ext w w11 := Ext.tr xw_w10 hw11
      replace hb12 := hb12.ext hw11
      replace hoD25 := hoD25.ext hw11
      replace hoD26 := hoD26.ext hw11
      refine Go.XK.s (v := .tuple #[.agg #[.string (B ((conR p.b p.o z).1.g)), .int .i64 ((conR p.b p.o z).1.v), .string (B ((conR p.b p.o z).1.d))], .int .i64 ((conR p.b p.o z).2)]) (e_move rfl) ?_
      refine Go.XK.s (v := .agg #[.string (B ((conR p.b p.o z).1.g)), .int .i64 ((conR p.b p.o z).1.v), .string (B ((conR p.b p.o z).1.d))]) (e_extract (vs := [.agg #[.string (B ((conR p.b p.o z).1.g)), .int .i64 ((conR p.b p.o z).1.v), .string (B ((conR p.b p.o z).1.d))], .int .i64 ((conR p.b p.o z).2)]) rfl rfl) ?_
      refine Go.XK.s (v := .int .i64 ((conR p.b p.o z).2)) (e_extract (vs := [.agg #[.string (B ((conR p.b p.o z).1.g)), .int .i64 ((conR p.b p.o z).1.v), .string (B ((conR p.b p.o z).1.d))], .int .i64 ((conR p.b p.o z).2)]) rfl rfl) ?_
      refine s_alloc (cs := [.string (B []), .int .i64 0, .string (B [])]) Try.zeroValue41 rfl ?_
      intro b13 w12 hb13 he13 hs13 hx13
      have ne_b13_b12 : b13 ≠ b12 := by have h_ := hb12.lt; omega
      have no_b13_hoD25 : Value.ownBlock (.slice AD25 (((joinR (gs.map (fun g_ : Gp => g_.l)) ps).1).length) cD25) ≠ some b13 := fun h_ => by have h2_ := (Go.XK.Own.lt hoD25 _ h_).2; omega
      have no_b13_hoD26 : Value.ownBlock (.slice AD26 (((joinR (gs.map (fun g_ : Gp => g_.l)) ps).1).length) cD26) ≠ some b13 := fun h_ => by have h2_ := (Go.XK.Own.lt hoD26 _ h_).2; omega
      have ge_b13 : w.heap.size ≤ b13 := by have h_ := (Below.size xw_w11); omega
      have xw_w12 : Ext w w12 := Ext.tr xw_w11 hx13
      replace hb12 := hb12.ext hx13
      replace hoD25 := hoD25.ext hx13
      replace hoD26 := hoD26.ext hx13
      refine su_blkV [.string (B ((conR p.b p.o z).1.g)), .int .i64 ((conR p.b p.o z).1.v), .string (B ((conR p.b p.o z).1.d))] [.string (B ((conR p.b p.o z).1.g)), .int .i64 ((conR p.b p.o z).1.v), .string (B ((conR p.b p.o z).1.d))] rfl rfl hb13 rfl Try.sizeOf41 (Nat.le_of_ble_eq_true rfl) rfl rfl ?_
      intro w13 hn_ hm_w13 hs_w13
      have ho_ := hb13
      replace hb13 := hn_
      clear hn_
      replace hb12 := hb12.mut hm_w13 (Ne.symm ne_b13_b12)
      replace hoD25 := hoD25.mut hm_w13 no_b13_hoD25
      replace hoD26 := hoD26.mut hm_w13 no_b13_hoD26
      have xw_w13 : Ext w w13 := below_mut xw_w12 (Below.size xw_w12) hm_w13 ge_b13
      refine Go.XK.s (v := .int .i64 ((conR p.b p.o z).2)) (e_assign rfl) ?_
      refine sl_nil (nrm_k ?_)
      refine sc_seq ?_
      refine sc_reg ?_
      refine Go.XK.s (v := .agg #[.int .i64 p.b, .int .i64 p.o]) (e_load rfl (hb12.loadA Try.isAgg53 Try.sizeOf53 rfl)) ?_
      refine Go.XK.s (v := .int .i64 z) (e_move rfl) ?_
      refine sl_call ent40 rfl rfl (rcon_c p z w13) (by decide) ?_
      rintro _ w14 ⟨rfl, hw14⟩
      have xw_w14 : Ext w w14 := Ext.tr xw_w13 hw14
      replace hb12 := hb12.ext hw14
      replace hb13 := hb13.ext hw14
      replace hoD25 := hoD25.ext hw14
      replace hoD26 := hoD26.ext hw14
      refine Go.XK.s (v := .tuple #[.agg #[.string (B ((conR p.b p.o z).1.g)), .int .i64 ((conR p.b p.o z).1.v), .string (B ((conR p.b p.o z).1.d))], .int .i64 ((conR p.b p.o z).2)]) (e_move rfl) ?_
      refine Go.XK.s (v := .agg #[.string (B ((conR p.b p.o z).1.g)), .int .i64 ((conR p.b p.o z).1.v), .string (B ((conR p.b p.o z).1.d))]) (e_extract (vs := [.agg #[.string (B ((conR p.b p.o z).1.g)), .int .i64 ((conR p.b p.o z).1.v), .string (B ((conR p.b p.o z).1.d))], .int .i64 ((conR p.b p.o z).2)]) rfl rfl) ?_
      refine Go.XK.s (v := .int .i64 ((conR p.b p.o z).2)) (e_extract (vs := [.agg #[.string (B ((conR p.b p.o z).1.g)), .int .i64 ((conR p.b p.o z).1.v), .string (B ((conR p.b p.o z).1.d))], .int .i64 ((conR p.b p.o z).2)]) rfl rfl) ?_
      refine s_alloc (cs := [.string (B []), .int .i64 0, .string (B [])]) Try.zeroValue41 rfl ?_
      intro b15 w15 hb15 he15 hs15 hx15
      have ne_b15_b12 : b15 ≠ b12 := by have h_ := hb12.lt; omega
      have ne_b15_b13 : b15 ≠ b13 := by have h_ := hb13.lt; omega
      have no_b15_hoD25 : Value.ownBlock (.slice AD25 (((joinR (gs.map (fun g_ : Gp => g_.l)) ps).1).length) cD25) ≠ some b15 := fun h_ => by have h2_ := (Go.XK.Own.lt hoD25 _ h_).2; omega
      have no_b15_hoD26 : Value.ownBlock (.slice AD26 (((joinR (gs.map (fun g_ : Gp => g_.l)) ps).1).length) cD26) ≠ some b15 := fun h_ => by have h2_ := (Go.XK.Own.lt hoD26 _ h_).2; omega
      have ge_b15 : w.heap.size ≤ b15 := by have h_ := (Below.size xw_w14); omega
      have xw_w15 : Ext w w15 := Ext.tr xw_w14 hx15
      replace hb12 := hb12.ext hx15
      replace hb13 := hb13.ext hx15
      replace hoD25 := hoD25.ext hx15
      replace hoD26 := hoD26.ext hx15
      refine su_blkV [.string (B ((conR p.b p.o z).1.g)), .int .i64 ((conR p.b p.o z).1.v), .string (B ((conR p.b p.o z).1.d))] [.string (B ((conR p.b p.o z).1.g)), .int .i64 ((conR p.b p.o z).1.v), .string (B ((conR p.b p.o z).1.d))] rfl rfl hb15 rfl Try.sizeOf41 (Nat.le_of_ble_eq_true rfl) rfl rfl ?_
      intro w16 hn_ hm_w16 hs_w16
      have ho_ := hb15
      replace hb15 := hn_
      clear hn_
      replace hb12 := hb12.mut hm_w16 (Ne.symm ne_b15_b12)
      replace hb13 := hb13.mut hm_w16 (Ne.symm ne_b15_b13)
      replace hoD25 := hoD25.mut hm_w16 no_b15_hoD25
      replace hoD26 := hoD26.mut hm_w16 no_b15_hoD26
      have xw_w16 : Ext w w16 := below_mut xw_w15 (Below.size xw_w15) hm_w16 ge_b15
      refine Go.XK.s (v := .int .i64 ((conR p.b p.o z).2)) (e_assign rfl) ?_
      refine sl_nil (nrm_k ?_)
      refine sc_seq ?_
      refine sc_reg ?_
      refine Go.XK.s (v := .agg #[.string (B ((conR p.b p.o z).1.g)), .int .i64 ((conR p.b p.o z).1.v), .string (B ((conR p.b p.o z).1.d))]) (e_load rfl (hb13.loadA Try.isAgg41 Try.sizeOf41 rfl)) ?_
      refine Go.XK.s (v := .agg #[.string (B ((conR p.b p.o z).1.g)), .int .i64 ((conR p.b p.o z).1.v), .string (B ((conR p.b p.o z).1.d))]) (e_load rfl (hb15.loadA Try.isAgg41 Try.sizeOf41 rfl)) ?_
      refine Go.XK.s (v := .bool (decide ((conR p.b p.o z).1 ≠ (conR p.b p.o z).1))) (e_bin rfl rfl (run_neq_en _ _ (conR p.b p.o z).1 (conR p.b p.o z).1 _)) ?_
      refine Go.XK.s (v := .bool (decide ((conR p.b p.o z).1 ≠ (conR p.b p.o z).1))) (e_move rfl) ?_
      refine sl_merge 4 77 (.bool ((decide ((conR p.b p.o z).1 ≠ (conR p.b p.o z).1)) || (decide ((conR p.b p.o z).2 ≠ (conR p.b p.o z).2)))) ?_ ?_
      · refine sl_case (t := 73) rfl (fun g14_3 => ?_) (fun g14_3 => ?_)
        ·
          refine sl_gskip rfl rfl g14_3 (by decide) ?_
          refine sl_gskip rfl rfl g14_3 (by decide) ?_
          refine sl_gskip rfl rfl g14_3 (by decide) ?_
          refine Go.XK.s (v := .bool true) (e_pickT rfl g14_3 rfl) ?_
          exact sl_nil (fun a ha => ⟨rfl, ha.sub (.cons (by rw [g14_3]; rfl) (sub_self_cons (sub_self_cons (sub_self_cons (sub_self_cons (Sub.refl _) rfl) rfl) rfl) rfl))⟩)
        ·
          refine sl_gev (v := .int .i64 ((conR p.b p.o z).2)) rfl rfl g14_3 (e_move rfl) rfl (by decide) ?_
          refine sl_gev (v := .int .i64 ((conR p.b p.o z).2)) rfl rfl g14_3 (e_move rfl) rfl (by decide) ?_
          refine sl_gev (v := .bool (decide ((conR p.b p.o z).2 ≠ (conR p.b p.o z).2))) rfl rfl g14_3 (e_ne rfl rfl) rfl (by decide) ?_
          refine Go.XK.s (v := .bool (decide ((conR p.b p.o z).2 ≠ (conR p.b p.o z).2))) (e_pickF rfl g14_3 rfl) ?_
          exact sl_nil (fun a ha => ⟨rfl, ha.sub (.cons (by rw [g14_3]; rfl) (sub_self_cons (sub_self_cons (sub_self_cons (sub_self_cons (Sub.refl _) rfl) rfl) rfl) rfl))⟩)
      refine sl_nil (nrm_k ?_)
      refine sc_no rfl (by simp) ?_
      refine sc_skip (nrm_k ?_)
      refine sc_reg ?_
      refine Go.XK.s (v := .int .i64 ((i : Int) + 1)) (e_add rfl rfl (by omega)) ?_
      refine Go.XK.s (v := .int .i64 ((i : Int) + 1)) (e_move rfl) ?_
      refine sl_nil ?_
      exact nrm_loopq rfl _ _ (by omega) ⟨i + 1, rfl, rfl, xw_w16, hoD25, hoD26, (by omega)⟩ (.cons rfl (.cons rfl (.cons rfl (.cons rfl (.nil)))))
    ·
      refine sc_exit rfl (nrm_k ?_)
      refine sc_seq ?_
      refine sc_reg ?_
      refine Go.XK.s (v := .bool true) (e_assign rfl) ?_
      refine sl_nil (nrm_k ?_)
      refine sc_retf rfl (ret1 Try.results7 (rvt rfl) ?_)
      exact ⟨rfl, xw_w7⟩

theorem bytes_s (l : List En) (A : Option Addr) (c : Nat) (s : ByteArray) (w : World) (hl : SlR w A c 3 encE l) (hsl : ∀ x ∈ l, x.g.length ≤ 9223372036854775807) : CallR Try.prog 3 [.slice A l.length c, .string s] w (fun v w' => v = .bool true ∧ Ext w w') := by
  have h := bytes_c l A c s.data.toList w hl hsl
  rwa [B_data] at h
theorem returns_s (l : List En) (A : Option Addr) (c : Nat) (s : ByteArray) (w : World) (hl : SlR w A c 3 encE l) (hsl : ∀ x ∈ l, x.g.length ≤ 9223372036854775807) (hs : s.data.toList.length ≤ 140737488351232) : CallR Try.prog 8 [.slice A l.length c, .string s] w (fun v w' => v = .bool true ∧ Ext w w') := by
  have h := returns_c l A c s.data.toList w hl hsl hs
  rwa [B_data] at h
theorem exts_s (z : Int) (s a b c : ByteArray) (l : List En) (A : Option Addr) (cl : Nat) (w : World) (hs1 : s.data.toList.length ≤ 140737488351232) (ha1 : a.data.toList.length ≤ 140737488351232) (hb1 : b.data.toList.length ≤ 140737488351232) (hc1 : c.data.toList.length ≤ 140737488351232) (hl : SlR w A cl 3 encE l) : CallR Try.prog 5 [.int .i64 z, .string s, .string a, .string b, .string c, .slice A l.length cl] w (fun v w' => v = .bool true ∧ Ext w w') := by
  have h := exts_c z s.data.toList a.data.toList b.data.toList c.data.toList l A cl w hs1 ha1 hb1 hc1 hl
  rwa [B_data, B_data, B_data, B_data] at h

end Go.Proofs.Ytnbclhbpjlpcoaa
