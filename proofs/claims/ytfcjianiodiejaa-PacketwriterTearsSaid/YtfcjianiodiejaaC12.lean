/- Chapter 52: C12. Printed by my program wip/tools/wk.py. -/
import Derived.Test.YtfcjianiodiejaaC11
import Derived.Test.YtfcjianiodiejaaMath5
set_option linter.unusedVariables false
set_option linter.unusedSimpArgs false
set_option maxRecDepth 4000
set_option maxHeartbeats 4000000
namespace Go.Proofs.Ytfcjianiodiejaa
open Go.XK Go.RowKit
/-- masterdisc/masterdisclaw52.PacketwriterKeeps (function 6) -/
theorem keeps_c (im : Img) (A : Option Addr) (c : Nat) (ws : List Wr) (Aw : Option Addr) (cw : Nat) (z : Int) (w : World) (hl : SlR w A c 1 encS im) (hw : SlR w Aw cw 4 encW ws) (hin : Inn w ws) : CallR Try.prog 6 [.slice A im.length c, .slice Aw ws.length cw, .int .i64 z] w (fun v w' => v = .bool true ∧ Ext w w') := by
  have hmx0 := hl.lenle
  simp only [maxLen] at hmx0
  have hmx1 := hw.lenle
  simp only [maxLen] at hmx1
  refine callR_of (n := 86) [(0, .slice A im.length c), (1, .slice Aw ws.length cw), (2, .int .i64 z)] Try.func6 rfl rfl (Nat.le_of_ble_eq_true rfl) rfl ?_
  refine sc_seq ?_
  refine sc_reg ?_
  refine Go.XK.s (v := .bool false) (e_assign rfl) ?_
  refine sl_nil (nrm_k ?_)
  refine sc_seq ?_
  refine sc_seq ?_
  refine sc_reg ?_
  refine sl_call ent11 rfl rfl (awake_c w) (by decide) ?_
  rintro _ w1 ⟨rfl, hw1⟩
  have xw_w1 : Ext w w1 := Ext.tr (Ext.rfl' w) hw1
  refine Go.XK.s (v := .bool false) (e_not (b := true) rfl) ?_
  refine sl_nil (nrm_k ?_)
  refine sc_no rfl rfl ?_
  refine sc_skip (nrm_k ?_)
  refine sc_seq ?_
  refine sc_seq ?_
  refine sc_reg ?_
  refine Go.XK.s (v := .slice A im.length c) (e_move rfl) ?_
  refine Go.XK.s (v := .slice Aw ws.length cw) (e_move rfl) ?_
  refine sl_call ent12 rfl rfl (few_c _ _ _ _ _ _ w1 (hl.ext xw_w1) (hw.ext xw_w1) (hin.ext xw_w1)) (by decide) ?_
  rintro _ w2 ⟨rfl, hw2⟩
  have xw_w2 : Ext w w2 := Ext.tr xw_w1 hw2
  refine Go.XK.s (v := .bool (!(few im ws))) (e_not rfl) ?_
  refine Go.XK.s (v := .bool (!(few im ws))) (e_move rfl) ?_
  refine sl_mergeW 5 25 (.bool ((!(few im ws)) || (!(onceR im ws)))) (fun w_ => Ext w2 w_) ?_ (fun w3 hw3 => ?_)
  · refine sl_case (t := 20) rfl (fun g3_4 => ?_) (fun g3_4 => ?_)
    ·
      refine sl_gskip rfl rfl g3_4 (by decide) ?_
      refine sl_gskip rfl rfl g3_4 (by decide) ?_
      refine sl_gskip rfl rfl g3_4 (by decide) ?_
      refine sl_gskip rfl rfl g3_4 (by decide) ?_
      refine Go.XK.s (v := .bool true) (e_pickT rfl g3_4 rfl) ?_
      exact sl_nil (fun a ha => ⟨(Ext.rfl' w2), ha.sub (.cons (by rw [g3_4]; rfl) (sub_self_cons (sub_self_cons (sub_self_cons (sub_self_cons (sub_self_cons (Sub.refl _) rfl) rfl) rfl) rfl) rfl))⟩)
    ·
      refine sl_gev (v := .slice A im.length c) rfl rfl g3_4 (e_move rfl) rfl (by decide) ?_
      refine sl_gev (v := .slice Aw ws.length cw) rfl rfl g3_4 (e_move rfl) rfl (by decide) ?_
      refine sl_gcall rfl rfl g3_4 ent20 rfl rfl (once_c _ _ _ _ _ _ w2 (hl.ext xw_w2) (hw.ext xw_w2) (hin.ext xw_w2)) (by decide) ?_
      rintro _ w4 ⟨rfl, hw4⟩
      have xw_w4 : Ext w w4 := Ext.tr xw_w2 hw4
      have xw2_w4 : Ext w2 w4 := Ext.tr (Ext.rfl' w2) hw4
      refine sl_gev (v := .bool (!(onceR im ws))) rfl rfl g3_4 (e_not rfl) rfl (by decide) ?_
      refine Go.XK.s (v := .bool (!(onceR im ws))) (e_pickF rfl g3_4 rfl) ?_
      exact sl_nil (fun a ha => ⟨xw2_w4, ha.sub (.cons (by rw [g3_4]; rfl) (sub_self_cons (sub_self_cons (sub_self_cons (sub_self_cons (sub_self_cons (Sub.refl _) rfl) rfl) rfl) rfl) rfl))⟩)
  have xw_w3 : Ext w w3 := Ext.tr xw_w2 hw3
  refine sl_nil (nrm_k ?_)
  refine sc_if rfl (fun c25 => ?_) (fun c25 => ?_)
  ·
    refine sc_seq ?_
    refine sc_reg ?_
    refine Go.XK.s (v := .bool true) (e_assign rfl) ?_
    refine sl_nil (nrm_k ?_)
    refine sc_retf rfl (ret1 Try.results6 (rvt rfl) ?_)
    exact ⟨rfl, xw_w3⟩
  ·
    have hfo : few im ws = true ∧ onceR im ws = true := by simpa using c25
    obtain ⟨hfew, honce⟩ := hfo
    obtain ⟨hfw1, hfw2, hfw3⟩ := few_spec hfew
    obtain ⟨hv, _⟩ := once_spec honce
    refine sc_skip (nrm_k ?_)
    refine sc_seq ?_
    refine sc_reg ?_
    refine Go.XK.s (v := .slice Aw ws.length cw) (e_move rfl) ?_
    refine sl_call ent19 rfl rfl (steps2_c _ _ _ w3 (hw.ext xw_w3) (hin.ext xw_w3) (by omega)) (by decide) ?_
    rintro _ w5 ⟨rfl, hw5⟩
    have xw_w5 : Ext w w5 := Ext.tr xw_w3 hw5
    refine Go.XK.s (v := .int .i64 ((stL ws).length : Int)) (e_assign rfl) ?_
    refine sl_nil (nrm_k ?_)
    refine sc_seq ?_
    refine sc_seq ?_
    refine sc_reg ?_
    refine Go.XK.s (v := .int .i64 ((stL ws).length : Int)) (e_move rfl) ?_
    refine Go.XK.s (v := .bool (decide (((stL ws).length : Int) < 0))) (e_lt rfl rfl) ?_
    refine Go.XK.s (v := .bool (decide (((stL ws).length : Int) < 0))) (e_move rfl) ?_
    refine sl_mergeW 5 35 (.bool ((decide (((stL ws).length : Int) < 0)) || (decide (((stL ws).length : Int) ≠ ((stL ws).length : Int))))) (fun w_ => Ext w5 w_) ?_ (fun w6 hw6 => ?_)
    · refine sl_case (t := 30) rfl (fun g6_2 => ?_) (fun g6_2 => ?_)
      ·
        refine sl_gskip rfl rfl g6_2 (by decide) ?_
        refine sl_gskip rfl rfl g6_2 (by decide) ?_
        refine sl_gskip rfl rfl g6_2 (by decide) ?_
        refine sl_gskip rfl rfl g6_2 (by decide) ?_
        refine Go.XK.s (v := .bool true) (e_pickT rfl g6_2 rfl) ?_
        exact sl_nil (fun a ha => ⟨(Ext.rfl' w5), ha.sub (.cons (by rw [g6_2]; rfl) (sub_self_cons (sub_self_cons (sub_self_cons (sub_self_cons (sub_self_cons (Sub.refl _) rfl) rfl) rfl) rfl) rfl))⟩)
      ·
        refine sl_gev (v := .int .i64 ((stL ws).length : Int)) rfl rfl g6_2 (e_move rfl) rfl (by decide) ?_
        refine sl_gev (v := .slice Aw ws.length cw) rfl rfl g6_2 (e_move rfl) rfl (by decide) ?_
        refine sl_gcall rfl rfl g6_2 ent13 rfl rfl (rsteps_c _ _ _ w5 (hw.ext xw_w5) (hin.ext xw_w5) (by omega)) (by decide) ?_
        rintro _ w7 ⟨rfl, hw7⟩
        have xw_w7 : Ext w w7 := Ext.tr xw_w5 hw7
        have xw5_w7 : Ext w5 w7 := Ext.tr (Ext.rfl' w5) hw7
        refine sl_gev (v := .bool (decide (((stL ws).length : Int) ≠ ((stL ws).length : Int)))) rfl rfl g6_2 (e_ne rfl rfl) rfl (by decide) ?_
        refine Go.XK.s (v := .bool (decide (((stL ws).length : Int) ≠ ((stL ws).length : Int)))) (e_pickF rfl g6_2 rfl) ?_
        exact sl_nil (fun a ha => ⟨xw5_w7, ha.sub (.cons (by rw [g6_2]; rfl) (sub_self_cons (sub_self_cons (sub_self_cons (sub_self_cons (sub_self_cons (Sub.refl _) rfl) rfl) rfl) rfl) rfl))⟩)
    have xw_w6 : Ext w w6 := Ext.tr xw_w5 hw6
    refine sl_nil (nrm_k ?_)
    refine sc_no rfl (by simp only [Bool.or_eq_false_iff, decide_eq_false_iff_not]; omega) ?_
    refine sc_skip (nrm_k ?_)
    refine sc_seq ?_
    refine sc_seq ?_
    refine sc_reg ?_
    refine Go.XK.s (v := .int .i64 z) (e_move rfl) ?_
    refine Go.XK.s (v := .bool (decide (z < 0))) (e_lt rfl rfl) ?_
    refine Go.XK.s (v := .bool (decide (z < 0))) (e_move rfl) ?_
    refine sl_merge 4 42 (.bool ((decide (z < 0)) || (decide (((stL ws).length : Int) < z)))) ?_ ?_
    · refine sl_case (t := 38) rfl (fun g8_2 => ?_) (fun g8_2 => ?_)
      ·
        refine sl_gskip rfl rfl g8_2 (by decide) ?_
        refine sl_gskip rfl rfl g8_2 (by decide) ?_
        refine sl_gskip rfl rfl g8_2 (by decide) ?_
        refine Go.XK.s (v := .bool true) (e_pickT rfl g8_2 rfl) ?_
        exact sl_nil (fun a ha => ⟨rfl, ha.sub (.cons (by rw [g8_2]; rfl) (sub_self_cons (sub_self_cons (sub_self_cons (sub_self_cons (Sub.refl _) rfl) rfl) rfl) rfl))⟩)
      ·
        refine sl_gev (v := .int .i64 z) rfl rfl g8_2 (e_move rfl) rfl (by decide) ?_
        refine sl_gev (v := .int .i64 ((stL ws).length : Int)) rfl rfl g8_2 (e_move rfl) rfl (by decide) ?_
        refine sl_gev (v := .bool (decide (((stL ws).length : Int) < z))) rfl rfl g8_2 (e_gt rfl rfl) rfl (by decide) ?_
        refine Go.XK.s (v := .bool (decide (((stL ws).length : Int) < z))) (e_pickF rfl g8_2 rfl) ?_
        exact sl_nil (fun a ha => ⟨rfl, ha.sub (.cons (by rw [g8_2]; rfl) (sub_self_cons (sub_self_cons (sub_self_cons (sub_self_cons (Sub.refl _) rfl) rfl) rfl) rfl))⟩)
    refine sl_nil (nrm_k ?_)
    refine sc_if rfl (fun c42 => ?_) (fun c42 => ?_)
    ·
      have hrg : z < 0 ∨ ((stL ws).length : Int) < z := by simpa using c42
      refine sc_seq ?_
      refine sc_reg ?_
      refine Go.XK.s (v := .slice A im.length c) (e_move rfl) ?_
      refine Go.XK.s (v := .slice Aw ws.length cw) (e_move rfl) ?_
      refine Go.XK.s (v := .int .i64 z) (e_move rfl) ?_
      refine sl_call ent16 rfl rfl (cut_c _ _ _ _ _ _ _ w6 (hl.ext xw_w6) (hw.ext xw_w6) (hin.ext xw_w6)) (by decide) ?_
      rintro _ w8 ⟨vK10, rfl, hoK10, hw8⟩
      replace hoK10 := Own.low hoK10 (Below.size xw_w6)
      have xw_w8 : Ext w w8 := Ext.tr xw_w6 hw8
      obtain ⟨AZ11, cZ11, eZ11_, hlcZ11, hcmZ11, _⟩ := Go.XK.Own.shape hoK10 (fun _ => rfl)
      subst eZ11_
      refine Go.XK.s (v := .tuple #[.slice AZ11 ((cutR im ws z).1).length cZ11, .int .i64 ((cutR im ws z).2)]) (e_move rfl) ?_
      refine Go.XK.s (v := .slice AZ11 ((cutR im ws z).1).length cZ11) (e_extract (vs := [.slice AZ11 ((cutR im ws z).1).length cZ11, .int .i64 ((cutR im ws z).2)]) rfl rfl) ?_
      refine Go.XK.s (v := .int .i64 ((cutR im ws z).2)) (e_extract (vs := [.slice AZ11 ((cutR im ws z).1).length cZ11, .int .i64 ((cutR im ws z).2)]) rfl rfl) ?_
      refine Go.XK.s (v := .slice AZ11 ((cutR im ws z).1).length cZ11) (e_assign rfl) ?_
      refine Go.XK.s (v := .int .i64 ((cutR im ws z).2)) (e_assign rfl) ?_
      refine sl_nil (nrm_k ?_)
      refine sc_seq ?_
      refine sc_reg ?_
      refine Go.XK.s (v := .int .i64 ((cutR im ws z).2)) (e_move rfl) ?_
      refine Go.XK.s (v := .bool (decide ((cutR im ws z).2 = 2))) (e_eq rfl rfl) ?_
      refine Go.XK.s (v := .bool (decide ((cutR im ws z).2 = 2))) (e_assign rfl) ?_
      refine sl_nil (nrm_k ?_)
      refine sc_retf rfl (ret1 Try.results6 (rvt rfl) ?_)
      exact ⟨congrArg Value.bool (decide_eq_true (by rw [cutR_range hv hrg])), xw_w8⟩
    ·
      simp only [Bool.or_eq_false_iff, decide_eq_false_iff_not] at c42
      obtain ⟨o, hcut, hol, hok⟩ := keeps_all (z := z) honce (by omega) (by omega)
      refine sc_skip (nrm_k ?_)
      refine sc_seq ?_
      refine sc_reg ?_
      refine Go.XK.s (v := .slice A im.length c) (e_move rfl) ?_
      refine Go.XK.s (v := .slice Aw ws.length cw) (e_move rfl) ?_
      refine Go.XK.s (v := .int .i64 z) (e_move rfl) ?_
      refine sl_call ent16 rfl rfl (cut_d _ _ _ _ _ _ _ w6 (hl.ext xw_w6) (hw.ext xw_w6) (hin.ext xw_w6) hcut) (by decide) ?_
      rintro _ w9 ⟨vIk, rfl, hoIk, hw9⟩
      replace hoIk := Own.low hoIk (Below.size xw_w6)
      have xw_w9 : Ext w w9 := Ext.tr xw_w6 hw9
      obtain ⟨AIk, cIk, eIk_, hlcIk, hcmIk, _⟩ := Go.XK.Own.shape hoIk (fun _ => rfl)
      subst eIk_
      refine Go.XK.s (v := .tuple #[.slice AIk o.length cIk, .int .i64 0]) (e_move rfl) ?_
      refine Go.XK.s (v := .slice AIk o.length cIk) (e_extract (vs := [.slice AIk o.length cIk, .int .i64 0]) rfl rfl) ?_
      refine Go.XK.s (v := .int .i64 0) (e_extract (vs := [.slice AIk o.length cIk, .int .i64 0]) rfl rfl) ?_
      refine Go.XK.s (v := .slice AIk o.length cIk) (e_assign rfl) ?_
      refine Go.XK.s (v := .int .i64 0) (e_assign rfl) ?_
      refine sl_nil (nrm_k ?_)
      refine sc_seq ?_
      refine sc_seq ?_
      refine sc_reg ?_
      refine Go.XK.s (v := .int .i64 0) (e_move rfl) ?_
      refine Go.XK.s (v := .bool (decide ((0 : Int) ≠ 0))) (e_ne rfl rfl) ?_
      refine Go.XK.s (v := .bool (decide ((0 : Int) ≠ 0))) (e_move rfl) ?_
      refine sl_gev (v := .slice AIk o.length cIk) rfl rfl (by decide) (e_move rfl) rfl (by decide) ?_
      refine sl_gev (v := .int .i64 (o.length : Int)) rfl rfl (by decide) (e_lenOwn Try.underlying23 rfl hoIk (fun _ => rfl)) rfl (by decide) ?_
      refine sl_gev (v := .slice A im.length c) rfl rfl (by decide) (e_move rfl) rfl (by decide) ?_
      refine sl_gev (v := .int .i64 (im.length : Int)) rfl rfl (by decide) (e_len Try.underlying23 rfl) rfl (by decide) ?_
      refine sl_gev (v := .bool (decide ((o.length : Int) < (im.length : Int)))) rfl rfl (by decide) (e_lt rfl rfl) rfl (by decide) ?_
      refine Go.XK.s (v := .bool (decide ((o.length : Int) < (im.length : Int)))) (e_pickF rfl (by decide) rfl) ?_
      refine sl_nil (nrm_k ?_)
      refine sc_no rfl (by simp; omega) ?_
      refine sc_skip (nrm_k ?_)
      refine sc_seq ?_
      refine sc_seq ?_
      refine sc_reg ?_
      refine Go.XK.s (v := .slice A im.length c) (e_move rfl) ?_
      refine Go.XK.s (v := .int .i64 (im.length : Int)) (e_len Try.underlying23 rfl) ?_
      refine Go.XK.s (v := .int .i64 0) (e_move rfl) ?_
      refine sl_nil (nrm_k ?_)
      refine sc_block ?_
      refine sc_loop (fun m_ l_ w_ => ∃ (i : Nat), m_ = im.length - i ∧ l_ = [(70, .int .i64 (i : Int)), (0, .slice A im.length c), (1, .slice Aw ws.length cw), (10, .slice AIk o.length cIk), (68, .slice A im.length c), (69, .int .i64 (im.length : Int))] ∧ Ext w w_ ∧ Go.XK.Own w_ w.heap.size 9 1 encS (.slice AIk o.length cIk) o ∧ i ≤ im.length) _ [(70, .int .i64 (0 : Int)), (0, .slice A im.length c), (1, .slice Aw ws.length cw), (10, .slice AIk o.length cIk), (68, .slice A im.length c), (69, .int .i64 (im.length : Int))] ⟨0, rfl, rfl, xw_w9, hoIk, (by omega)⟩ (.cons rfl (.cons rfl (.cons rfl (.cons rfl (.cons rfl (.cons rfl (.nil))))))) ?_
      rintro j11 _ w10 ⟨i, rfl, rfl, xw_w10, hoIk, hi⟩
      refine sc_seq ?_
      refine sc_reg ?_
      refine Go.XK.s (v := .bool (decide ((i : Int) < (im.length : Int)))) (e_lt rfl rfl) ?_
      refine sl_nil (nrm_k ?_)
      refine sc_seq ?_
      refine sc_ifd rfl (fun c71 => ?_) (fun c71 => ?_)
      ·
        obtain ⟨x, hx⟩ : ∃ x, im[i]? = some x := ⟨_, List.getElem?_eq_getElem (by omega)⟩
        obtain ⟨y, hy⟩ : ∃ y, o[i]? = some y := ⟨_, List.getElem?_eq_getElem (by omega)⟩
        have hyx : x ≠ [] → y = x := fun h_ => by have h2_ := hok i x hx h_; rw [hy] at h2_; exact Option.some.inj h2_
        refine sc_skip (nrm_k ?_)
        refine sc_seq ?_
        refine sc_block ?_
        refine sc_seq ?_
        refine sc_reg ?_
        refine Go.XK.s (v := .int .i64 (i : Int)) (e_move rfl) ?_
        refine Go.XK.s (v := .pointer (some (el A 1 (i : Int) 0))) (e_idxEl (e := x) Try.underlying23 Try.sizeOf9 rfl rfl (hl.1.ext xw_w10) hx (by omega) rfl) ?_
        refine Go.XK.s (v := .string (B x)) (e_ldEl (xs := im) (enc := encS) (e := x) rfl (hl.1.ext xw_w10) hx Try.isAgg9 rfl) ?_
        refine Go.XK.s (v := .int .i64 (i : Int)) (e_assign rfl) ?_
        refine Go.XK.s (v := .string (B x)) (e_assign rfl) ?_
        refine sl_nil (nrm_k ?_)
        refine sc_seq ?_
        refine sc_reg ?_
        refine Go.XK.s (v := .string (B x)) (e_move rfl) ?_
        refine Go.XK.s (v := .bool (decide (x ≠ []))) (e_sne rfl rfl) ?_
        refine Go.XK.s (v := .bool (decide (x ≠ []))) (e_move rfl) ?_
        refine sl_merge 7 84 (.bool ((decide (x ≠ [])) && (decide (y ≠ x)))) ?_ ?_
        · refine sl_case (t := 77) rfl (fun g17_2 => ?_) (fun g17_2 => ?_)
          ·
            refine sl_gev (v := .slice AIk o.length cIk) rfl rfl g17_2 (e_move rfl) rfl (by decide) ?_
            refine sl_gev (v := .int .i64 (i : Int)) rfl rfl g17_2 (e_move rfl) rfl (by decide) ?_
            refine sl_gev (v := .pointer (some (el (ownA (.slice AIk o.length cIk)) 1 (i : Int) 0))) rfl rfl g17_2 (e_idxOwn (x0 := y) Try.underlying23 Try.sizeOf9 rfl rfl hoIk (fun _ => rfl) hy (by omega)) rfl (by decide) ?_
            refine sl_gev (v := .string (B y)) rfl rfl g17_2 (e_ldEl (xs := o) (enc := encS) (e := y) rfl (Go.XK.Own.rd hoIk (fun _ => rfl)) hy Try.isAgg9 rfl) rfl (by decide) ?_
            refine sl_gev (v := .string (B x)) rfl rfl g17_2 (e_move rfl) rfl (by decide) ?_
            refine sl_gev (v := .bool (decide (y ≠ x))) rfl rfl g17_2 (e_sne rfl rfl) rfl (by decide) ?_
            refine Go.XK.s (v := .bool (decide (y ≠ x))) (e_pickT rfl g17_2 rfl) ?_
            exact sl_nil (fun a ha => ⟨rfl, ha.sub (.cons (by rw [g17_2]; rfl) (sub_self_cons (sub_self_cons (sub_self_cons (sub_self_cons (sub_self_cons (sub_self_cons (sub_self_cons (Sub.refl _) rfl) rfl) rfl) rfl) rfl) rfl) rfl))⟩)
          ·
            refine sl_gskip rfl rfl g17_2 (by decide) ?_
            refine sl_gskip rfl rfl g17_2 (by decide) ?_
            refine sl_gskip rfl rfl g17_2 (by decide) ?_
            refine sl_gskip rfl rfl g17_2 (by decide) ?_
            refine sl_gskip rfl rfl g17_2 (by decide) ?_
            refine sl_gskip rfl rfl g17_2 (by decide) ?_
            refine Go.XK.s (v := .bool false) (e_pickF rfl g17_2 rfl) ?_
            exact sl_nil (fun a ha => ⟨rfl, ha.sub (.cons (by rw [g17_2]; rfl) (sub_self_cons (sub_self_cons (sub_self_cons (sub_self_cons (sub_self_cons (sub_self_cons (sub_self_cons (Sub.refl _) rfl) rfl) rfl) rfl) rfl) rfl) rfl))⟩)
        refine sl_nil (nrm_k ?_)
        refine sc_no rfl (by exact keep_no hyx) ?_
        refine sc_skip (nrm_k ?_)
        refine sc_reg ?_
        refine Go.XK.s (v := .int .i64 ((i : Int) + 1)) (e_add rfl rfl (by omega)) ?_
        refine Go.XK.s (v := .int .i64 ((i : Int) + 1)) (e_move rfl) ?_
        refine sl_nil ?_
        exact nrm_loopq rfl _ _ (by omega) ⟨i + 1, rfl, rfl, xw_w10, hoIk, (by omega)⟩ (.cons rfl (.cons rfl (.cons rfl (.cons rfl (.cons rfl (.cons rfl (.nil)))))))
      ·
        refine sc_exit rfl (nrm_k ?_)
        refine sc_seq ?_
        refine sc_reg ?_
        refine Go.XK.s (v := .bool true) (e_assign rfl) ?_
        refine sl_nil (nrm_k ?_)
        refine sc_retf rfl (ret1 Try.results6 (rvt rfl) ?_)
        exact ⟨rfl, xw_w10⟩

/-- slices.Clone[[]masterdisc/api.Write,masterdisc/api.Write] (function 29) -/
theorem clonew_c (ws : List Wr) (Aw : Option Addr) (cw : Nat) (w : World) (hw : SlR w Aw cw 4 encW ws) (him : ws.length ≤ 1000000) : CallR Try.prog 29 [.slice Aw ws.length cw] w (fun v w' => Go.XK.Own w' w.heap.size 49 4 encW v ws ∧ Ext w w') := by
  refine callR_of (n := 8) [(0, .slice Aw ws.length cw)] Try.func29 rfl rfl (Nat.le_of_ble_eq_true rfl) rfl ?_
  refine sc_seq ?_
  refine sc_reg ?_
  refine Go.XK.s (v := .slice none 0 0) (e_assign rfl) ?_
  refine sl_nil (nrm_k ?_)
  refine sc_seq ?_
  refine sc_seq ?_
  refine sc_reg ?_
  refine Go.XK.s (v := .slice Aw ws.length cw) (e_move rfl) ?_
  refine Go.XK.s (v := .bool (decide (Aw = none))) (e_sleqnil Try.underlying24 rfl rfl) ?_
  refine sl_nil (nrm_k ?_)
  refine sc_ifd rfl (fun c4 => ?_) (fun c4 => ?_)
  ·
    refine sc_seq ?_
    refine sc_reg ?_
    refine Go.XK.s (v := .slice none 0 0) (e_assign rfl) ?_
    refine sl_nil (nrm_k ?_)
    refine sc_retf rfl (ret1 Try.results29 (rvt rfl) ?_)
    obtain ⟨rfl, rfl⟩ := hw.none_ c4
    exact ⟨Go.XK.Own.nil _ _ _ _ _, (Ext.rfl' w)⟩
  ·
    refine sc_skip (nrm_k ?_)
    refine sc_seq ?_
    refine sc_reg ?_
    refine s_bslice (vs := []) (e := 49) rfl [] (by kernel_rfl) ?_
    intro b5 w1 hb5 he5 hs5 hx5
    have ge_b5 : w.heap.size ≤ b5 := by have h_ := (Below.size (Ext.rfl' w)); omega
    have xw_w1 : Ext w w1 := Ext.tr (Ext.rfl' w) hx5
    have ho5 : Go.XK.Own w1 w.heap.size 49 4 encW (.slice (some ⟨b5, 0, none⟩) 0 0) [] := Go.XK.Own.ofBlk (xs := []) hb5 ge_b5 (fun _ => rfl) (by simp)
    refine Go.XK.s (v := .slice Aw ws.length cw) (e_move rfl) ?_
    refine s_appendRd (w0 := w) (z := .agg #[.int .i64 0, .slice none 0 0, .bool false, .bool false]) (kk := 4) (bytes := 40) rfl rfl Try.underlying24 (by kernel_rfl) rfl (by decide) (fun _ => rfl) one_encW ws ho5 xw_w1 (hw.ext xw_w1) rfl (by simp only [maxLen, List.length_nil]; omega) (by simp only [maxLen, List.length_nil]; omega) ?_
    intro v7 w2 ho7 xw_w2 hg7 hat7
    rw [List.nil_append] at ho7
    refine Go.XK.s (v := v7) (e_assign rfl) ?_
    refine sl_nil (nrm_k ?_)
    refine sc_retf rfl (ret1 Try.results29 (rvt rfl) ?_)
    exact ⟨ho7, xw_w2⟩

/-- masterdisc/masterdisclaw52.PacketwriterJoins (function 7) -/
theorem joins_c (im : Img) (A : Option Addr) (c : Nat) (wa : List Wr) (Aa : Option Addr) (ca : Nat) (wb : List Wr) (Ab : Option Addr) (cb : Nat) (z : Int) (w : World) (hl : SlR w A c 1 encS im) (hwa : SlR w Aa ca 4 encW wa) (hia : Inn w wa) (hwb : SlR w Ab cb 4 encW wb) (hib : Inn w wb) : CallR Try.prog 7 [.slice A im.length c, .slice Aa wa.length ca, .slice Ab wb.length cb, .int .i64 z] w (fun v w' => v = .bool true ∧ Ext w w') := by
  have hmx0 := hl.lenle
  simp only [maxLen] at hmx0
  have hmx1 := hwa.lenle
  simp only [maxLen] at hmx1
  have hmx2 := hwb.lenle
  simp only [maxLen] at hmx2
  refine callR_of (n := 119) [(0, .slice A im.length c), (1, .slice Aa wa.length ca), (2, .slice Ab wb.length cb), (3, .int .i64 z)] Try.func7 rfl rfl (Nat.le_of_ble_eq_true rfl) rfl ?_
  refine sc_seq ?_
  refine sc_reg ?_
  refine Go.XK.s (v := .bool false) (e_assign rfl) ?_
  refine sl_nil (nrm_k ?_)
  refine sc_seq ?_
  refine sc_seq ?_
  refine sc_reg ?_
  refine sl_call ent11 rfl rfl (awake_c w) (by decide) ?_
  rintro _ w1 ⟨rfl, hw1⟩
  have xw_w1 : Ext w w1 := Ext.tr (Ext.rfl' w) hw1
  refine Go.XK.s (v := .bool false) (e_not (b := true) rfl) ?_
  refine sl_nil (nrm_k ?_)
  refine sc_no rfl rfl ?_
  refine sc_skip (nrm_k ?_)
  refine sc_seq ?_
  refine sc_seq ?_
  refine sc_reg ?_
  refine Go.XK.s (v := .slice A im.length c) (e_move rfl) ?_
  refine Go.XK.s (v := .slice Aa wa.length ca) (e_move rfl) ?_
  refine sl_call ent12 rfl rfl (few_c _ _ _ _ _ _ w1 (hl.ext xw_w1) (hwa.ext xw_w1) (Inn.ext hia xw_w1)) (by decide) ?_
  rintro _ w2 ⟨rfl, hw2⟩
  have xw_w2 : Ext w w2 := Ext.tr xw_w1 hw2
  refine Go.XK.s (v := .bool (!(few im wa))) (e_not rfl) ?_
  refine Go.XK.s (v := .bool (!(few im wa))) (e_move rfl) ?_
  refine sl_mergeW 5 28 (.bool ((!(few im wa)) || (!(few im wb)))) (fun w_ => Ext w2 w_) ?_ (fun w3 hw3 => ?_)
  · refine sl_case (t := 23) rfl (fun g3_4 => ?_) (fun g3_4 => ?_)
    ·
      refine sl_gskip rfl rfl g3_4 (by decide) ?_
      refine sl_gskip rfl rfl g3_4 (by decide) ?_
      refine sl_gskip rfl rfl g3_4 (by decide) ?_
      refine sl_gskip rfl rfl g3_4 (by decide) ?_
      refine Go.XK.s (v := .bool true) (e_pickT rfl g3_4 rfl) ?_
      exact sl_nil (fun a ha => ⟨(Ext.rfl' w2), ha.sub (.cons (by rw [g3_4]; rfl) (sub_self_cons (sub_self_cons (sub_self_cons (sub_self_cons (sub_self_cons (Sub.refl _) rfl) rfl) rfl) rfl) rfl))⟩)
    ·
      refine sl_gev (v := .slice A im.length c) rfl rfl g3_4 (e_move rfl) rfl (by decide) ?_
      refine sl_gev (v := .slice Ab wb.length cb) rfl rfl g3_4 (e_move rfl) rfl (by decide) ?_
      refine sl_gcall rfl rfl g3_4 ent12 rfl rfl (few_c _ _ _ _ _ _ w2 (hl.ext xw_w2) (hwb.ext xw_w2) (Inn.ext hib xw_w2)) (by decide) ?_
      rintro _ w4 ⟨rfl, hw4⟩
      have xw_w4 : Ext w w4 := Ext.tr xw_w2 hw4
      have xw2_w4 : Ext w2 w4 := Ext.tr (Ext.rfl' w2) hw4
      refine sl_gev (v := .bool (!(few im wb))) rfl rfl g3_4 (e_not rfl) rfl (by decide) ?_
      refine Go.XK.s (v := .bool (!(few im wb))) (e_pickF rfl g3_4 rfl) ?_
      exact sl_nil (fun a ha => ⟨xw2_w4, ha.sub (.cons (by rw [g3_4]; rfl) (sub_self_cons (sub_self_cons (sub_self_cons (sub_self_cons (sub_self_cons (Sub.refl _) rfl) rfl) rfl) rfl) rfl))⟩)
  have xw_w3 : Ext w w3 := Ext.tr xw_w2 hw3
  refine Go.XK.s (v := .bool ((!(few im wa)) || (!(few im wb)))) (e_move rfl) ?_
  refine sl_mergeW 5 34 (.bool (((!(few im wa)) || (!(few im wb))) || (!(valid im wa)))) (fun w_ => Ext w3 w_) ?_ (fun w5 hw5 => ?_)
  · refine sl_case (t := 29) rfl (fun g3_10 => ?_) (fun g3_10 => ?_)
    ·
      refine sl_gskip rfl rfl g3_10 (by decide) ?_
      refine sl_gskip rfl rfl g3_10 (by decide) ?_
      refine sl_gskip rfl rfl g3_10 (by decide) ?_
      refine sl_gskip rfl rfl g3_10 (by decide) ?_
      refine Go.XK.s (v := .bool true) (e_pickT rfl g3_10 rfl) ?_
      exact sl_nil (fun a ha => ⟨(Ext.rfl' w3), ha.sub (.cons (by rw [g3_10]; rfl) (sub_self_cons (sub_self_cons (sub_self_cons (sub_self_cons (sub_self_cons (Sub.refl _) rfl) rfl) rfl) rfl) rfl))⟩)
    ·
      refine sl_gev (v := .slice A im.length c) rfl rfl g3_10 (e_move rfl) rfl (by decide) ?_
      refine sl_gev (v := .slice Aa wa.length ca) rfl rfl g3_10 (e_move rfl) rfl (by decide) ?_
      refine sl_gcall rfl rfl g3_10 ent18 rfl rfl (rvalid_c _ _ _ _ _ _ w3 (hl.ext xw_w3) (hwa.ext xw_w3) (Inn.ext hia xw_w3)) (by decide) ?_
      rintro _ w6 ⟨rfl, hw6⟩
      have xw_w6 : Ext w w6 := Ext.tr xw_w3 hw6
      have xw3_w6 : Ext w3 w6 := Ext.tr (Ext.rfl' w3) hw6
      refine sl_gev (v := .bool (!(valid im wa))) rfl rfl g3_10 (e_not rfl) rfl (by decide) ?_
      refine Go.XK.s (v := .bool (!(valid im wa))) (e_pickF rfl g3_10 rfl) ?_
      exact sl_nil (fun a ha => ⟨xw3_w6, ha.sub (.cons (by rw [g3_10]; rfl) (sub_self_cons (sub_self_cons (sub_self_cons (sub_self_cons (sub_self_cons (Sub.refl _) rfl) rfl) rfl) rfl) rfl))⟩)
  have xw_w5 : Ext w w5 := Ext.tr xw_w3 hw5
  refine Go.XK.s (v := .bool (((!(few im wa)) || (!(few im wb))) || (!(valid im wa)))) (e_move rfl) ?_
  refine sl_mergeW 5 40 (.bool ((((!(few im wa)) || (!(few im wb))) || (!(valid im wa))) || (!(valid im wb)))) (fun w_ => Ext w5 w_) ?_ (fun w7 hw7 => ?_)
  · refine sl_case (t := 35) rfl (fun g3_16 => ?_) (fun g3_16 => ?_)
    ·
      refine sl_gskip rfl rfl g3_16 (by decide) ?_
      refine sl_gskip rfl rfl g3_16 (by decide) ?_
      refine sl_gskip rfl rfl g3_16 (by decide) ?_
      refine sl_gskip rfl rfl g3_16 (by decide) ?_
      refine Go.XK.s (v := .bool true) (e_pickT rfl g3_16 rfl) ?_
      exact sl_nil (fun a ha => ⟨(Ext.rfl' w5), ha.sub (.cons (by rw [g3_16]; rfl) (sub_self_cons (sub_self_cons (sub_self_cons (sub_self_cons (sub_self_cons (Sub.refl _) rfl) rfl) rfl) rfl) rfl))⟩)
    ·
      refine sl_gev (v := .slice A im.length c) rfl rfl g3_16 (e_move rfl) rfl (by decide) ?_
      refine sl_gev (v := .slice Ab wb.length cb) rfl rfl g3_16 (e_move rfl) rfl (by decide) ?_
      refine sl_gcall rfl rfl g3_16 ent18 rfl rfl (rvalid_c _ _ _ _ _ _ w5 (hl.ext xw_w5) (hwb.ext xw_w5) (Inn.ext hib xw_w5)) (by decide) ?_
      rintro _ w8 ⟨rfl, hw8⟩
      have xw_w8 : Ext w w8 := Ext.tr xw_w5 hw8
      have xw5_w8 : Ext w5 w8 := Ext.tr (Ext.rfl' w5) hw8
      refine sl_gev (v := .bool (!(valid im wb))) rfl rfl g3_16 (e_not rfl) rfl (by decide) ?_
      refine Go.XK.s (v := .bool (!(valid im wb))) (e_pickF rfl g3_16 rfl) ?_
      exact sl_nil (fun a ha => ⟨xw5_w8, ha.sub (.cons (by rw [g3_16]; rfl) (sub_self_cons (sub_self_cons (sub_self_cons (sub_self_cons (sub_self_cons (Sub.refl _) rfl) rfl) rfl) rfl) rfl))⟩)
  have xw_w7 : Ext w w7 := Ext.tr xw_w5 hw7
  refine sl_nil (nrm_k ?_)
  refine sc_if rfl (fun c40 => ?_) (fun c40 => ?_)
  ·
    refine sc_seq ?_
    refine sc_reg ?_
    refine Go.XK.s (v := .bool true) (e_assign rfl) ?_
    refine sl_nil (nrm_k ?_)
    refine sc_retf rfl (ret1 Try.results7 (rvt rfl) ?_)
    first | exact ⟨rfl, xw_w7⟩ | exact ⟨congrArg Value.bool (decide_eq_true hex), xw_w7⟩ | exact ⟨by rw [← e1_, ← e2_, ← e3_, ← e4_]; simp, xw_w7⟩
  ·
    have hfo : ((few im wa = true ∧ few im wb = true) ∧ valid im wa = true) ∧ valid im wb = true := by simpa using c40
    obtain ⟨⟨⟨hfa, hfb⟩, hva⟩, hvb⟩ := hfo
    obtain ⟨hfa1, hfa2, hfa3⟩ := few_spec hfa
    obtain ⟨hfb1, hfb2, hfb3⟩ := few_spec hfb
    obtain ⟨f1, hf1⟩ : ∃ f1, f1 = runL (stL wa) im := ⟨_, rfl⟩
    obtain ⟨f2, hf2⟩ : ∃ f2, f2 = runL (stL wb) f1 := ⟨_, rfl⟩
    have hr1 : cutR im wa ((stL wa).length : Int) = (f1, 0) := by rw [hf1]; exact rec_ok hva
    have hvf : valid f1 wb = true := by rw [hf1]; exact valid_run hva hvb
    have hr2 : cutR f1 wb ((stL wb).length : Int) = (f2, 0) := by rw [hf2]; exact rec_ok hvf
    have hvab : valid im (wa ++ wb) = true := valid_app hva hvb (by omega)
    have hr3 : cutR im (wa ++ wb) ((stL (wa ++ wb)).length : Int) = (f2, 0) := by rw [rec_ok hvab, stL_app, runL_app, hf2, hf1]
    have hlab : (stL (wa ++ wb)).length = (stL wa).length + (stL wb).length := by rw [stL_app, List.length_append]
    refine sc_skip (nrm_k ?_)
    refine sc_seq ?_
    refine sc_reg ?_
    refine Go.XK.s (v := .slice A im.length c) (e_move rfl) ?_
    refine Go.XK.s (v := .slice Aa wa.length ca) (e_move rfl) ?_
    refine sl_call ent14 rfl rfl (record_d _ _ _ _ _ _ w7 (hl.ext xw_w7) (hwa.ext xw_w7) (Inn.ext hia xw_w7) (by omega) hr1) (by decide) ?_
    rintro _ w9 ⟨vIp, rfl, hoIp, hw9⟩
    replace hoIp := Own.low hoIp (Below.size xw_w7)
    have xw_w9 : Ext w w9 := Ext.tr xw_w7 hw9
    obtain ⟨AIp, cIp, eIp_, hlcIp, hcmIp, _⟩ := Go.XK.Own.shape hoIp (fun _ => rfl)
    subst eIp_
    refine Go.XK.s (v := .tuple #[.slice AIp f1.length cIp, .int .i64 0]) (e_move rfl) ?_
    refine Go.XK.s (v := .slice AIp f1.length cIp) (e_extract (vs := [.slice AIp f1.length cIp, .int .i64 0]) rfl rfl) ?_
    refine Go.XK.s (v := .int .i64 0) (e_extract (vs := [.slice AIp f1.length cIp, .int .i64 0]) rfl rfl) ?_
    refine Go.XK.s (v := .slice AIp f1.length cIp) (e_assign rfl) ?_
    refine Go.XK.s (v := .int .i64 0) (e_assign rfl) ?_
    refine sl_nil (nrm_k ?_)
    refine sc_seq ?_
    refine sc_reg ?_
    refine Go.XK.s (v := .slice AIp f1.length cIp) (e_move rfl) ?_
    refine Go.XK.s (v := .slice Ab wb.length cb) (e_move rfl) ?_
    refine sl_call ent14 rfl rfl (record_d _ _ _ _ _ _ w9 (Go.XK.Own.slr hoIp (fun _ => rfl)) (hwb.ext xw_w9) (Inn.ext hib xw_w9) (by omega) hr2) (by decide) ?_
    rintro _ w10 ⟨vIq, rfl, hoIq, hw10⟩
    replace hoIq := Own.low hoIq (Below.size xw_w9)
    have xw_w10 : Ext w w10 := Ext.tr xw_w9 hw10
    replace hoIp := hoIp.ext hw10
    obtain ⟨AIq, cIq, eIq_, hlcIq, hcmIq, _⟩ := Go.XK.Own.shape hoIq (fun _ => rfl)
    subst eIq_
    refine Go.XK.s (v := .tuple #[.slice AIq f2.length cIq, .int .i64 0]) (e_move rfl) ?_
    refine Go.XK.s (v := .slice AIq f2.length cIq) (e_extract (vs := [.slice AIq f2.length cIq, .int .i64 0]) rfl rfl) ?_
    refine Go.XK.s (v := .int .i64 0) (e_extract (vs := [.slice AIq f2.length cIq, .int .i64 0]) rfl rfl) ?_
    refine Go.XK.s (v := .slice AIq f2.length cIq) (e_assign rfl) ?_
    refine Go.XK.s (v := .int .i64 0) (e_assign rfl) ?_
    refine sl_nil (nrm_k ?_)
    refine sc_seq ?_
    refine sc_reg ?_
    refine Go.XK.s (v := .slice A im.length c) (e_move rfl) ?_
    refine Go.XK.s (v := .slice Aa wa.length ca) (e_move rfl) ?_
    refine sl_call ent29 rfl rfl (clonew_c _ _ _ w10 (hwa.ext xw_w10) (by omega)) (by decide) ?_
    rintro vCW w11 ⟨hoCW, hw11⟩
    replace hoCW := Own.low hoCW (Below.size xw_w10)
    have xw_w11 : Ext w w11 := Ext.tr xw_w10 hw11
    replace hoIp := hoIp.ext hw11
    replace hoIq := hoIq.ext hw11
    refine Go.XK.s (v := .slice Ab wb.length cb) (e_move rfl) ?_
    refine s_appendRd (w0 := w) (z := .agg #[.int .i64 0, .slice none 0 0, .bool false, .bool false]) (kk := 4) (bytes := 40) rfl rfl Try.underlying24 (by kernel_rfl) rfl (by decide) (fun _ => rfl) one_encW wb hoCW xw_w11 (hwb.ext xw_w11) rfl (by first | (simp only [maxLen]; omega) | omega) (by first | (simp only [maxLen]; omega) | omega) ?_
    intro v58 w12 ho58 xw_w12 hg58 hat58
    replace hoIp := Go.XK.Own.other hoIp hoCW hg58 (by decide)
    replace hoIq := Go.XK.Own.other hoIq hoCW hg58 (by decide)
    obtain ⟨AJ12, cJ12, eJ12_, hlcJ12, hcmJ12, _⟩ := Go.XK.Own.shape ho58 (fun _ => rfl)
    subst eJ12_
    refine sl_call ent14 rfl rfl (record_d _ _ _ _ _ _ w12 (hl.ext xw_w12) (Go.XK.Own.slr ho58 (fun _ => rfl)) (Inn.app (Inn.ext hia xw_w12) (Inn.ext hib xw_w12)) (by omega) hr3) (by decide) ?_
    rintro _ w13 ⟨vIr, rfl, hoIr, hw13⟩
    replace hoIr := Own.low hoIr (Below.size xw_w12)
    have xw_w13 : Ext w w13 := Ext.tr xw_w12 hw13
    replace hoIp := hoIp.ext hw13
    replace hoIq := hoIq.ext hw13
    replace ho58 := ho58.ext hw13
    obtain ⟨AIr, cIr, eIr_, hlcIr, hcmIr, _⟩ := Go.XK.Own.shape hoIr (fun _ => rfl)
    subst eIr_
    refine Go.XK.s (v := .tuple #[.slice AIr f2.length cIr, .int .i64 0]) (e_move rfl) ?_
    refine Go.XK.s (v := .slice AIr f2.length cIr) (e_extract (vs := [.slice AIr f2.length cIr, .int .i64 0]) rfl rfl) ?_
    refine Go.XK.s (v := .int .i64 0) (e_extract (vs := [.slice AIr f2.length cIr, .int .i64 0]) rfl rfl) ?_
    refine Go.XK.s (v := .slice AIr f2.length cIr) (e_assign rfl) ?_
    refine Go.XK.s (v := .int .i64 0) (e_assign rfl) ?_
    refine sl_nil (nrm_k ?_)
    refine sc_seq ?_
    refine sc_seq ?_
    refine sc_reg ?_
    refine Go.XK.s (v := .int .i64 0) (e_move rfl) ?_
    refine Go.XK.s (v := .bool (decide ((0 : Int) ≠ 0))) (e_ne rfl rfl) ?_
    refine Go.XK.s (v := .bool (decide ((0 : Int) ≠ 0))) (e_move rfl) ?_
    refine sl_gev (v := .int .i64 0) rfl rfl (by decide) (e_move rfl) rfl (by decide) ?_
    refine sl_gev (v := .bool (decide ((0 : Int) ≠ 0))) rfl rfl (by decide) (e_ne rfl rfl) rfl (by decide) ?_
    refine Go.XK.s (v := .bool (decide ((0 : Int) ≠ 0))) (e_pickF rfl (by decide) rfl) ?_
    refine Go.XK.s (v := .bool (decide ((0 : Int) ≠ 0))) (e_move rfl) ?_
    refine sl_gev (v := .int .i64 0) rfl rfl (by decide) (e_move rfl) rfl (by decide) ?_
    refine sl_gev (v := .bool (decide ((0 : Int) ≠ 0))) rfl rfl (by decide) (e_ne rfl rfl) rfl (by decide) ?_
    refine Go.XK.s (v := .bool (decide ((0 : Int) ≠ 0))) (e_pickF rfl (by decide) rfl) ?_
    refine Go.XK.s (v := .bool (decide ((0 : Int) ≠ 0))) (e_move rfl) ?_
    refine sl_gev (v := .slice AIq f2.length cIq) rfl rfl (by decide) (e_move rfl) rfl (by decide) ?_
    refine sl_gev (v := .slice AIr f2.length cIr) rfl rfl (by decide) (e_move rfl) rfl (by decide) ?_
    refine sl_gcall rfl rfl (by decide) ent30 rfl rfl (equal_c _ _ _ _ _ _ w13 (Go.XK.Own.slr hoIq (fun _ => rfl)) (Go.XK.Own.slr hoIr (fun _ => rfl))) (by decide) ?_
    rintro _ w14 ⟨rfl, hw14⟩
    have xw_w14 : Ext w w14 := Ext.tr xw_w13 hw14
    replace hoIp := hoIp.ext hw14
    replace hoIq := hoIq.ext hw14
    replace ho58 := ho58.ext hw14
    replace hoIr := hoIr.ext hw14
    refine sl_gev (v := .bool (!(decide (f2 = f2)))) rfl rfl (by decide) (e_not rfl) rfl (by decide) ?_
    refine Go.XK.s (v := .bool (!(decide (f2 = f2)))) (e_pickF rfl (by decide) rfl) ?_
    refine sl_nil (nrm_k ?_)
    refine sc_no rfl (by simp) ?_
    refine sc_skip (nrm_k ?_)
    refine sc_seq ?_
    obtain ⟨x1, ex1, hx1⟩ : ∃ x1 ex1, cutR f1 wb z = (x1, ex1) := ⟨_, _, rfl⟩
    obtain ⟨x2, ex2, hx2⟩ : ∃ x2 ex2, cutR im (wa ++ wb) (IntKind.i64.wrap (((stL wa).length : Int) + z)) = (x2, ex2) := ⟨_, _, rfl⟩
    refine sc_reg ?_
    refine Go.XK.s (v := .slice AIp f1.length cIp) (e_move rfl) ?_
    refine Go.XK.s (v := .slice Ab wb.length cb) (e_move rfl) ?_
    refine Go.XK.s (v := .int .i64 z) (e_move rfl) ?_
    refine sl_call ent16 rfl rfl (cut_d _ _ _ _ _ _ _ w14 (Go.XK.Own.slr hoIp (fun _ => rfl)) (hwb.ext xw_w14) (Inn.ext hib xw_w14) hx1) (by decide) ?_
    rintro _ w15 ⟨vIs, rfl, hoIs, hw15⟩
    replace hoIs := Own.low hoIs (Below.size xw_w14)
    have xw_w15 : Ext w w15 := Ext.tr xw_w14 hw15
    replace hoIp := hoIp.ext hw15
    replace hoIq := hoIq.ext hw15
    replace ho58 := ho58.ext hw15
    replace hoIr := hoIr.ext hw15
    obtain ⟨AIs, cIs, eIs_, hlcIs, hcmIs, _⟩ := Go.XK.Own.shape hoIs (fun _ => rfl)
    subst eIs_
    refine Go.XK.s (v := .tuple #[.slice AIs x1.length cIs, .int .i64 ex1]) (e_move rfl) ?_
    refine Go.XK.s (v := .slice AIs x1.length cIs) (e_extract (vs := [.slice AIs x1.length cIs, .int .i64 ex1]) rfl rfl) ?_
    refine Go.XK.s (v := .int .i64 ex1) (e_extract (vs := [.slice AIs x1.length cIs, .int .i64 ex1]) rfl rfl) ?_
    refine Go.XK.s (v := .slice AIs x1.length cIs) (e_assign rfl) ?_
    refine Go.XK.s (v := .int .i64 ex1) (e_assign rfl) ?_
    refine sl_nil (nrm_k ?_)
    refine sc_seq ?_
    refine sc_reg ?_
    refine Go.XK.s (v := .slice A im.length c) (e_move rfl) ?_
    refine Go.XK.s (v := .slice Aa wa.length ca) (e_move rfl) ?_
    refine sl_call ent29 rfl rfl (clonew_c _ _ _ w15 (hwa.ext xw_w15) (by omega)) (by decide) ?_
    rintro vCW w16 ⟨hoCW, hw16⟩
    replace hoCW := Own.low hoCW (Below.size xw_w15)
    have xw_w16 : Ext w w16 := Ext.tr xw_w15 hw16
    replace hoIp := hoIp.ext hw16
    replace hoIq := hoIq.ext hw16
    replace ho58 := ho58.ext hw16
    replace hoIr := hoIr.ext hw16
    replace hoIs := hoIs.ext hw16
    refine Go.XK.s (v := .slice Ab wb.length cb) (e_move rfl) ?_
    refine s_appendRd (w0 := w) (z := .agg #[.int .i64 0, .slice none 0 0, .bool false, .bool false]) (kk := 4) (bytes := 40) rfl rfl Try.underlying24 (by kernel_rfl) rfl (by decide) (fun _ => rfl) one_encW wb hoCW xw_w16 (hwb.ext xw_w16) rfl (by first | (simp only [maxLen]; omega) | omega) (by first | (simp only [maxLen]; omega) | omega) ?_
    intro v90 w17 ho90 xw_w17 hg90 hat90
    replace hoIp := Go.XK.Own.other hoIp hoCW hg90 (by decide)
    replace hoIq := Go.XK.Own.other hoIq hoCW hg90 (by decide)
    replace hoIr := Go.XK.Own.other hoIr hoCW hg90 (by decide)
    replace hoIs := Go.XK.Own.other hoIs hoCW hg90 (by decide)
    obtain ⟨AJ13, cJ13, eJ13_, hlcJ13, hcmJ13, _⟩ := Go.XK.Own.shape ho90 (fun _ => rfl)
    subst eJ13_
    refine Go.XK.s (v := .slice Aa wa.length ca) (e_move rfl) ?_
    refine sl_call ent13 rfl rfl (rsteps_c _ _ _ w17 (hwa.ext xw_w17) (Inn.ext hia xw_w17) (by omega)) (by decide) ?_
    rintro _ w18 ⟨rfl, hw18⟩
    have xw_w18 : Ext w w18 := Ext.tr xw_w17 hw18
    replace hoIp := hoIp.ext hw18
    replace hoIq := hoIq.ext hw18
    replace hoIr := hoIr.ext hw18
    replace hoIs := hoIs.ext hw18
    replace ho90 := ho90.ext hw18
    refine Go.XK.s (v := .int .i64 z) (e_move rfl) ?_
    refine Go.XK.s (v := .int .i64 (IntKind.i64.wrap (((stL wa).length : Int) + z))) (e_addw rfl rfl) ?_
    refine sl_call ent16 rfl rfl (cut_d _ _ _ _ _ _ _ w18 (hl.ext xw_w18) (Go.XK.Own.slr ho90 (fun _ => rfl)) (Inn.app (Inn.ext hia xw_w18) (Inn.ext hib xw_w18)) hx2) (by decide) ?_
    rintro _ w19 ⟨vIt, rfl, hoIt, hw19⟩
    replace hoIt := Own.low hoIt (Below.size xw_w18)
    have xw_w19 : Ext w w19 := Ext.tr xw_w18 hw19
    replace hoIp := hoIp.ext hw19
    replace hoIq := hoIq.ext hw19
    replace hoIr := hoIr.ext hw19
    replace hoIs := hoIs.ext hw19
    replace ho90 := ho90.ext hw19
    obtain ⟨AIt, cIt, eIt_, hlcIt, hcmIt, _⟩ := Go.XK.Own.shape hoIt (fun _ => rfl)
    subst eIt_
    refine Go.XK.s (v := .tuple #[.slice AIt x2.length cIt, .int .i64 ex2]) (e_move rfl) ?_
    refine Go.XK.s (v := .slice AIt x2.length cIt) (e_extract (vs := [.slice AIt x2.length cIt, .int .i64 ex2]) rfl rfl) ?_
    refine Go.XK.s (v := .int .i64 ex2) (e_extract (vs := [.slice AIt x2.length cIt, .int .i64 ex2]) rfl rfl) ?_
    refine Go.XK.s (v := .slice AIt x2.length cIt) (e_assign rfl) ?_
    refine Go.XK.s (v := .int .i64 ex2) (e_assign rfl) ?_
    refine sl_nil (nrm_k ?_)
    refine sc_seq ?_
    refine sc_seq ?_
    refine sc_reg ?_
    refine Go.XK.s (v := .int .i64 z) (e_move rfl) ?_
    refine Go.XK.s (v := .bool (decide (z < 0))) (e_lt rfl rfl) ?_
    refine Go.XK.s (v := .bool (decide (z < 0))) (e_move rfl) ?_
    refine sl_mergeW 5 105 (.bool ((decide (z < 0)) || (decide (((stL wb).length : Int) < z)))) (fun w_ => Ext w19 w_) ?_ (fun w20 hw20 => ?_)
    · refine sl_case (t := 100) rfl (fun g12_2 => ?_) (fun g12_2 => ?_)
      ·
        refine sl_gskip rfl rfl g12_2 (by decide) ?_
        refine sl_gskip rfl rfl g12_2 (by decide) ?_
        refine sl_gskip rfl rfl g12_2 (by decide) ?_
        refine sl_gskip rfl rfl g12_2 (by decide) ?_
        refine Go.XK.s (v := .bool true) (e_pickT rfl g12_2 rfl) ?_
        exact sl_nil (fun a ha => ⟨(Ext.rfl' w19), ha.sub (.cons (by rw [g12_2]; rfl) (sub_self_cons (sub_self_cons (sub_self_cons (sub_self_cons (sub_self_cons (Sub.refl _) rfl) rfl) rfl) rfl) rfl))⟩)
      ·
        refine sl_gev (v := .int .i64 z) rfl rfl g12_2 (e_move rfl) rfl (by decide) ?_
        refine sl_gev (v := .slice Ab wb.length cb) rfl rfl g12_2 (e_move rfl) rfl (by decide) ?_
        refine sl_gcall rfl rfl g12_2 ent13 rfl rfl (rsteps_c _ _ _ w19 (hwb.ext xw_w19) (Inn.ext hib xw_w19) (by omega)) (by decide) ?_
        rintro _ w21 ⟨rfl, hw21⟩
        have xw_w21 : Ext w w21 := Ext.tr xw_w19 hw21
        have xw19_w21 : Ext w19 w21 := Ext.tr (Ext.rfl' w19) hw21
        replace hoIp := hoIp.ext hw21
        replace hoIq := hoIq.ext hw21
        replace hoIr := hoIr.ext hw21
        replace hoIs := hoIs.ext hw21
        replace ho90 := ho90.ext hw21
        replace hoIt := hoIt.ext hw21
        refine sl_gev (v := .bool (decide (((stL wb).length : Int) < z))) rfl rfl g12_2 (e_gt rfl rfl) rfl (by decide) ?_
        refine Go.XK.s (v := .bool (decide (((stL wb).length : Int) < z))) (e_pickF rfl g12_2 rfl) ?_
        exact sl_nil (fun a ha => ⟨xw19_w21, ha.sub (.cons (by rw [g12_2]; rfl) (sub_self_cons (sub_self_cons (sub_self_cons (sub_self_cons (sub_self_cons (Sub.refl _) rfl) rfl) rfl) rfl) rfl))⟩)
    have xw_w20 : Ext w w20 := Ext.tr xw_w19 hw20
    replace hoIp := hoIp.ext hw20
    replace hoIq := hoIq.ext hw20
    replace hoIr := hoIr.ext hw20
    replace hoIs := hoIs.ext hw20
    replace ho90 := ho90.ext hw20
    replace hoIt := hoIt.ext hw20
    refine sl_nil (nrm_k ?_)
    refine sc_if rfl (fun c105 => ?_) (fun c105 => ?_)
    ·
      have hrg : z < 0 ∨ ((stL wb).length : Int) < z := by simpa using c105
      have hex : ex1 = 2 := by rw [cutR_range hvf hrg] at hx1; exact (Prod.mk.inj hx1).2.symm
      refine sc_seq ?_
      refine sc_reg ?_
      refine Go.XK.s (v := .int .i64 ex1) (e_move rfl) ?_
      refine Go.XK.s (v := .bool (decide (ex1 = 2))) (e_eq rfl rfl) ?_
      refine Go.XK.s (v := .bool (decide (ex1 = 2))) (e_assign rfl) ?_
      refine sl_nil (nrm_k ?_)
      refine sc_retf rfl (ret1 Try.results7 (rvt rfl) ?_)
      first | exact ⟨rfl, xw_w20⟩ | exact ⟨congrArg Value.bool (decide_eq_true hex), xw_w20⟩ | exact ⟨by rw [← e1_, ← e2_, ← e3_, ← e4_]; simp, xw_w20⟩
    ·
      simp only [Bool.or_eq_false_iff, decide_eq_false_iff_not] at c105
      have hwr : IntKind.i64.wrap (((stL wa).length : Int) + z) = ((stL wa).length : Int) + z := wr64_id (by omega) (by omega)
      rw [hwr, join_cut hva hvb (by omega) (by omega) (by omega), ← hf1] at hx2
      rw [cutR_ok hvf (by omega) (by omega)] at hx1
      obtain ⟨e1_, e2_⟩ := Prod.mk.inj hx1
      obtain ⟨e3_, e4_⟩ := Prod.mk.inj hx2
      refine sc_skip (nrm_k ?_)
      refine sc_seq ?_
      refine sc_reg ?_
      refine Go.XK.s (v := .int .i64 ex1) (e_move rfl) ?_
      refine Go.XK.s (v := .bool (decide (ex1 = 0))) (e_eq rfl rfl) ?_
      refine Go.XK.s (v := .bool (decide (ex1 = 0))) (e_move rfl) ?_
      refine sl_merge 3 113 (.bool ((decide (ex1 = 0)) && (decide (ex2 = 0)))) ?_ ?_
      · refine sl_case (t := 110) rfl (fun g14_2 => ?_) (fun g14_2 => ?_)
        ·
          refine sl_gev (v := .int .i64 ex2) rfl rfl g14_2 (e_move rfl) rfl (by decide) ?_
          refine sl_gev (v := .bool (decide (ex2 = 0))) rfl rfl g14_2 (e_eq rfl rfl) rfl (by decide) ?_
          refine Go.XK.s (v := .bool (decide (ex2 = 0))) (e_pickT rfl g14_2 rfl) ?_
          exact sl_nil (fun a ha => ⟨rfl, ha.sub (.cons (by rw [g14_2]; rfl) (sub_self_cons (sub_self_cons (sub_self_cons (Sub.refl _) rfl) rfl) rfl))⟩)
        ·
          refine sl_gskip rfl rfl g14_2 (by decide) ?_
          refine sl_gskip rfl rfl g14_2 (by decide) ?_
          refine Go.XK.s (v := .bool false) (e_pickF rfl g14_2 rfl) ?_
          exact sl_nil (fun a ha => ⟨rfl, ha.sub (.cons (by rw [g14_2]; rfl) (sub_self_cons (sub_self_cons (sub_self_cons (Sub.refl _) rfl) rfl) rfl))⟩)
      refine Go.XK.s (v := .bool ((decide (ex1 = 0)) && (decide (ex2 = 0)))) (e_move rfl) ?_
      refine sl_mergeW 4 118 (.bool (((decide (ex1 = 0)) && (decide (ex2 = 0))) && (decide (x1 = x2)))) (fun w_ => Ext w20 w_) ?_ (fun w22 hw22 => ?_)
      · refine sl_case (t := 114) rfl (fun g14_6 => ?_) (fun g14_6 => ?_)
        ·
          refine sl_gev (v := .slice AIs x1.length cIs) rfl rfl g14_6 (e_move rfl) rfl (by decide) ?_
          refine sl_gev (v := .slice AIt x2.length cIt) rfl rfl g14_6 (e_move rfl) rfl (by decide) ?_
          refine sl_gcall rfl rfl g14_6 ent30 rfl rfl (equal_c _ _ _ _ _ _ w20 (Go.XK.Own.slr hoIs (fun _ => rfl)) (Go.XK.Own.slr hoIt (fun _ => rfl))) (by decide) ?_
          rintro _ w23 ⟨rfl, hw23⟩
          have xw_w23 : Ext w w23 := Ext.tr xw_w20 hw23
          have xw20_w23 : Ext w20 w23 := Ext.tr (Ext.rfl' w20) hw23
          replace hoIp := hoIp.ext hw23
          replace hoIq := hoIq.ext hw23
          replace hoIr := hoIr.ext hw23
          replace hoIs := hoIs.ext hw23
          replace ho90 := ho90.ext hw23
          replace hoIt := hoIt.ext hw23
          refine Go.XK.s (v := .bool (decide (x1 = x2))) (e_pickT rfl g14_6 rfl) ?_
          exact sl_nil (fun a ha => ⟨xw20_w23, ha.sub (.cons (by rw [g14_6]; rfl) (sub_self_cons (sub_self_cons (sub_self_cons (sub_self_cons (Sub.refl _) rfl) rfl) rfl) rfl))⟩)
        ·
          refine sl_gskip rfl rfl g14_6 (by decide) ?_
          refine sl_gskip rfl rfl g14_6 (by decide) ?_
          refine sl_gskip rfl rfl g14_6 (by decide) ?_
          refine Go.XK.s (v := .bool false) (e_pickF rfl g14_6 rfl) ?_
          exact sl_nil (fun a ha => ⟨(Ext.rfl' w20), ha.sub (.cons (by rw [g14_6]; rfl) (sub_self_cons (sub_self_cons (sub_self_cons (sub_self_cons (Sub.refl _) rfl) rfl) rfl) rfl))⟩)
      have xw_w22 : Ext w w22 := Ext.tr xw_w20 hw22
      replace hoIp := hoIp.ext hw22
      replace hoIq := hoIq.ext hw22
      replace hoIr := hoIr.ext hw22
      replace hoIs := hoIs.ext hw22
      replace ho90 := ho90.ext hw22
      replace hoIt := hoIt.ext hw22
      refine Go.XK.s (v := .bool (((decide (ex1 = 0)) && (decide (ex2 = 0))) && (decide (x1 = x2)))) (e_assign rfl) ?_
      refine sl_nil (nrm_k ?_)
      refine sc_retf rfl (ret1 Try.results7 (rvt rfl) ?_)
      first | exact ⟨rfl, xw_w22⟩ | exact ⟨congrArg Value.bool (decide_eq_true hex), xw_w22⟩ | exact ⟨by rw [← e1_, ← e2_, ← e3_, ← e4_]; simp, xw_w22⟩

end Go.Proofs.Ytfcjianiodiejaa
