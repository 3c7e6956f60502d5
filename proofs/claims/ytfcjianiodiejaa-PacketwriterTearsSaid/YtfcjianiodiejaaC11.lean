/- Chapter 52: C11. Printed by my program wip/tools/wk.py. -/
import Derived.Test.YtfcjianiodiejaaC10
set_option linter.unusedVariables false
set_option linter.unusedSimpArgs false
set_option maxRecDepth 4000
set_option maxHeartbeats 4000000
namespace Go.Proofs.Ytfcjianiodiejaa
open Go.XK Go.RowKit
/-- masterdisc/masterdisclaw52.PacketwriterRecords (function 3) -/
theorem records_c (im : Img) (A : Option Addr) (c : Nat) (ws : List Wr) (Aw : Option Addr) (cw : Nat) (z : Int) (w : World) (hl : SlR w A c 1 encS im) (hw : SlR w Aw cw 4 encW ws) (hin : Inn w ws) : CallR Try.prog 3 [.slice A im.length c, .slice Aw ws.length cw, .int .i64 z] w (fun v w' => v = .bool true ∧ Ext w w') := by
  have hmx0 := hl.lenle
  simp only [maxLen] at hmx0
  have hmx1 := hw.lenle
  simp only [maxLen] at hmx1
  refine callR_of (n := 93) [(0, .slice A im.length c), (1, .slice Aw ws.length cw), (2, .int .i64 z)] Try.func3 rfl rfl (Nat.le_of_ble_eq_true rfl) rfl ?_
  refine sc_seq ?_
  refine sc_reg ?_
  refine Go.XK.s (v := .bool false) (e_assign rfl) ?_
  refine sl_nil (nrm_k ?_)
  refine sc_seq ?_
  refine sc_seq ?_
  refine sc_reg ?_
  refine sl_call ent11 rfl rfl (awake_c w) (by decide) ?_
  rintro _ w1 ⟨rfl, hw1⟩
  have xw_w1 : Ext w w1 := Ext.tr (Ext.rfl' w) hw1
  refine Go.XK.s (v := .bool false) (e_not (b := true) rfl) ?_
  refine sl_nil (nrm_k ?_)
  refine sc_no rfl rfl ?_
  refine sc_skip (nrm_k ?_)
  refine sc_seq ?_
  refine sc_seq ?_
  refine sc_reg ?_
  refine Go.XK.s (v := .slice A im.length c) (e_move rfl) ?_
  refine Go.XK.s (v := .slice Aw ws.length cw) (e_move rfl) ?_
  refine sl_call ent12 rfl rfl (few_c _ _ _ _ _ _ w1 (hl.ext xw_w1) (hw.ext xw_w1) (hin.ext xw_w1)) (by decide) ?_
  rintro _ w2 ⟨rfl, hw2⟩
  have xw_w2 : Ext w w2 := Ext.tr xw_w1 hw2
  refine Go.XK.s (v := .bool (!(few im ws))) (e_not rfl) ?_
  refine sl_nil (nrm_k ?_)
  refine sc_if rfl (fun c21 => ?_) (fun c21 => ?_)
  ·
    refine sc_seq ?_
    refine sc_reg ?_
    refine Go.XK.s (v := .bool true) (e_assign rfl) ?_
    refine sl_nil (nrm_k ?_)
    refine sc_retf rfl (ret1 Try.results3 (rvt rfl) ?_)
    first | exact ⟨rfl, xw_w2⟩ | exact ⟨by simp, xw_w2⟩
  ·
    have hfew : few im ws = true := by simpa using c21
    obtain ⟨hfw1, hfw2, hfw3⟩ := few_spec hfew
    refine sc_skip (nrm_k ?_)
    refine sc_seq ?_
    refine sc_reg ?_
    refine Go.XK.s (v := .slice Aw ws.length cw) (e_move rfl) ?_
    refine sl_call ent13 rfl rfl (rsteps_c _ _ _ w2 (hw.ext xw_w2) (hin.ext xw_w2) (by omega)) (by decide) ?_
    rintro _ w3 ⟨rfl, hw3⟩
    have xw_w3 : Ext w w3 := Ext.tr xw_w2 hw3
    refine Go.XK.s (v := .int .i64 ((stL ws).length : Int)) (e_assign rfl) ?_
    refine sl_nil (nrm_k ?_)
    refine sc_seq ?_
    refine sc_reg ?_
    refine Go.XK.s (v := .slice A im.length c) (e_move rfl) ?_
    refine Go.XK.s (v := .slice Aw ws.length cw) (e_move rfl) ?_
    refine sl_call ent14 rfl rfl (record_c _ _ _ _ _ _ w3 (hl.ext xw_w3) (hw.ext xw_w3) (hin.ext xw_w3) (by omega)) (by decide) ?_
    rintro _ w4 ⟨vK2, rfl, hoK2, hw4⟩
    replace hoK2 := Own.low hoK2 (Below.size xw_w3)
    have xw_w4 : Ext w w4 := Ext.tr xw_w3 hw4
    obtain ⟨AZ3, cZ3, eZ3_, hlcZ3, hcmZ3, _⟩ := Go.XK.Own.shape hoK2 (fun _ => rfl)
    subst eZ3_
    refine Go.XK.s (v := .tuple #[.slice AZ3 ((cutR im ws ((stL ws).length : Int)).1).length cZ3, .int .i64 ((cutR im ws ((stL ws).length : Int)).2)]) (e_move rfl) ?_
    refine Go.XK.s (v := .slice AZ3 ((cutR im ws ((stL ws).length : Int)).1).length cZ3) (e_extract (vs := [.slice AZ3 ((cutR im ws ((stL ws).length : Int)).1).length cZ3, .int .i64 ((cutR im ws ((stL ws).length : Int)).2)]) rfl rfl) ?_
    refine Go.XK.s (v := .int .i64 ((cutR im ws ((stL ws).length : Int)).2)) (e_extract (vs := [.slice AZ3 ((cutR im ws ((stL ws).length : Int)).1).length cZ3, .int .i64 ((cutR im ws ((stL ws).length : Int)).2)]) rfl rfl) ?_
    refine Go.XK.s (v := .slice AZ3 ((cutR im ws ((stL ws).length : Int)).1).length cZ3) (e_assign rfl) ?_
    refine Go.XK.s (v := .int .i64 ((cutR im ws ((stL ws).length : Int)).2)) (e_assign rfl) ?_
    refine sl_nil (nrm_k ?_)
    refine sc_seq ?_
    refine sc_reg ?_
    refine Go.XK.s (v := .slice A im.length c) (e_move rfl) ?_
    refine Go.XK.s (v := .slice Aw ws.length cw) (e_move rfl) ?_
    refine Go.XK.s (v := .int .i64 ((stL ws).length : Int)) (e_move rfl) ?_
    refine sl_call ent15 rfl rfl (rcut_c _ _ _ _ _ _ _ w4 (hl.ext xw_w4) (hw.ext xw_w4) (hin.ext xw_w4)) (by decide) ?_
    rintro _ w5 ⟨vK4, rfl, hoK4, hw5⟩
    replace hoK4 := Own.low hoK4 (Below.size xw_w4)
    have xw_w5 : Ext w w5 := Ext.tr xw_w4 hw5
    replace hoK2 := hoK2.ext hw5
    obtain ⟨AZ5, cZ5, eZ5_, hlcZ5, hcmZ5, _⟩ := Go.XK.Own.shape hoK4 (fun _ => rfl)
    subst eZ5_
    refine Go.XK.s (v := .tuple #[.slice AZ5 ((cutR im ws ((stL ws).length : Int)).1).length cZ5, .int .i64 ((cutR im ws ((stL ws).length : Int)).2)]) (e_move rfl) ?_
    refine Go.XK.s (v := .slice AZ5 ((cutR im ws ((stL ws).length : Int)).1).length cZ5) (e_extract (vs := [.slice AZ5 ((cutR im ws ((stL ws).length : Int)).1).length cZ5, .int .i64 ((cutR im ws ((stL ws).length : Int)).2)]) rfl rfl) ?_
    refine Go.XK.s (v := .int .i64 ((cutR im ws ((stL ws).length : Int)).2)) (e_extract (vs := [.slice AZ5 ((cutR im ws ((stL ws).length : Int)).1).length cZ5, .int .i64 ((cutR im ws ((stL ws).length : Int)).2)]) rfl rfl) ?_
    refine Go.XK.s (v := .slice AZ5 ((cutR im ws ((stL ws).length : Int)).1).length cZ5) (e_assign rfl) ?_
    refine Go.XK.s (v := .int .i64 ((cutR im ws ((stL ws).length : Int)).2)) (e_assign rfl) ?_
    refine sl_nil (nrm_k ?_)
    refine sc_seq ?_
    refine sc_reg ?_
    refine Go.XK.s (v := .slice A im.length c) (e_move rfl) ?_
    refine Go.XK.s (v := .slice Aw ws.length cw) (e_move rfl) ?_
    refine Go.XK.s (v := .int .i64 z) (e_move rfl) ?_
    refine sl_call ent16 rfl rfl (cut_c _ _ _ _ _ _ _ w5 (hl.ext xw_w5) (hw.ext xw_w5) (hin.ext xw_w5)) (by decide) ?_
    rintro _ w6 ⟨vK6, rfl, hoK6, hw6⟩
    replace hoK6 := Own.low hoK6 (Below.size xw_w5)
    have xw_w6 : Ext w w6 := Ext.tr xw_w5 hw6
    replace hoK2 := hoK2.ext hw6
    replace hoK4 := hoK4.ext hw6
    obtain ⟨AZ7, cZ7, eZ7_, hlcZ7, hcmZ7, _⟩ := Go.XK.Own.shape hoK6 (fun _ => rfl)
    subst eZ7_
    refine Go.XK.s (v := .tuple #[.slice AZ7 ((cutR im ws z).1).length cZ7, .int .i64 ((cutR im ws z).2)]) (e_move rfl) ?_
    refine Go.XK.s (v := .slice AZ7 ((cutR im ws z).1).length cZ7) (e_extract (vs := [.slice AZ7 ((cutR im ws z).1).length cZ7, .int .i64 ((cutR im ws z).2)]) rfl rfl) ?_
    refine Go.XK.s (v := .int .i64 ((cutR im ws z).2)) (e_extract (vs := [.slice AZ7 ((cutR im ws z).1).length cZ7, .int .i64 ((cutR im ws z).2)]) rfl rfl) ?_
    refine Go.XK.s (v := .slice AZ7 ((cutR im ws z).1).length cZ7) (e_assign rfl) ?_
    refine Go.XK.s (v := .int .i64 ((cutR im ws z).2)) (e_assign rfl) ?_
    refine sl_nil (nrm_k ?_)
    refine sc_seq ?_
    refine sc_reg ?_
    refine Go.XK.s (v := .slice A im.length c) (e_move rfl) ?_
    refine Go.XK.s (v := .slice Aw ws.length cw) (e_move rfl) ?_
    refine Go.XK.s (v := .int .i64 z) (e_move rfl) ?_
    refine sl_call ent15 rfl rfl (rcut_c _ _ _ _ _ _ _ w6 (hl.ext xw_w6) (hw.ext xw_w6) (hin.ext xw_w6)) (by decide) ?_
    rintro _ w7 ⟨vK8, rfl, hoK8, hw7⟩
    replace hoK8 := Own.low hoK8 (Below.size xw_w6)
    have xw_w7 : Ext w w7 := Ext.tr xw_w6 hw7
    replace hoK2 := hoK2.ext hw7
    replace hoK4 := hoK4.ext hw7
    replace hoK6 := hoK6.ext hw7
    obtain ⟨AZ9, cZ9, eZ9_, hlcZ9, hcmZ9, _⟩ := Go.XK.Own.shape hoK8 (fun _ => rfl)
    subst eZ9_
    refine Go.XK.s (v := .tuple #[.slice AZ9 ((cutR im ws z).1).length cZ9, .int .i64 ((cutR im ws z).2)]) (e_move rfl) ?_
    refine Go.XK.s (v := .slice AZ9 ((cutR im ws z).1).length cZ9) (e_extract (vs := [.slice AZ9 ((cutR im ws z).1).length cZ9, .int .i64 ((cutR im ws z).2)]) rfl rfl) ?_
    refine Go.XK.s (v := .int .i64 ((cutR im ws z).2)) (e_extract (vs := [.slice AZ9 ((cutR im ws z).1).length cZ9, .int .i64 ((cutR im ws z).2)]) rfl rfl) ?_
    refine Go.XK.s (v := .slice AZ9 ((cutR im ws z).1).length cZ9) (e_assign rfl) ?_
    refine Go.XK.s (v := .int .i64 ((cutR im ws z).2)) (e_assign rfl) ?_
    refine sl_nil (nrm_k ?_)
    refine sc_seq ?_
    refine sc_reg ?_
    refine Go.XK.s (v := .slice A im.length c) (e_move rfl) ?_
    refine Go.XK.s (v := .slice Aw ws.length cw) (e_move rfl) ?_
    refine sl_call ent17 rfl rfl (valid_c _ _ _ _ _ _ w7 (hl.ext xw_w7) (hw.ext xw_w7) (hin.ext xw_w7)) (by decide) ?_
    rintro _ w8 ⟨rfl, hw8⟩
    have xw_w8 : Ext w w8 := Ext.tr xw_w7 hw8
    replace hoK2 := hoK2.ext hw8
    replace hoK4 := hoK4.ext hw8
    replace hoK6 := hoK6.ext hw8
    replace hoK8 := hoK8.ext hw8
    refine Go.XK.s (v := .slice A im.length c) (e_move rfl) ?_
    refine Go.XK.s (v := .slice Aw ws.length cw) (e_move rfl) ?_
    refine sl_call ent18 rfl rfl (rvalid_c _ _ _ _ _ _ w8 (hl.ext xw_w8) (hw.ext xw_w8) (hin.ext xw_w8)) (by decide) ?_
    rintro _ w9 ⟨rfl, hw9⟩
    have xw_w9 : Ext w w9 := Ext.tr xw_w8 hw9
    replace hoK2 := hoK2.ext hw9
    replace hoK4 := hoK4.ext hw9
    replace hoK6 := hoK6.ext hw9
    replace hoK8 := hoK8.ext hw9
    refine Go.XK.s (v := .bool ((valid im ws) == (valid im ws))) (e_booleq Try.underlying4 rfl rfl) ?_
    refine Go.XK.s (v := .bool ((valid im ws) == (valid im ws))) (e_move rfl) ?_
    refine sl_mergeW 5 63 (.bool (((valid im ws) == (valid im ws)) && (decide (((stL ws).length : Int) = ((stL ws).length : Int))))) (fun w_ => Ext w9 w_) ?_ (fun w10 hw10 => ?_)
    · refine sl_case (t := 58) rfl (fun g10_7 => ?_) (fun g10_7 => ?_)
      ·
        refine sl_gev (v := .slice Aw ws.length cw) rfl rfl g10_7 (e_move rfl) rfl (by decide) ?_
        refine sl_gcall rfl rfl g10_7 ent19 rfl rfl (steps2_c _ _ _ w9 (hw.ext xw_w9) (hin.ext xw_w9) (by omega)) (by decide) ?_
        rintro _ w11 ⟨rfl, hw11⟩
        have xw_w11 : Ext w w11 := Ext.tr xw_w9 hw11
        have xw9_w11 : Ext w9 w11 := Ext.tr (Ext.rfl' w9) hw11
        replace hoK2 := hoK2.ext hw11
        replace hoK4 := hoK4.ext hw11
        replace hoK6 := hoK6.ext hw11
        replace hoK8 := hoK8.ext hw11
        refine sl_gev (v := .int .i64 ((stL ws).length : Int)) rfl rfl g10_7 (e_move rfl) rfl (by decide) ?_
        refine sl_gev (v := .bool (decide (((stL ws).length : Int) = ((stL ws).length : Int)))) rfl rfl g10_7 (e_eq rfl rfl) rfl (by decide) ?_
        refine Go.XK.s (v := .bool (decide (((stL ws).length : Int) = ((stL ws).length : Int)))) (e_pickT rfl g10_7 rfl) ?_
        exact sl_nil (fun a ha => ⟨xw9_w11, ha.sub (.cons (by rw [g10_7]; rfl) (sub_self_cons (sub_self_cons (sub_self_cons (sub_self_cons (sub_self_cons (Sub.refl _) rfl) rfl) rfl) rfl) rfl))⟩)
      ·
        refine sl_gskip rfl rfl g10_7 (by decide) ?_
        refine sl_gskip rfl rfl g10_7 (by decide) ?_
        refine sl_gskip rfl rfl g10_7 (by decide) ?_
        refine sl_gskip rfl rfl g10_7 (by decide) ?_
        refine Go.XK.s (v := .bool false) (e_pickF rfl g10_7 rfl) ?_
        exact sl_nil (fun a ha => ⟨(Ext.rfl' w9), ha.sub (.cons (by rw [g10_7]; rfl) (sub_self_cons (sub_self_cons (sub_self_cons (sub_self_cons (sub_self_cons (Sub.refl _) rfl) rfl) rfl) rfl) rfl))⟩)
    have xw_w10 : Ext w w10 := Ext.tr xw_w9 hw10
    replace hoK2 := hoK2.ext hw10
    replace hoK4 := hoK4.ext hw10
    replace hoK6 := hoK6.ext hw10
    replace hoK8 := hoK8.ext hw10
    refine Go.XK.s (v := .bool (((valid im ws) == (valid im ws)) && (decide (((stL ws).length : Int) = ((stL ws).length : Int))))) (e_move rfl) ?_
    refine sl_mergeW 8 72 (.bool ((((valid im ws) == (valid im ws)) && (decide (((stL ws).length : Int) = ((stL ws).length : Int)))) && ((onceR im ws) == (onceR im ws)))) (fun w_ => Ext w10 w_) ?_ (fun w12 hw12 => ?_)
    · refine sl_case (t := 64) rfl (fun g10_13 => ?_) (fun g10_13 => ?_)
      ·
        refine sl_gev (v := .slice A im.length c) rfl rfl g10_13 (e_move rfl) rfl (by decide) ?_
        refine sl_gev (v := .slice Aw ws.length cw) rfl rfl g10_13 (e_move rfl) rfl (by decide) ?_
        refine sl_gcall rfl rfl g10_13 ent20 rfl rfl (once_c _ _ _ _ _ _ w10 (hl.ext xw_w10) (hw.ext xw_w10) (hin.ext xw_w10)) (by decide) ?_
        rintro _ w13 ⟨rfl, hw13⟩
        have xw_w13 : Ext w w13 := Ext.tr xw_w10 hw13
        have xw10_w13 : Ext w10 w13 := Ext.tr (Ext.rfl' w10) hw13
        replace hoK2 := hoK2.ext hw13
        replace hoK4 := hoK4.ext hw13
        replace hoK6 := hoK6.ext hw13
        replace hoK8 := hoK8.ext hw13
        refine sl_gev (v := .slice A im.length c) rfl rfl g10_13 (e_move rfl) rfl (by decide) ?_
        refine sl_gev (v := .slice Aw ws.length cw) rfl rfl g10_13 (e_move rfl) rfl (by decide) ?_
        refine sl_gcall rfl rfl g10_13 ent21 rfl rfl (ronce_c _ _ _ _ _ _ w13 (hl.ext xw_w13) (hw.ext xw_w13) (hin.ext xw_w13)) (by decide) ?_
        rintro _ w14 ⟨rfl, hw14⟩
        have xw_w14 : Ext w w14 := Ext.tr xw_w13 hw14
        have xw10_w14 : Ext w10 w14 := Ext.tr xw10_w13 hw14
        replace hoK2 := hoK2.ext hw14
        replace hoK4 := hoK4.ext hw14
        replace hoK6 := hoK6.ext hw14
        replace hoK8 := hoK8.ext hw14
        refine sl_gev (v := .bool ((onceR im ws) == (onceR im ws))) rfl rfl g10_13 (e_booleq Try.underlying4 rfl rfl) rfl (by decide) ?_
        refine Go.XK.s (v := .bool ((onceR im ws) == (onceR im ws))) (e_pickT rfl g10_13 rfl) ?_
        exact sl_nil (fun a ha => ⟨xw10_w14, ha.sub (.cons (by rw [g10_13]; rfl) (sub_self_cons (sub_self_cons (sub_self_cons (sub_self_cons (sub_self_cons (sub_self_cons (sub_self_cons (sub_self_cons (Sub.refl _) rfl) rfl) rfl) rfl) rfl) rfl) rfl) rfl))⟩)
      ·
        refine sl_gskip rfl rfl g10_13 (by decide) ?_
        refine sl_gskip rfl rfl g10_13 (by decide) ?_
        refine sl_gskip rfl rfl g10_13 (by decide) ?_
        refine sl_gskip rfl rfl g10_13 (by decide) ?_
        refine sl_gskip rfl rfl g10_13 (by decide) ?_
        refine sl_gskip rfl rfl g10_13 (by decide) ?_
        refine sl_gskip rfl rfl g10_13 (by decide) ?_
        refine Go.XK.s (v := .bool false) (e_pickF rfl g10_13 rfl) ?_
        exact sl_nil (fun a ha => ⟨(Ext.rfl' w10), ha.sub (.cons (by rw [g10_13]; rfl) (sub_self_cons (sub_self_cons (sub_self_cons (sub_self_cons (sub_self_cons (sub_self_cons (sub_self_cons (sub_self_cons (Sub.refl _) rfl) rfl) rfl) rfl) rfl) rfl) rfl) rfl))⟩)
    have xw_w12 : Ext w w12 := Ext.tr xw_w10 hw12
    replace hoK2 := hoK2.ext hw12
    replace hoK4 := hoK4.ext hw12
    replace hoK6 := hoK6.ext hw12
    replace hoK8 := hoK8.ext hw12
    refine Go.XK.s (v := .bool ((((valid im ws) == (valid im ws)) && (decide (((stL ws).length : Int) = ((stL ws).length : Int)))) && ((onceR im ws) == (onceR im ws)))) (e_move rfl) ?_
    refine sl_mergeW 4 77 (.bool (((((valid im ws) == (valid im ws)) && (decide (((stL ws).length : Int) = ((stL ws).length : Int)))) && ((onceR im ws) == (onceR im ws))) && (decide ((cutR im ws ((stL ws).length : Int)).1 = (cutR im ws ((stL ws).length : Int)).1)))) (fun w_ => Ext w12 w_) ?_ (fun w15 hw15 => ?_)
    · refine sl_case (t := 73) rfl (fun g10_22 => ?_) (fun g10_22 => ?_)
      ·
        refine sl_gev (v := .slice AZ3 ((cutR im ws ((stL ws).length : Int)).1).length cZ3) rfl rfl g10_22 (e_move rfl) rfl (by decide) ?_
        refine sl_gev (v := .slice AZ5 ((cutR im ws ((stL ws).length : Int)).1).length cZ5) rfl rfl g10_22 (e_move rfl) rfl (by decide) ?_
        refine sl_gcall rfl rfl g10_22 ent22 rfl rfl (same_c _ _ _ _ _ _ w12 (Go.XK.Own.slr hoK2 (fun _ => rfl)) (Go.XK.Own.slr hoK4 (fun _ => rfl))) (by decide) ?_
        rintro _ w16 ⟨rfl, hw16⟩
        have xw_w16 : Ext w w16 := Ext.tr xw_w12 hw16
        have xw12_w16 : Ext w12 w16 := Ext.tr (Ext.rfl' w12) hw16
        replace hoK2 := hoK2.ext hw16
        replace hoK4 := hoK4.ext hw16
        replace hoK6 := hoK6.ext hw16
        replace hoK8 := hoK8.ext hw16
        refine Go.XK.s (v := .bool (decide ((cutR im ws ((stL ws).length : Int)).1 = (cutR im ws ((stL ws).length : Int)).1))) (e_pickT rfl g10_22 rfl) ?_
        exact sl_nil (fun a ha => ⟨xw12_w16, ha.sub (.cons (by rw [g10_22]; rfl) (sub_self_cons (sub_self_cons (sub_self_cons (sub_self_cons (Sub.refl _) rfl) rfl) rfl) rfl))⟩)
      ·
        refine sl_gskip rfl rfl g10_22 (by decide) ?_
        refine sl_gskip rfl rfl g10_22 (by decide) ?_
        refine sl_gskip rfl rfl g10_22 (by decide) ?_
        refine Go.XK.s (v := .bool false) (e_pickF rfl g10_22 rfl) ?_
        exact sl_nil (fun a ha => ⟨(Ext.rfl' w12), ha.sub (.cons (by rw [g10_22]; rfl) (sub_self_cons (sub_self_cons (sub_self_cons (sub_self_cons (Sub.refl _) rfl) rfl) rfl) rfl))⟩)
    have xw_w15 : Ext w w15 := Ext.tr xw_w12 hw15
    replace hoK2 := hoK2.ext hw15
    replace hoK4 := hoK4.ext hw15
    replace hoK6 := hoK6.ext hw15
    replace hoK8 := hoK8.ext hw15
    refine Go.XK.s (v := .bool (((((valid im ws) == (valid im ws)) && (decide (((stL ws).length : Int) = ((stL ws).length : Int)))) && ((onceR im ws) == (onceR im ws))) && (decide ((cutR im ws ((stL ws).length : Int)).1 = (cutR im ws ((stL ws).length : Int)).1)))) (e_move rfl) ?_
    refine sl_merge 4 82 (.bool ((((((valid im ws) == (valid im ws)) && (decide (((stL ws).length : Int) = ((stL ws).length : Int)))) && ((onceR im ws) == (onceR im ws))) && (decide ((cutR im ws ((stL ws).length : Int)).1 = (cutR im ws ((stL ws).length : Int)).1))) && (decide ((cutR im ws ((stL ws).length : Int)).2 = (cutR im ws ((stL ws).length : Int)).2)))) ?_ ?_
    · refine sl_case (t := 78) rfl (fun g10_27 => ?_) (fun g10_27 => ?_)
      ·
        refine sl_gev (v := .int .i64 ((cutR im ws ((stL ws).length : Int)).2)) rfl rfl g10_27 (e_move rfl) rfl (by decide) ?_
        refine sl_gev (v := .int .i64 ((cutR im ws ((stL ws).length : Int)).2)) rfl rfl g10_27 (e_move rfl) rfl (by decide) ?_
        refine sl_gev (v := .bool (decide ((cutR im ws ((stL ws).length : Int)).2 = (cutR im ws ((stL ws).length : Int)).2))) rfl rfl g10_27 (e_eq rfl rfl) rfl (by decide) ?_
        refine Go.XK.s (v := .bool (decide ((cutR im ws ((stL ws).length : Int)).2 = (cutR im ws ((stL ws).length : Int)).2))) (e_pickT rfl g10_27 rfl) ?_
        exact sl_nil (fun a ha => ⟨rfl, ha.sub (.cons (by rw [g10_27]; rfl) (sub_self_cons (sub_self_cons (sub_self_cons (sub_self_cons (Sub.refl _) rfl) rfl) rfl) rfl))⟩)
      ·
        refine sl_gskip rfl rfl g10_27 (by decide) ?_
        refine sl_gskip rfl rfl g10_27 (by decide) ?_
        refine sl_gskip rfl rfl g10_27 (by decide) ?_
        refine Go.XK.s (v := .bool false) (e_pickF rfl g10_27 rfl) ?_
        exact sl_nil (fun a ha => ⟨rfl, ha.sub (.cons (by rw [g10_27]; rfl) (sub_self_cons (sub_self_cons (sub_self_cons (sub_self_cons (Sub.refl _) rfl) rfl) rfl) rfl))⟩)
    refine Go.XK.s (v := .bool ((((((valid im ws) == (valid im ws)) && (decide (((stL ws).length : Int) = ((stL ws).length : Int)))) && ((onceR im ws) == (onceR im ws))) && (decide ((cutR im ws ((stL ws).length : Int)).1 = (cutR im ws ((stL ws).length : Int)).1))) && (decide ((cutR im ws ((stL ws).length : Int)).2 = (cutR im ws ((stL ws).length : Int)).2)))) (e_move rfl) ?_
    refine sl_mergeW 4 87 (.bool (((((((valid im ws) == (valid im ws)) && (decide (((stL ws).length : Int) = ((stL ws).length : Int)))) && ((onceR im ws) == (onceR im ws))) && (decide ((cutR im ws ((stL ws).length : Int)).1 = (cutR im ws ((stL ws).length : Int)).1))) && (decide ((cutR im ws ((stL ws).length : Int)).2 = (cutR im ws ((stL ws).length : Int)).2))) && (decide ((cutR im ws z).1 = (cutR im ws z).1)))) (fun w_ => Ext w15 w_) ?_ (fun w17 hw17 => ?_)
    · refine sl_case (t := 83) rfl (fun g10_32 => ?_) (fun g10_32 => ?_)
      ·
        refine sl_gev (v := .slice AZ7 ((cutR im ws z).1).length cZ7) rfl rfl g10_32 (e_move rfl) rfl (by decide) ?_
        refine sl_gev (v := .slice AZ9 ((cutR im ws z).1).length cZ9) rfl rfl g10_32 (e_move rfl) rfl (by decide) ?_
        refine sl_gcall rfl rfl g10_32 ent22 rfl rfl (same_c _ _ _ _ _ _ w15 (Go.XK.Own.slr hoK6 (fun _ => rfl)) (Go.XK.Own.slr hoK8 (fun _ => rfl))) (by decide) ?_
        rintro _ w18 ⟨rfl, hw18⟩
        have xw_w18 : Ext w w18 := Ext.tr xw_w15 hw18
        have xw15_w18 : Ext w15 w18 := Ext.tr (Ext.rfl' w15) hw18
        replace hoK2 := hoK2.ext hw18
        replace hoK4 := hoK4.ext hw18
        replace hoK6 := hoK6.ext hw18
        replace hoK8 := hoK8.ext hw18
        refine Go.XK.s (v := .bool (decide ((cutR im ws z).1 = (cutR im ws z).1))) (e_pickT rfl g10_32 rfl) ?_
        exact sl_nil (fun a ha => ⟨xw15_w18, ha.sub (.cons (by rw [g10_32]; rfl) (sub_self_cons (sub_self_cons (sub_self_cons (sub_self_cons (Sub.refl _) rfl) rfl) rfl) rfl))⟩)
      ·
        refine sl_gskip rfl rfl g10_32 (by decide) ?_
        refine sl_gskip rfl rfl g10_32 (by decide) ?_
        refine sl_gskip rfl rfl g10_32 (by decide) ?_
        refine Go.XK.s (v := .bool false) (e_pickF rfl g10_32 rfl) ?_
        exact sl_nil (fun a ha => ⟨(Ext.rfl' w15), ha.sub (.cons (by rw [g10_32]; rfl) (sub_self_cons (sub_self_cons (sub_self_cons (sub_self_cons (Sub.refl _) rfl) rfl) rfl) rfl))⟩)
    have xw_w17 : Ext w w17 := Ext.tr xw_w15 hw17
    replace hoK2 := hoK2.ext hw17
    replace hoK4 := hoK4.ext hw17
    replace hoK6 := hoK6.ext hw17
    replace hoK8 := hoK8.ext hw17
    refine Go.XK.s (v := .bool (((((((valid im ws) == (valid im ws)) && (decide (((stL ws).length : Int) = ((stL ws).length : Int)))) && ((onceR im ws) == (onceR im ws))) && (decide ((cutR im ws ((stL ws).length : Int)).1 = (cutR im ws ((stL ws).length : Int)).1))) && (decide ((cutR im ws ((stL ws).length : Int)).2 = (cutR im ws ((stL ws).length : Int)).2))) && (decide ((cutR im ws z).1 = (cutR im ws z).1)))) (e_move rfl) ?_
    refine sl_merge 4 92 (.bool ((((((((valid im ws) == (valid im ws)) && (decide (((stL ws).length : Int) = ((stL ws).length : Int)))) && ((onceR im ws) == (onceR im ws))) && (decide ((cutR im ws ((stL ws).length : Int)).1 = (cutR im ws ((stL ws).length : Int)).1))) && (decide ((cutR im ws ((stL ws).length : Int)).2 = (cutR im ws ((stL ws).length : Int)).2))) && (decide ((cutR im ws z).1 = (cutR im ws z).1))) && (decide ((cutR im ws z).2 = (cutR im ws z).2)))) ?_ ?_
    · refine sl_case (t := 88) rfl (fun g10_37 => ?_) (fun g10_37 => ?_)
      ·
        refine sl_gev (v := .int .i64 ((cutR im ws z).2)) rfl rfl g10_37 (e_move rfl) rfl (by decide) ?_
        refine sl_gev (v := .int .i64 ((cutR im ws z).2)) rfl rfl g10_37 (e_move rfl) rfl (by decide) ?_
        refine sl_gev (v := .bool (decide ((cutR im ws z).2 = (cutR im ws z).2))) rfl rfl g10_37 (e_eq rfl rfl) rfl (by decide) ?_
        refine Go.XK.s (v := .bool (decide ((cutR im ws z).2 = (cutR im ws z).2))) (e_pickT rfl g10_37 rfl) ?_
        exact sl_nil (fun a ha => ⟨rfl, ha.sub (.cons (by rw [g10_37]; rfl) (sub_self_cons (sub_self_cons (sub_self_cons (sub_self_cons (Sub.refl _) rfl) rfl) rfl) rfl))⟩)
      ·
        refine sl_gskip rfl rfl g10_37 (by decide) ?_
        refine sl_gskip rfl rfl g10_37 (by decide) ?_
        refine sl_gskip rfl rfl g10_37 (by decide) ?_
        refine Go.XK.s (v := .bool false) (e_pickF rfl g10_37 rfl) ?_
        exact sl_nil (fun a ha => ⟨rfl, ha.sub (.cons (by rw [g10_37]; rfl) (sub_self_cons (sub_self_cons (sub_self_cons (sub_self_cons (Sub.refl _) rfl) rfl) rfl) rfl))⟩)
    refine Go.XK.s (v := .bool ((((((((valid im ws) == (valid im ws)) && (decide (((stL ws).length : Int) = ((stL ws).length : Int)))) && ((onceR im ws) == (onceR im ws))) && (decide ((cutR im ws ((stL ws).length : Int)).1 = (cutR im ws ((stL ws).length : Int)).1))) && (decide ((cutR im ws ((stL ws).length : Int)).2 = (cutR im ws ((stL ws).length : Int)).2))) && (decide ((cutR im ws z).1 = (cutR im ws z).1))) && (decide ((cutR im ws z).2 = (cutR im ws z).2)))) (e_assign rfl) ?_
    refine sl_nil (nrm_k ?_)
    refine sc_retf rfl (ret1 Try.results3 (rvt rfl) ?_)
    first | exact ⟨rfl, xw_w17⟩ | exact ⟨by simp, xw_w17⟩

end Go.Proofs.Ytfcjianiodiejaa
