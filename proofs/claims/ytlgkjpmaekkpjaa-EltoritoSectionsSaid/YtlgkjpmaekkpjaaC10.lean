/- Chapter 27: C10. Printed by my program wip/tools/wk.py. -/
import Derived.Test.YtlgkjpmaekkpjaaC9
import Derived.Test.YtlgkjpmaekkpjaaMath6
set_option linter.unusedVariables false
set_option linter.unusedSimpArgs false
set_option maxRecDepth 4000
set_option maxHeartbeats 1000000
namespace Go.Proofs.Ytlgkjpmaekkpjaa
open Go.XK Go.RowKit
theorem out_runS : ∀ (xs : List (List UInt8)) (t : St), (runS t xs).1.length ≤ t.out.length + xs.length
  | [], t => by simp [runS]
  | x :: xs, t => by
    cases h : stepR t x with
    | inr r =>
      rw [runS_inr h]
      have : r.1.length ≤ t.out.length := by
        unfold stepR at h
        repeat' split at h
        all_goals (cases h <;> simp)
      rw [List.length_cons]; omega
    | inl t' =>
      rw [runS_inl h]
      have hl : t'.out.length ≤ t.out.length + 1 := by
        unfold stepR at h
        repeat' split at h
        all_goals (cases h <;> simp)
      unfold runF
      split
      · show t'.out.length ≤ _
        rw [List.length_cons]; omega
      · have := out_runS xs t'
        rw [List.length_cons]; omega
theorem len_dec {s : List UInt8} {o : List Img} {e : Int} (h : decR s = (o, e)) : o.length ≤ 1099511627776 := by
  unfold decR at h
  split at h
  · cases h; simp
  · have := out_runS (E s 0) init
    rw [h, show (E s 0).length = 64 from E_length s 64 (by omega)] at this
    simp only [init, List.length_nil] at this
    omega
/-- masterdisc/masterdisclaw27.EltoritoDecodes (function 4) -/
theorem decodes_c (s : List UInt8) (w : World) : CallR Try.prog 4 [.string (B s)] w (fun v w' => v = .bool true ∧ Ext w w') := by
  obtain ⟨o, e, hdec⟩ : ∃ o e, decR s = (o, e) := ⟨_, _, rfl⟩
  refine callR_of (n := 37) [(0, .string (B s))] Try.func4 rfl rfl (Nat.le_of_ble_eq_true rfl) rfl ?_
  refine sc_seq ?_
  refine sc_reg ?_
  refine Go.XK.s (v := .bool false) (e_assign rfl) ?_
  refine sl_nil (nrm_k ?_)
  refine sc_seq ?_
  refine sc_seq ?_
  refine sc_reg ?_
  refine sl_call ent10 rfl rfl (awake_c w) (by decide) ?_
  rintro _ w1 ⟨rfl, hw1⟩
  have xw_w1 : Ext w w1 := Ext.tr (Ext.rfl' w) hw1
  refine Go.XK.s (v := .bool false) (e_not (b := true) rfl) ?_
  refine sl_nil (nrm_k ?_)
  refine sc_no rfl rfl ?_
  refine sc_skip (nrm_k ?_)
  refine sc_seq ?_
  refine sc_seq ?_
  refine sc_reg ?_
  refine Go.XK.s (v := .string (B s)) (e_move rfl) ?_
  refine Go.XK.s (v := .int .i64 (s.length : Int)) (e_slen Try.underlying9 rfl) ?_
  refine Go.XK.s (v := .bool (decide ((3000 : Int) < (s.length : Int)))) (e_gt rfl rfl) ?_
  refine sl_nil (nrm_k ?_)
  refine sc_ifd rfl (fun c11 => ?_) (fun c11 => ?_)
  ·
    refine sc_seq ?_
    refine sc_reg ?_
    refine Go.XK.s (v := .bool true) (e_assign rfl) ?_
    refine sl_nil (nrm_k ?_)
    refine sc_retf rfl (ret1 Try.results4 (rvt rfl) ?_)
    exact ⟨rfl, xw_w1⟩
  ·
    refine sc_skip (nrm_k ?_)
    refine sc_seq ?_
    refine sc_reg ?_
    refine Go.XK.s (v := .string (B s)) (e_move rfl) ?_
    refine sl_call ent13 rfl rfl (decode_c s w1) (by decide) ?_
    rintro _ w2 ⟨vsX, eX, oX, rfl, hdecX, hoDX, hw2⟩
    rw [hdec] at hdecX
    obtain ⟨e1_, e2_⟩ := Prod.mk.inj hdecX
    subst e1_ e2_
    obtain ⟨AX, cX, hvsX, hlcX, hcmX, hrX⟩ := Own.shape hoDX (fun _ => rfl)
    subst hvsX
    have xw_w2 : Ext w w2 := Ext.tr xw_w1 hw2
    refine Go.XK.s (v := .tuple #[.slice AX o.length cX, .int .i64 e]) (e_move rfl) ?_
    refine Go.XK.s (v := .slice AX o.length cX) (e_extract (vs := [.slice AX o.length cX, .int .i64 e]) rfl rfl) ?_
    refine Go.XK.s (v := .int .i64 e) (e_extract (vs := [.slice AX o.length cX, .int .i64 e]) rfl rfl) ?_
    refine Go.XK.s (v := .slice AX o.length cX) (e_assign rfl) ?_
    refine Go.XK.s (v := .int .i64 e) (e_assign rfl) ?_
    refine sl_nil (nrm_k ?_)
    refine sc_seq ?_
    refine sc_reg ?_
    refine Go.XK.s (v := .string (B s)) (e_move rfl) ?_
    refine sl_call ent14 rfl rfl (rdecode_c s w2) (by decide) ?_
    rintro _ w3 ⟨vsY, eY, oY, rfl, hdecY, hoDY, hw3⟩
    rw [hdec] at hdecY
    obtain ⟨e1_, e2_⟩ := Prod.mk.inj hdecY
    subst e1_ e2_
    obtain ⟨AY, cY, hvsY, hlcY, hcmY, hrY⟩ := Own.shape hoDY (fun _ => rfl)
    subst hvsY
    have xw_w3 : Ext w w3 := Ext.tr xw_w2 hw3
    replace hrX := hrX.ext hw3
    refine Go.XK.s (v := .tuple #[.slice AY o.length cY, .int .i64 e]) (e_move rfl) ?_
    refine Go.XK.s (v := .slice AY o.length cY) (e_extract (vs := [.slice AY o.length cY, .int .i64 e]) rfl rfl) ?_
    refine Go.XK.s (v := .int .i64 e) (e_extract (vs := [.slice AY o.length cY, .int .i64 e]) rfl rfl) ?_
    refine Go.XK.s (v := .slice AY o.length cY) (e_assign rfl) ?_
    refine Go.XK.s (v := .int .i64 e) (e_assign rfl) ?_
    refine sl_nil (nrm_k ?_)
    refine sc_seq ?_
    refine sc_reg ?_
    refine Go.XK.s (v := .slice AX o.length cX) (e_move rfl) ?_
    refine Go.XK.s (v := .slice AY o.length cY) (e_move rfl) ?_
    refine sl_call ent15 rfl rfl (same_c o o _ _ _ _ w3 hrX hrY (len_dec hdec)) (by decide) ?_
    rintro _ w4 ⟨rfl, hw4⟩
    have xw_w4 : Ext w w4 := Ext.tr xw_w3 hw4
    replace hrX := hrX.ext hw4
    replace hrY := hrY.ext hw4
    refine Go.XK.s (v := .bool (decide (o = o))) (e_move rfl) ?_
    refine sl_merge 4 29 (.bool ((decide (o = o)) && (decide (e = e)))) ?_ ?_
    · refine sl_case (t := 25) rfl (fun g7_3 => ?_) (fun g7_3 => ?_)
      ·
        refine sl_gev (v := .int .i64 e) rfl rfl g7_3 (e_move rfl) rfl (by decide) ?_
        refine sl_gev (v := .int .i64 e) rfl rfl g7_3 (e_move rfl) rfl (by decide) ?_
        refine sl_gev (v := .bool (decide (e = e))) rfl rfl g7_3 (e_eq rfl rfl) rfl (by decide) ?_
        refine Go.XK.s (v := .bool (decide (e = e))) (e_pickT rfl g7_3 rfl) ?_
        exact sl_nil (fun a ha => ⟨rfl, ha.sub (.cons (by rw [g7_3]; rfl) (sub_self_cons (sub_self_cons (sub_self_cons (sub_self_cons (Sub.refl _) rfl) rfl) rfl) rfl))⟩)
      ·
        refine sl_gskip rfl rfl g7_3 (by decide) ?_
        refine sl_gskip rfl rfl g7_3 (by decide) ?_
        refine sl_gskip rfl rfl g7_3 (by decide) ?_
        refine Go.XK.s (v := .bool false) (e_pickF rfl g7_3 rfl) ?_
        exact sl_nil (fun a ha => ⟨rfl, ha.sub (.cons (by rw [g7_3]; rfl) (sub_self_cons (sub_self_cons (sub_self_cons (sub_self_cons (Sub.refl _) rfl) rfl) rfl) rfl))⟩)
    refine Go.XK.s (v := .bool ((decide (o = o)) && (decide (e = e)))) (e_move rfl) ?_
    refine sl_mergeW 6 36 (.bool (((decide (o = o)) && (decide (e = e))) && (decide (wsum 0 s = wsum 0 s)))) (fun w_ => Ext w4 w_) ?_ (fun w5 hw5 => ?_)
    · refine sl_case (t := 30) rfl (fun g7_8 => ?_) (fun g7_8 => ?_)
      ·
        refine sl_gev (v := .string (B s)) rfl rfl g7_8 (e_move rfl) rfl (by decide) ?_
        refine sl_gcall rfl rfl g7_8 ent16 rfl rfl (sum_c _ w4 (by omega)) (by decide) ?_
        rintro _ w6 ⟨rfl, hw6⟩
        have xw_w6 : Ext w w6 := Ext.tr xw_w4 hw6
        have xw4_w6 : Ext w4 w6 := Ext.tr (Ext.rfl' w4) hw6
        replace hrX := hrX.ext hw6
        replace hrY := hrY.ext hw6
        refine sl_gev (v := .string (B s)) rfl rfl g7_8 (e_move rfl) rfl (by decide) ?_
        refine sl_gcall rfl rfl g7_8 ent17 rfl rfl (rsum_c _ w6 (by omega)) (by decide) ?_
        rintro _ w7 ⟨rfl, hw7⟩
        have xw_w7 : Ext w w7 := Ext.tr xw_w6 hw7
        have xw4_w7 : Ext w4 w7 := Ext.tr xw4_w6 hw7
        replace hrX := hrX.ext hw7
        replace hrY := hrY.ext hw7
        refine sl_gev (v := .bool (decide (wsum 0 s = wsum 0 s))) rfl rfl g7_8 (e_eq rfl rfl) rfl (by decide) ?_
        refine Go.XK.s (v := .bool (decide (wsum 0 s = wsum 0 s))) (e_pickT rfl g7_8 rfl) ?_
        exact sl_nil (fun a ha => ⟨xw4_w7, ha.sub (.cons (by rw [g7_8]; rfl) (sub_self_cons (sub_self_cons (sub_self_cons (sub_self_cons (sub_self_cons (sub_self_cons (Sub.refl _) rfl) rfl) rfl) rfl) rfl) rfl))⟩)
      ·
        refine sl_gskip rfl rfl g7_8 (by decide) ?_
        refine sl_gskip rfl rfl g7_8 (by decide) ?_
        refine sl_gskip rfl rfl g7_8 (by decide) ?_
        refine sl_gskip rfl rfl g7_8 (by decide) ?_
        refine sl_gskip rfl rfl g7_8 (by decide) ?_
        refine Go.XK.s (v := .bool false) (e_pickF rfl g7_8 rfl) ?_
        exact sl_nil (fun a ha => ⟨(Ext.rfl' w4), ha.sub (.cons (by rw [g7_8]; rfl) (sub_self_cons (sub_self_cons (sub_self_cons (sub_self_cons (sub_self_cons (sub_self_cons (Sub.refl _) rfl) rfl) rfl) rfl) rfl) rfl))⟩)
    have xw_w5 : Ext w w5 := Ext.tr xw_w4 hw5
    replace hrX := hrX.ext hw5
    replace hrY := hrY.ext hw5
    refine Go.XK.s (v := .bool (((decide (o = o)) && (decide (e = e))) && (decide (wsum 0 s = wsum 0 s)))) (e_assign rfl) ?_
    refine sl_nil (nrm_k ?_)
    refine sc_retf rfl (ret1 Try.results4 (rvt rfl) ?_)
    exact ⟨by simp, xw_w5⟩

theorem decodes_s (s : ByteArray) (w : World) : CallR Try.prog 4 [.string s] w (fun v w' => v = .bool true ∧ Ext w w') := by
  have h := decodes_c s.data.toList w
  rwa [B_data] at h

/-- masterdisc/masterdisclaw27.EltoritoReturns (function 5) -/
theorem returns_c (l : List Img) (A : Option Addr) (c : Nat) (w : World) (hl : Rd w A 6 Img.enc l) (hlc : l.length ≤ c) : CallR Try.prog 5 [.slice A l.length c] w (fun v w' => v = .bool true ∧ Ext w w') := by
  refine callR_of (n := 44) [(0, .slice A l.length c)] Try.func5 rfl rfl (Nat.le_of_ble_eq_true rfl) rfl ?_
  refine sc_seq ?_
  refine sc_reg ?_
  refine Go.XK.s (v := .bool false) (e_assign rfl) ?_
  refine sl_nil (nrm_k ?_)
  refine sc_seq ?_
  refine sc_seq ?_
  refine sc_reg ?_
  refine sl_call ent10 rfl rfl (awake_c w) (by decide) ?_
  rintro _ w1 ⟨rfl, hw1⟩
  have xw_w1 : Ext w w1 := Ext.tr (Ext.rfl' w) hw1
  refine Go.XK.s (v := .bool false) (e_not (b := true) rfl) ?_
  refine sl_nil (nrm_k ?_)
  refine sc_no rfl rfl ?_
  refine sc_skip (nrm_k ?_)
  refine sc_seq ?_
  refine sc_seq ?_
  refine sc_reg ?_
  refine Go.XK.s (v := .slice A l.length c) (e_move rfl) ?_
  refine Go.XK.s (v := .int .i64 (l.length : Int)) (e_len Try.underlying22 rfl) ?_
  refine Go.XK.s (v := .bool (decide ((40 : Int) < (l.length : Int)))) (e_gt rfl rfl) ?_
  refine sl_nil (nrm_k ?_)
  refine sc_ifd rfl (fun c11 => ?_) (fun c11 => ?_)
  ·
    refine sc_seq ?_
    refine sc_reg ?_
    refine Go.XK.s (v := .bool true) (e_assign rfl) ?_
    refine sl_nil (nrm_k ?_)
    refine sc_retf rfl (ret1 Try.results5 (rvt rfl) ?_)
    exact ⟨rfl, xw_w1⟩
  ·
    refine sc_skip (nrm_k ?_)
    refine sc_seq ?_
    refine sc_reg ?_
    refine Go.XK.s (v := .slice A l.length c) (e_move rfl) ?_
    refine sl_call ent11 rfl rfl (encode_c l _ _ w1 (hl.ext xw_w1) hlc) (by decide) ?_
    rintro _ w2 ⟨rfl, hw2⟩
    have xw_w2 : Ext w w2 := Ext.tr xw_w1 hw2
    refine Go.XK.s (v := .tuple #[.string (B ((encR l).1)), .int .i64 ((encR l).2)]) (e_move rfl) ?_
    refine Go.XK.s (v := .string (B ((encR l).1))) (e_extract (vs := [.string (B ((encR l).1)), .int .i64 ((encR l).2)]) rfl rfl) ?_
    refine Go.XK.s (v := .int .i64 ((encR l).2)) (e_extract (vs := [.string (B ((encR l).1)), .int .i64 ((encR l).2)]) rfl rfl) ?_
    refine Go.XK.s (v := .string (B ((encR l).1))) (e_assign rfl) ?_
    refine Go.XK.s (v := .int .i64 ((encR l).2)) (e_assign rfl) ?_
    refine sl_nil (nrm_k ?_)
    refine sc_seq ?_
    refine sc_seq ?_
    refine sc_reg ?_
    refine Go.XK.s (v := .int .i64 ((encR l).2)) (e_move rfl) ?_
    refine Go.XK.s (v := .bool (decide ((encR l).2 ≠ 0))) (e_ne rfl rfl) ?_
    refine sl_nil (nrm_k ?_)
    refine sc_ifd rfl (fun c18 => ?_) (fun c18 => ?_)
    ·
      refine sc_seq ?_
      refine sc_reg ?_
      refine Go.XK.s (v := .string (B ((encR l).1))) (e_move rfl) ?_
      refine Go.XK.s (v := .bool (decide ((encR l).1 = []))) (e_seq rfl rfl) ?_
      refine Go.XK.s (v := .bool (decide ((encR l).1 = []))) (e_assign rfl) ?_
      refine sl_nil (nrm_k ?_)
      refine sc_retf rfl (ret1 Try.results5 (rvt rfl) ?_)
      exact ⟨congrArg Value.bool (decide_eq_true (enc_bad c18)), xw_w2⟩
    ·
      have he0 : (encR l).2 = 0 := Classical.not_not.1 c18
      have hSl := enc_length he0
      have hll := enc_ok he0
      refine sc_skip (nrm_k ?_)
      refine sc_seq ?_
      refine sc_reg ?_
      refine Go.XK.s (v := .string (B ((encR l).1))) (e_move rfl) ?_
      refine sl_call ent13 rfl rfl (decode_c ((encR l).1) w2) (by decide) ?_
      rintro _ w3 ⟨vsX, eX, oX, rfl, hdecX, hoDX, hw3⟩
      rw [dec_enc he0] at hdecX
      obtain ⟨e1_, e2_⟩ := Prod.mk.inj hdecX
      subst e1_ e2_
      obtain ⟨AX, cX, hvsX, hlcX, hcmX, hrX⟩ := Own.shape hoDX (fun _ => rfl)
      subst hvsX
      have xw_w3 : Ext w w3 := Ext.tr xw_w2 hw3
      refine Go.XK.s (v := .tuple #[.slice AX l.length cX, .int .i64 0]) (e_move rfl) ?_
      refine Go.XK.s (v := .slice AX l.length cX) (e_extract (vs := [.slice AX l.length cX, .int .i64 0]) rfl rfl) ?_
      refine Go.XK.s (v := .int .i64 0) (e_extract (vs := [.slice AX l.length cX, .int .i64 0]) rfl rfl) ?_
      refine Go.XK.s (v := .slice AX l.length cX) (e_assign rfl) ?_
      refine Go.XK.s (v := .int .i64 0) (e_assign rfl) ?_
      refine sl_nil (nrm_k ?_)
      refine sc_seq ?_
      refine sc_reg ?_
      refine Go.XK.s (v := .string (B ((encR l).1))) (e_move rfl) ?_
      refine Go.XK.s (v := .int .i64 (((encR l).1).length : Int)) (e_slen Try.underlying9 rfl) ?_
      refine Go.XK.s (v := .bool (decide ((((encR l).1).length : Int) = 2048))) (e_eq rfl rfl) ?_
      refine Go.XK.s (v := .bool (decide ((((encR l).1).length : Int) = 2048))) (e_move rfl) ?_
      refine sl_merge 3 32 (.bool ((decide ((((encR l).1).length : Int) = 2048)) && (decide ((0 : Int) = 0)))) ?_ ?_
      · refine sl_case (t := 29) rfl (fun g9_3 => ?_) (fun g9_3 => ?_)
        ·
          refine sl_gev (v := .int .i64 0) rfl rfl g9_3 (e_move rfl) rfl (by decide) ?_
          refine sl_gev (v := .bool (decide ((0 : Int) = 0))) rfl rfl g9_3 (e_eq rfl rfl) rfl (by decide) ?_
          refine Go.XK.s (v := .bool (decide ((0 : Int) = 0))) (e_pickT rfl g9_3 rfl) ?_
          exact sl_nil (fun a ha => ⟨rfl, ha.sub (.cons (by rw [g9_3]; rfl) (sub_self_cons (sub_self_cons (sub_self_cons (Sub.refl _) rfl) rfl) rfl))⟩)
        ·
          refine sl_gskip rfl rfl g9_3 (by decide) ?_
          refine sl_gskip rfl rfl g9_3 (by decide) ?_
          refine Go.XK.s (v := .bool false) (e_pickF rfl g9_3 rfl) ?_
          exact sl_nil (fun a ha => ⟨rfl, ha.sub (.cons (by rw [g9_3]; rfl) (sub_self_cons (sub_self_cons (sub_self_cons (Sub.refl _) rfl) rfl) rfl))⟩)
      refine Go.XK.s (v := .bool ((decide ((((encR l).1).length : Int) = 2048)) && (decide ((0 : Int) = 0)))) (e_move rfl) ?_
      refine sl_mergeW 4 37 (.bool (((decide ((((encR l).1).length : Int) = 2048)) && (decide ((0 : Int) = 0))) && (decide (l = l)))) (fun w_ => Ext w3 w_) ?_ (fun w4 hw4 => ?_)
      · refine sl_case (t := 33) rfl (fun g9_7 => ?_) (fun g9_7 => ?_)
        ·
          refine sl_gev (v := .slice AX l.length cX) rfl rfl g9_7 (e_move rfl) rfl (by decide) ?_
          refine sl_gev (v := .slice A l.length c) rfl rfl g9_7 (e_move rfl) rfl (by decide) ?_
          refine sl_gcall rfl rfl g9_7 ent15 rfl rfl (same_c l l _ _ _ _ w3 hrX (hl.ext xw_w3) (by omega)) (by decide) ?_
          rintro _ w5 ⟨rfl, hw5⟩
          have xw_w5 : Ext w w5 := Ext.tr xw_w3 hw5
          have xw3_w5 : Ext w3 w5 := Ext.tr (Ext.rfl' w3) hw5
          replace hrX := hrX.ext hw5
          refine Go.XK.s (v := .bool (decide (l = l))) (e_pickT rfl g9_7 rfl) ?_
          exact sl_nil (fun a ha => ⟨xw3_w5, ha.sub (.cons (by rw [g9_7]; rfl) (sub_self_cons (sub_self_cons (sub_self_cons (sub_self_cons (Sub.refl _) rfl) rfl) rfl) rfl))⟩)
        ·
          refine sl_gskip rfl rfl g9_7 (by decide) ?_
          refine sl_gskip rfl rfl g9_7 (by decide) ?_
          refine sl_gskip rfl rfl g9_7 (by decide) ?_
          refine Go.XK.s (v := .bool false) (e_pickF rfl g9_7 rfl) ?_
          exact sl_nil (fun a ha => ⟨(Ext.rfl' w3), ha.sub (.cons (by rw [g9_7]; rfl) (sub_self_cons (sub_self_cons (sub_self_cons (sub_self_cons (Sub.refl _) rfl) rfl) rfl) rfl))⟩)
      have xw_w4 : Ext w w4 := Ext.tr xw_w3 hw4
      replace hrX := hrX.ext hw4
      refine Go.XK.s (v := .bool (((decide ((((encR l).1).length : Int) = 2048)) && (decide ((0 : Int) = 0))) && (decide (l = l)))) (e_move rfl) ?_
      refine sl_mergeW 5 43 (.bool ((((decide ((((encR l).1).length : Int) = 2048)) && (decide ((0 : Int) = 0))) && (decide (l = l))) && (decide (wsum 0 ((((encR l).1).take 32).drop 0) = 0)))) (fun w_ => Ext w4 w_) ?_ (fun w6 hw6 => ?_)
      · refine sl_case (t := 38) rfl (fun g9_12 => ?_) (fun g9_12 => ?_)
        ·
          refine sl_gev (v := .string (B ((encR l).1))) rfl rfl g9_12 (e_move rfl) rfl (by decide) ?_
          refine sl_gev (v := .string (B ((((encR l).1).take 32).drop 0))) rfl rfl g9_12 (e_sslice (lo := 0) (hi := 32) Try.underlying9 rfl Bd.no (Bd.at_ rfl rfl) (by omega) (by omega)) rfl (by decide) ?_
          refine sl_gcall rfl rfl g9_12 ent16 rfl rfl (sum_c _ w4 (by simp; omega)) (by decide) ?_
          rintro _ w7 ⟨rfl, hw7⟩
          have xw_w7 : Ext w w7 := Ext.tr xw_w4 hw7
          have xw4_w7 : Ext w4 w7 := Ext.tr (Ext.rfl' w4) hw7
          replace hrX := hrX.ext hw7
          refine sl_gev (v := .bool (decide (wsum 0 ((((encR l).1).take 32).drop 0) = 0))) rfl rfl g9_12 (e_eq rfl rfl) rfl (by decide) ?_
          refine Go.XK.s (v := .bool (decide (wsum 0 ((((encR l).1).take 32).drop 0) = 0))) (e_pickT rfl g9_12 rfl) ?_
          exact sl_nil (fun a ha => ⟨xw4_w7, ha.sub (.cons (by rw [g9_12]; rfl) (sub_self_cons (sub_self_cons (sub_self_cons (sub_self_cons (sub_self_cons (Sub.refl _) rfl) rfl) rfl) rfl) rfl))⟩)
        ·
          refine sl_gskip rfl rfl g9_12 (by decide) ?_
          refine sl_gskip rfl rfl g9_12 (by decide) ?_
          refine sl_gskip rfl rfl g9_12 (by decide) ?_
          refine sl_gskip rfl rfl g9_12 (by decide) ?_
          refine Go.XK.s (v := .bool false) (e_pickF rfl g9_12 rfl) ?_
          exact sl_nil (fun a ha => ⟨(Ext.rfl' w4), ha.sub (.cons (by rw [g9_12]; rfl) (sub_self_cons (sub_self_cons (sub_self_cons (sub_self_cons (sub_self_cons (Sub.refl _) rfl) rfl) rfl) rfl) rfl))⟩)
      have xw_w6 : Ext w w6 := Ext.tr xw_w4 hw6
      replace hrX := hrX.ext hw6
      refine Go.XK.s (v := .bool ((((decide ((((encR l).1).length : Int) = 2048)) && (decide ((0 : Int) = 0))) && (decide (l = l))) && (decide (wsum 0 ((((encR l).1).take 32).drop 0) = 0)))) (e_assign rfl) ?_
      refine sl_nil (nrm_k ?_)
      refine sc_retf rfl (ret1 Try.results5 (rvt rfl) ?_)
      exact ⟨congrArg Value.bool (by rw [enc_sum he0, hSl]; simp), xw_w6⟩

end Go.Proofs.Ytlgkjpmaekkpjaa
