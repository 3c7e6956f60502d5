/- Chapter 27: C9. Printed by my program wip/tools/wk.py. -/
import Derived.Test.YtlgkjpmaekkpjaaC8
import Derived.Test.YtlgkjpmaekkpjaaMath5
set_option linter.unusedVariables false
set_option linter.unusedSimpArgs false
set_option maxRecDepth 4000
set_option maxHeartbeats 1000000
namespace Go.Proofs.Ytlgkjpmaekkpjaa
open Go.XK Go.RowKit
/-- masterdisc/masterdisclaw27.awake (function 10) -/
theorem awake_c (w : World) : CallR Try.prog 10 [] w (fun v w' => v = .bool true ∧ Ext w w') := by
  refine callR_of (n := 58) [] Try.func10 rfl rfl (Nat.le_of_ble_eq_true rfl) rfl ?_
  refine sc_seq ?_
  refine sc_reg ?_
  refine Go.XK.s (v := .bool false) (e_assign rfl) ?_
  refine sl_nil (nrm_k ?_)
  refine sc_seq ?_
  refine sc_reg ?_
  refine Go.XK.s (v := .agg #[.int .i64 0, .int .i64 0, .int .i64 0, .int .i64 4, .int .i64 33, .bool true]) (e_build (vs := [(0, .int .i64 0), (3, .int .i64 4), (4, .int .i64 33), (5, .bool true)]) rfl (by kernel_rfl)) ?_
  refine Go.XK.s (v := .agg #[.int .i64 239, .int .i64 0, .int .i64 0, .int .i64 0, .int .i64 40, .bool false]) (e_build (vs := [(0, .int .i64 239), (4, .int .i64 40)]) rfl (by kernel_rfl)) ?_
  refine s_bslice (vs := [(0, .agg #[.int .i64 0, .int .i64 0, .int .i64 0, .int .i64 4, .int .i64 33, .bool true]), (1, .agg #[.int .i64 239, .int .i64 0, .int .i64 0, .int .i64 0, .int .i64 40, .bool false])]) (e := 34) rfl [.int .i64 0, .int .i64 0, .int .i64 0, .int .i64 4, .int .i64 33, .bool true, .int .i64 239, .int .i64 0, .int .i64 0, .int .i64 0, .int .i64 40, .bool false] (by kernel_rfl) ?_
  intro b8 w1 hb8 he8 hs8 hx8
  have ge_b8 : w.heap.size ≤ b8 := by have h_ := (Below.size (Ext.rfl' w)); omega
  have xw_w1 : Ext w w1 := Ext.tr (Ext.rfl' w) hx8
  refine Go.XK.s (v := .slice (some ⟨b8, 0, none⟩) 2 2) (e_assign rfl) ?_
  refine sl_nil (nrm_k ?_)
  refine sc_seq ?_
  refine sc_reg ?_
  refine Go.XK.s (v := .slice (some ⟨b8, 0, none⟩) 2 2) (e_move rfl) ?_
  refine sl_call ent11 rfl rfl (encode_c l0 _ _ w1 (Rd.ofBlk (xs := l0) hb8 (fun _ => rfl)) (by decide)) (by decide) ?_
  rintro _ w2 ⟨rfl, hw2⟩
  have xw_w2 : Ext w w2 := Ext.tr xw_w1 hw2
  replace hb8 := hb8.ext hw2
  obtain ⟨S, hS⟩ : ∃ S, S = (encR l0).1 := ⟨_, rfl⟩
  obtain ⟨e0, he0⟩ : ∃ e, e = (encR l0).2 := ⟨_, rfl⟩
  rw [← hS, ← he0]
  have hSl : S.length = 2048 := by rw [hS]; exact enc1
  refine Go.XK.s (v := .tuple #[.string (B S), .int .i64 e0]) (e_move rfl) ?_
  refine Go.XK.s (v := .string (B S)) (e_extract (vs := [.string (B S), .int .i64 e0]) rfl rfl) ?_
  refine Go.XK.s (v := .int .i64 e0) (e_extract (vs := [.string (B S), .int .i64 e0]) rfl rfl) ?_
  refine Go.XK.s (v := .string (B S)) (e_assign rfl) ?_
  refine Go.XK.s (v := .int .i64 e0) (e_assign rfl) ?_
  refine sl_nil (nrm_k ?_)
  refine sc_seq ?_
  refine sc_seq ?_
  refine sc_reg ?_
  refine Go.XK.s (v := .int .i64 e0) (e_move rfl) ?_
  refine Go.XK.s (v := .bool (decide (e0 ≠ 0))) (e_ne rfl rfl) ?_
  refine Go.XK.s (v := .bool (decide (e0 ≠ 0))) (e_move rfl) ?_
  refine sl_merge 4 20 (.bool ((decide (e0 ≠ 0)) || (decide ((S.length : Int) ≠ 2048)))) ?_ ?_
  · refine sl_case (t := 16) rfl (fun g3_2 => ?_) (fun g3_2 => ?_)
    ·
      refine sl_gskip rfl rfl g3_2 (by decide) ?_
      refine sl_gskip rfl rfl g3_2 (by decide) ?_
      refine sl_gskip rfl rfl g3_2 (by decide) ?_
      refine Go.XK.s (v := .bool true) (e_pickT rfl g3_2 rfl) ?_
      exact sl_nil (fun a ha => ⟨rfl, ha.sub (.cons (by rw [g3_2]; rfl) (sub_self_cons (sub_self_cons (sub_self_cons (sub_self_cons (Sub.refl _) rfl) rfl) rfl) rfl))⟩)
    ·
      refine sl_gev (v := .string (B S)) rfl rfl g3_2 (e_move rfl) rfl (by decide) ?_
      refine sl_gev (v := .int .i64 (S.length : Int)) rfl rfl g3_2 (e_slen Try.underlying9 rfl) rfl (by decide) ?_
      refine sl_gev (v := .bool (decide ((S.length : Int) ≠ 2048))) rfl rfl g3_2 (e_ne rfl rfl) rfl (by decide) ?_
      refine Go.XK.s (v := .bool (decide ((S.length : Int) ≠ 2048))) (e_pickF rfl g3_2 rfl) ?_
      exact sl_nil (fun a ha => ⟨rfl, ha.sub (.cons (by rw [g3_2]; rfl) (sub_self_cons (sub_self_cons (sub_self_cons (sub_self_cons (Sub.refl _) rfl) rfl) rfl) rfl))⟩)
  refine Go.XK.s (v := .bool ((decide (e0 ≠ 0)) || (decide ((S.length : Int) ≠ 2048)))) (e_move rfl) ?_
  refine sl_merge 4 25 (.bool (((decide (e0 ≠ 0)) || (decide ((S.length : Int) ≠ 2048))) || (decide ((S.take 14).drop 0 ≠ [1, 0, 0, 0, 77, 65, 83, 84, 69, 82, 68, 73, 83, 67])))) ?_ ?_
  · refine sl_case (t := 21) rfl (fun g3_7 => ?_) (fun g3_7 => ?_)
    ·
      refine sl_gskip rfl rfl g3_7 (by decide) ?_
      refine sl_gskip rfl rfl g3_7 (by decide) ?_
      refine sl_gskip rfl rfl g3_7 (by decide) ?_
      refine Go.XK.s (v := .bool true) (e_pickT rfl g3_7 rfl) ?_
      exact sl_nil (fun a ha => ⟨rfl, ha.sub (.cons (by rw [g3_7]; rfl) (sub_self_cons (sub_self_cons (sub_self_cons (sub_self_cons (Sub.refl _) rfl) rfl) rfl) rfl))⟩)
    ·
      refine sl_gev (v := .string (B S)) rfl rfl g3_7 (e_move rfl) rfl (by decide) ?_
      refine sl_gev (v := .string (B ((S.take 14).drop 0))) rfl rfl g3_7 (e_sslice (lo := 0) (hi := 14) Try.underlying9 rfl Bd.no (Bd.at_ rfl rfl) (by decide) (by omega)) rfl (by decide) ?_
      refine sl_gev (v := .bool (decide ((S.take 14).drop 0 ≠ [1, 0, 0, 0, 77, 65, 83, 84, 69, 82, 68, 73, 83, 67]))) rfl rfl g3_7 (e_sne rfl rfl) rfl (by decide) ?_
      refine Go.XK.s (v := .bool (decide ((S.take 14).drop 0 ≠ [1, 0, 0, 0, 77, 65, 83, 84, 69, 82, 68, 73, 83, 67]))) (e_pickF rfl g3_7 rfl) ?_
      exact sl_nil (fun a ha => ⟨rfl, ha.sub (.cons (by rw [g3_7]; rfl) (sub_self_cons (sub_self_cons (sub_self_cons (sub_self_cons (Sub.refl _) rfl) rfl) rfl) rfl))⟩)
  refine Go.XK.s (v := .bool (((decide (e0 ≠ 0)) || (decide ((S.length : Int) ≠ 2048))) || (decide ((S.take 14).drop 0 ≠ [1, 0, 0, 0, 77, 65, 83, 84, 69, 82, 68, 73, 83, 67])))) (e_move rfl) ?_
  refine sl_merge 4 30 (.bool ((((decide (e0 ≠ 0)) || (decide ((S.length : Int) ≠ 2048))) || (decide ((S.take 14).drop 0 ≠ [1, 0, 0, 0, 77, 65, 83, 84, 69, 82, 68, 73, 83, 67]))) || (decide ((S.take 44).drop 30 ≠ [85, 170, 136, 0, 0, 0, 0, 0, 4, 0, 33, 0, 0, 0])))) ?_ ?_
  · refine sl_case (t := 26) rfl (fun g3_12 => ?_) (fun g3_12 => ?_)
    ·
      refine sl_gskip rfl rfl g3_12 (by decide) ?_
      refine sl_gskip rfl rfl g3_12 (by decide) ?_
      refine sl_gskip rfl rfl g3_12 (by decide) ?_
      refine Go.XK.s (v := .bool true) (e_pickT rfl g3_12 rfl) ?_
      exact sl_nil (fun a ha => ⟨rfl, ha.sub (.cons (by rw [g3_12]; rfl) (sub_self_cons (sub_self_cons (sub_self_cons (sub_self_cons (Sub.refl _) rfl) rfl) rfl) rfl))⟩)
    ·
      refine sl_gev (v := .string (B S)) rfl rfl g3_12 (e_move rfl) rfl (by decide) ?_
      refine sl_gev (v := .string (B ((S.take 44).drop 30))) rfl rfl g3_12 (e_sslice (lo := 30) (hi := 44) Try.underlying9 rfl (Bd.at_ rfl rfl) (Bd.at_ rfl rfl) (by decide) (by omega)) rfl (by decide) ?_
      refine sl_gev (v := .bool (decide ((S.take 44).drop 30 ≠ [85, 170, 136, 0, 0, 0, 0, 0, 4, 0, 33, 0, 0, 0]))) rfl rfl g3_12 (e_sne rfl rfl) rfl (by decide) ?_
      refine Go.XK.s (v := .bool (decide ((S.take 44).drop 30 ≠ [85, 170, 136, 0, 0, 0, 0, 0, 4, 0, 33, 0, 0, 0]))) (e_pickF rfl g3_12 rfl) ?_
      exact sl_nil (fun a ha => ⟨rfl, ha.sub (.cons (by rw [g3_12]; rfl) (sub_self_cons (sub_self_cons (sub_self_cons (sub_self_cons (Sub.refl _) rfl) rfl) rfl) rfl))⟩)
  refine Go.XK.s (v := .bool ((((decide (e0 ≠ 0)) || (decide ((S.length : Int) ≠ 2048))) || (decide ((S.take 14).drop 0 ≠ [1, 0, 0, 0, 77, 65, 83, 84, 69, 82, 68, 73, 83, 67]))) || (decide ((S.take 44).drop 30 ≠ [85, 170, 136, 0, 0, 0, 0, 0, 4, 0, 33, 0, 0, 0])))) (e_move rfl) ?_
  refine sl_merge 4 35 (.bool (((((decide (e0 ≠ 0)) || (decide ((S.length : Int) ≠ 2048))) || (decide ((S.take 14).drop 0 ≠ [1, 0, 0, 0, 77, 65, 83, 84, 69, 82, 68, 73, 83, 67]))) || (decide ((S.take 44).drop 30 ≠ [85, 170, 136, 0, 0, 0, 0, 0, 4, 0, 33, 0, 0, 0]))) || (decide ((S.take 68).drop 64 ≠ [145, 239, 1, 0])))) ?_ ?_
  · refine sl_case (t := 31) rfl (fun g3_17 => ?_) (fun g3_17 => ?_)
    ·
      refine sl_gskip rfl rfl g3_17 (by decide) ?_
      refine sl_gskip rfl rfl g3_17 (by decide) ?_
      refine sl_gskip rfl rfl g3_17 (by decide) ?_
      refine Go.XK.s (v := .bool true) (e_pickT rfl g3_17 rfl) ?_
      exact sl_nil (fun a ha => ⟨rfl, ha.sub (.cons (by rw [g3_17]; rfl) (sub_self_cons (sub_self_cons (sub_self_cons (sub_self_cons (Sub.refl _) rfl) rfl) rfl) rfl))⟩)
    ·
      refine sl_gev (v := .string (B S)) rfl rfl g3_17 (e_move rfl) rfl (by decide) ?_
      refine sl_gev (v := .string (B ((S.take 68).drop 64))) rfl rfl g3_17 (e_sslice (lo := 64) (hi := 68) Try.underlying9 rfl (Bd.at_ rfl rfl) (Bd.at_ rfl rfl) (by decide) (by omega)) rfl (by decide) ?_
      refine sl_gev (v := .bool (decide ((S.take 68).drop 64 ≠ [145, 239, 1, 0]))) rfl rfl g3_17 (e_sne rfl rfl) rfl (by decide) ?_
      refine Go.XK.s (v := .bool (decide ((S.take 68).drop 64 ≠ [145, 239, 1, 0]))) (e_pickF rfl g3_17 rfl) ?_
      exact sl_nil (fun a ha => ⟨rfl, ha.sub (.cons (by rw [g3_17]; rfl) (sub_self_cons (sub_self_cons (sub_self_cons (sub_self_cons (Sub.refl _) rfl) rfl) rfl) rfl))⟩)
  refine sl_nil (nrm_k ?_)
  refine sc_no rfl (by rw [hS, he0]; exact aw1) ?_
  refine sc_skip (nrm_k ?_)
  refine sc_seq ?_
  refine sc_reg ?_
  refine Go.XK.s (v := .string (B S)) (e_move rfl) ?_
  refine sl_call ent13 rfl rfl (decode_c S w2) (by decide) ?_
  rintro _ w3 ⟨vsD, eD, oD, rfl, hdecD, hoDD, hw3⟩
  rw [hS, dec0] at hdecD
  cases hdecD
  obtain ⟨AD, cD, hvsD, hlcD, hcmD, hrD⟩ := Own.shape hoDD (fun _ => rfl)
  subst hvsD
  have xw_w3 : Ext w w3 := Ext.tr xw_w2 hw3
  replace hb8 := hb8.ext hw3
  refine Go.XK.s (v := .tuple #[.slice AD l0.length cD, .int .i64 0]) (e_move rfl) ?_
  refine Go.XK.s (v := .slice AD l0.length cD) (e_extract (vs := [.slice AD l0.length cD, .int .i64 0]) rfl rfl) ?_
  refine Go.XK.s (v := .int .i64 0) (e_extract (vs := [.slice AD l0.length cD, .int .i64 0]) rfl rfl) ?_
  refine Go.XK.s (v := .slice AD l0.length cD) (e_assign rfl) ?_
  refine Go.XK.s (v := .int .i64 0) (e_assign rfl) ?_
  refine sl_nil (nrm_k ?_)
  refine sc_seq ?_
  refine sc_reg ?_
  refine Go.XK.s (v := .int .i64 0) (e_move rfl) ?_
  refine Go.XK.s (v := .bool (decide ((0 : Int) = 0))) (e_eq rfl rfl) ?_
  refine Go.XK.s (v := .bool (decide ((0 : Int) = 0))) (e_move rfl) ?_
  refine sl_mergeW 4 47 (.bool ((decide ((0 : Int) = 0)) && (decide (l0 = l0)))) (fun w_ => Ext w3 w_) ?_ (fun w4 hw4 => ?_)
  · refine sl_case (t := 43) rfl (fun g6_2 => ?_) (fun g6_2 => ?_)
    ·
      refine sl_gev (v := .slice AD l0.length cD) rfl rfl g6_2 (e_move rfl) rfl (by decide) ?_
      refine sl_gev (v := .slice (some ⟨b8, 0, none⟩) 2 2) rfl rfl g6_2 (e_move rfl) rfl (by decide) ?_
      refine sl_gcall rfl rfl g6_2 ent15 rfl rfl (same_c l0 l0 _ _ _ _ w3 hrD (Rd.ofBlk (xs := l0) hb8 (fun _ => rfl)) (by decide)) (by decide) ?_
      rintro _ w5 ⟨rfl, hw5⟩
      have xw_w5 : Ext w w5 := Ext.tr xw_w3 hw5
      have xw3_w5 : Ext w3 w5 := Ext.tr (Ext.rfl' w3) hw5
      replace hb8 := hb8.ext hw5
      replace hrD := hrD.ext hw5
      refine Go.XK.s (v := .bool (decide (l0 = l0))) (e_pickT rfl g6_2 rfl) ?_
      exact sl_nil (fun a ha => ⟨xw3_w5, ha.sub (.cons (by rw [g6_2]; rfl) (sub_self_cons (sub_self_cons (sub_self_cons (sub_self_cons (Sub.refl _) rfl) rfl) rfl) rfl))⟩)
    ·
      refine sl_gskip rfl rfl g6_2 (by decide) ?_
      refine sl_gskip rfl rfl g6_2 (by decide) ?_
      refine sl_gskip rfl rfl g6_2 (by decide) ?_
      refine Go.XK.s (v := .bool false) (e_pickF rfl g6_2 rfl) ?_
      exact sl_nil (fun a ha => ⟨(Ext.rfl' w3), ha.sub (.cons (by rw [g6_2]; rfl) (sub_self_cons (sub_self_cons (sub_self_cons (sub_self_cons (Sub.refl _) rfl) rfl) rfl) rfl))⟩)
  have xw_w4 : Ext w w4 := Ext.tr xw_w3 hw4
  replace hb8 := hb8.ext hw4
  replace hrD := hrD.ext hw4
  refine Go.XK.s (v := .bool ((decide ((0 : Int) = 0)) && (decide (l0 = l0)))) (e_move rfl) ?_
  refine sl_mergeW 5 53 (.bool (((decide ((0 : Int) = 0)) && (decide (l0 = l0))) && (decide (wsum 0 ((S.take 32).drop 0) = 0)))) (fun w_ => Ext w4 w_) ?_ (fun w6 hw6 => ?_)
  · refine sl_case (t := 48) rfl (fun g6_7 => ?_) (fun g6_7 => ?_)
    ·
      refine sl_gev (v := .string (B S)) rfl rfl g6_7 (e_move rfl) rfl (by decide) ?_
      refine sl_gev (v := .string (B ((S.take 32).drop 0))) rfl rfl g6_7 (e_sslice (lo := 0) (hi := 32) Try.underlying9 rfl Bd.no (Bd.at_ rfl rfl) (by decide) (by omega)) rfl (by decide) ?_
      refine sl_gcall rfl rfl g6_7 ent16 rfl rfl (sum_c _ w4 (by simp; omega)) (by decide) ?_
      rintro _ w7 ⟨rfl, hw7⟩
      have xw_w7 : Ext w w7 := Ext.tr xw_w4 hw7
      have xw4_w7 : Ext w4 w7 := Ext.tr (Ext.rfl' w4) hw7
      replace hb8 := hb8.ext hw7
      replace hrD := hrD.ext hw7
      refine sl_gev (v := .bool (decide (wsum 0 ((S.take 32).drop 0) = 0))) rfl rfl g6_7 (e_eq rfl rfl) rfl (by decide) ?_
      refine Go.XK.s (v := .bool (decide (wsum 0 ((S.take 32).drop 0) = 0))) (e_pickT rfl g6_7 rfl) ?_
      exact sl_nil (fun a ha => ⟨xw4_w7, ha.sub (.cons (by rw [g6_7]; rfl) (sub_self_cons (sub_self_cons (sub_self_cons (sub_self_cons (sub_self_cons (Sub.refl _) rfl) rfl) rfl) rfl) rfl))⟩)
    ·
      refine sl_gskip rfl rfl g6_7 (by decide) ?_
      refine sl_gskip rfl rfl g6_7 (by decide) ?_
      refine sl_gskip rfl rfl g6_7 (by decide) ?_
      refine sl_gskip rfl rfl g6_7 (by decide) ?_
      refine Go.XK.s (v := .bool false) (e_pickF rfl g6_7 rfl) ?_
      exact sl_nil (fun a ha => ⟨(Ext.rfl' w4), ha.sub (.cons (by rw [g6_7]; rfl) (sub_self_cons (sub_self_cons (sub_self_cons (sub_self_cons (sub_self_cons (Sub.refl _) rfl) rfl) rfl) rfl) rfl))⟩)
  have xw_w6 : Ext w w6 := Ext.tr xw_w4 hw6
  replace hb8 := hb8.ext hw6
  replace hrD := hrD.ext hw6
  refine Go.XK.s (v := .bool (((decide ((0 : Int) = 0)) && (decide (l0 = l0))) && (decide (wsum 0 ((S.take 32).drop 0) = 0)))) (e_move rfl) ?_
  refine sl_mergeW 3 57 (.bool ((((decide ((0 : Int) = 0)) && (decide (l0 = l0))) && (decide (wsum 0 ((S.take 32).drop 0) = 0))) && (decide (wsum 0 [1, 2, 255, 255, 9] = 512)))) (fun w_ => Ext w6 w_) ?_ (fun w8 hw8 => ?_)
  · refine sl_case (t := 54) rfl (fun g6_13 => ?_) (fun g6_13 => ?_)
    ·
      refine sl_gcall rfl rfl g6_13 ent16 rfl rfl (sum_c _ w6 (by decide)) (by decide) ?_
      rintro _ w9 ⟨rfl, hw9⟩
      have xw_w9 : Ext w w9 := Ext.tr xw_w6 hw9
      have xw6_w9 : Ext w6 w9 := Ext.tr (Ext.rfl' w6) hw9
      replace hb8 := hb8.ext hw9
      replace hrD := hrD.ext hw9
      refine sl_gev (v := .bool (decide (wsum 0 [1, 2, 255, 255, 9] = 512))) rfl rfl g6_13 (e_eq rfl rfl) rfl (by decide) ?_
      refine Go.XK.s (v := .bool (decide (wsum 0 [1, 2, 255, 255, 9] = 512))) (e_pickT rfl g6_13 rfl) ?_
      exact sl_nil (fun a ha => ⟨xw6_w9, ha.sub (.cons (by rw [g6_13]; rfl) (sub_self_cons (sub_self_cons (sub_self_cons (Sub.refl _) rfl) rfl) rfl))⟩)
    ·
      refine sl_gskip rfl rfl g6_13 (by decide) ?_
      refine sl_gskip rfl rfl g6_13 (by decide) ?_
      refine Go.XK.s (v := .bool false) (e_pickF rfl g6_13 rfl) ?_
      exact sl_nil (fun a ha => ⟨(Ext.rfl' w6), ha.sub (.cons (by rw [g6_13]; rfl) (sub_self_cons (sub_self_cons (sub_self_cons (Sub.refl _) rfl) rfl) rfl))⟩)
  have xw_w8 : Ext w w8 := Ext.tr xw_w6 hw8
  replace hb8 := hb8.ext hw8
  replace hrD := hrD.ext hw8
  refine Go.XK.s (v := .bool ((((decide ((0 : Int) = 0)) && (decide (l0 = l0))) && (decide (wsum 0 ((S.take 32).drop 0) = 0))) && (decide (wsum 0 [1, 2, 255, 255, 9] = 512)))) (e_assign rfl) ?_
  refine sl_nil (nrm_k ?_)
  refine sc_retf rfl (ret1 Try.results10 (rvt rfl) ?_)
  exact ⟨congrArg Value.bool (by rw [hS]; exact aw2), xw_w8⟩

/-- masterdisc/masterdisclaw27.EltoritoEncodes (function 3) -/
theorem encodes_c (l : List Img) (A : Option Addr) (c : Nat) (w : World) (hl : Rd w A 6 Img.enc l) (hlc : l.length ≤ c) : CallR Try.prog 3 [.slice A l.length c] w (fun v w' => v = .bool true ∧ Ext w w') := by
  refine callR_of (n := 30) [(0, .slice A l.length c)] Try.func3 rfl rfl (Nat.le_of_ble_eq_true rfl) rfl ?_
  refine sc_seq ?_
  refine sc_reg ?_
  refine Go.XK.s (v := .bool false) (e_assign rfl) ?_
  refine sl_nil (nrm_k ?_)
  refine sc_seq ?_
  refine sc_seq ?_
  refine sc_reg ?_
  refine sl_call ent10 rfl rfl (awake_c w) (by decide) ?_
  rintro _ w1 ⟨rfl, hw1⟩
  have xw_w1 : Ext w w1 := Ext.tr (Ext.rfl' w) hw1
  refine Go.XK.s (v := .bool false) (e_not (b := true) rfl) ?_
  refine sl_nil (nrm_k ?_)
  refine sc_no rfl rfl ?_
  refine sc_skip (nrm_k ?_)
  refine sc_seq ?_
  refine sc_seq ?_
  refine sc_reg ?_
  refine Go.XK.s (v := .slice A l.length c) (e_move rfl) ?_
  refine Go.XK.s (v := .int .i64 (l.length : Int)) (e_len Try.underlying22 rfl) ?_
  refine Go.XK.s (v := .bool (decide ((40 : Int) < (l.length : Int)))) (e_gt rfl rfl) ?_
  refine sl_nil (nrm_k ?_)
  refine sc_ifd rfl (fun c11 => ?_) (fun c11 => ?_)
  ·
    refine sc_seq ?_
    refine sc_reg ?_
    refine Go.XK.s (v := .bool true) (e_assign rfl) ?_
    refine sl_nil (nrm_k ?_)
    refine sc_retf rfl (ret1 Try.results3 (rvt rfl) ?_)
    exact ⟨rfl, xw_w1⟩
  ·
    refine sc_skip (nrm_k ?_)
    refine sc_seq ?_
    refine sc_reg ?_
    refine Go.XK.s (v := .slice A l.length c) (e_move rfl) ?_
    refine sl_call ent11 rfl rfl (encode_c l _ _ w1 (hl.ext xw_w1) hlc) (by decide) ?_
    rintro _ w2 ⟨rfl, hw2⟩
    have xw_w2 : Ext w w2 := Ext.tr xw_w1 hw2
    refine Go.XK.s (v := .tuple #[.string (B ((encR l).1)), .int .i64 ((encR l).2)]) (e_move rfl) ?_
    refine Go.XK.s (v := .string (B ((encR l).1))) (e_extract (vs := [.string (B ((encR l).1)), .int .i64 ((encR l).2)]) rfl rfl) ?_
    refine Go.XK.s (v := .int .i64 ((encR l).2)) (e_extract (vs := [.string (B ((encR l).1)), .int .i64 ((encR l).2)]) rfl rfl) ?_
    refine Go.XK.s (v := .string (B ((encR l).1))) (e_assign rfl) ?_
    refine Go.XK.s (v := .int .i64 ((encR l).2)) (e_assign rfl) ?_
    refine sl_nil (nrm_k ?_)
    refine sc_seq ?_
    refine sc_reg ?_
    refine Go.XK.s (v := .slice A l.length c) (e_move rfl) ?_
    refine sl_call ent12 rfl rfl (rencode_c l _ _ w2 (hl.ext xw_w2) hlc) (by decide) ?_
    rintro _ w3 ⟨rfl, hw3⟩
    have xw_w3 : Ext w w3 := Ext.tr xw_w2 hw3
    refine Go.XK.s (v := .tuple #[.string (B ((encR l).1)), .int .i64 ((encR l).2)]) (e_move rfl) ?_
    refine Go.XK.s (v := .string (B ((encR l).1))) (e_extract (vs := [.string (B ((encR l).1)), .int .i64 ((encR l).2)]) rfl rfl) ?_
    refine Go.XK.s (v := .int .i64 ((encR l).2)) (e_extract (vs := [.string (B ((encR l).1)), .int .i64 ((encR l).2)]) rfl rfl) ?_
    refine Go.XK.s (v := .string (B ((encR l).1))) (e_assign rfl) ?_
    refine Go.XK.s (v := .int .i64 ((encR l).2)) (e_assign rfl) ?_
    refine sl_nil (nrm_k ?_)
    refine sc_seq ?_
    refine sc_reg ?_
    refine Go.XK.s (v := .string (B ((encR l).1))) (e_move rfl) ?_
    refine Go.XK.s (v := .string (B ((encR l).1))) (e_move rfl) ?_
    refine Go.XK.s (v := .bool (decide ((encR l).1 = (encR l).1))) (e_seq rfl rfl) ?_
    refine Go.XK.s (v := .bool (decide ((encR l).1 = (encR l).1))) (e_move rfl) ?_
    refine sl_merge 4 29 (.bool ((decide ((encR l).1 = (encR l).1)) && (decide ((encR l).2 = (encR l).2)))) ?_ ?_
    · refine sl_case (t := 25) rfl (fun g7_3 => ?_) (fun g7_3 => ?_)
      ·
        refine sl_gev (v := .int .i64 ((encR l).2)) rfl rfl g7_3 (e_move rfl) rfl (by decide) ?_
        refine sl_gev (v := .int .i64 ((encR l).2)) rfl rfl g7_3 (e_move rfl) rfl (by decide) ?_
        refine sl_gev (v := .bool (decide ((encR l).2 = (encR l).2))) rfl rfl g7_3 (e_eq rfl rfl) rfl (by decide) ?_
        refine Go.XK.s (v := .bool (decide ((encR l).2 = (encR l).2))) (e_pickT rfl g7_3 rfl) ?_
        exact sl_nil (fun a ha => ⟨rfl, ha.sub (.cons (by rw [g7_3]; rfl) (sub_self_cons (sub_self_cons (sub_self_cons (sub_self_cons (Sub.refl _) rfl) rfl) rfl) rfl))⟩)
      ·
        refine sl_gskip rfl rfl g7_3 (by decide) ?_
        refine sl_gskip rfl rfl g7_3 (by decide) ?_
        refine sl_gskip rfl rfl g7_3 (by decide) ?_
        refine Go.XK.s (v := .bool false) (e_pickF rfl g7_3 rfl) ?_
        exact sl_nil (fun a ha => ⟨rfl, ha.sub (.cons (by rw [g7_3]; rfl) (sub_self_cons (sub_self_cons (sub_self_cons (sub_self_cons (Sub.refl _) rfl) rfl) rfl) rfl))⟩)
    refine Go.XK.s (v := .bool ((decide ((encR l).1 = (encR l).1)) && (decide ((encR l).2 = (encR l).2)))) (e_assign rfl) ?_
    refine sl_nil (nrm_k ?_)
    refine sc_retf rfl (ret1 Try.results3 (rvt rfl) ?_)
    exact ⟨by simp, xw_w3⟩

end Go.Proofs.Ytlgkjpmaekkpjaa
