/- Chapter 24: C12. Printed by my program wip/tools/wk.py. -/
import Derived.Test.YtnbclhbpjlpcoaaMath5
set_option linter.unusedVariables false
set_option linter.unusedSimpArgs false
set_option maxRecDepth 4000
set_option maxHeartbeats 1000000
namespace Go.Proofs.Ytnbclhbpjlpcoaa
open Go.XK Go.RowKit
theorem jE_0 : jE.1[(0 : Int).toNat]? = some o0 := by
  show jE.1[0]? = some (jE.1.getD 0 [])
  rw [List.getD_eq_getElem?_getD, List.getElem?_eq_getElem (by rw [jE_len]; decide)]; rfl
theorem jE_1 : jE.1[(1 : Int).toNat]? = some o1 := by
  show jE.1[1]? = some (jE.1.getD 1 [])
  rw [List.getD_eq_getElem?_getD, List.getElem?_eq_getElem (by rw [jE_len]; decide)]; rfl
theorem enc_k (b : Nat) (w : World) (hb : Blk w b 41 [.string (B [78, 77]), .int .i64 1, .string (B [0, 97, 98])]) : CallR Try.prog 11 [.slice (some ⟨b, 0, none⟩) 1 1] w (fun v w' => v = .tuple #[.string (B [78, 77, 7, 1, 0, 97, 98]), .int .i64 0] ∧ Ext w w') := by
  have h : CallR Try.prog 11 [.slice (some ⟨b, 0, none⟩) 1 1] w (fun v w' => v = .tuple #[.string (B (encR [eN]).1), .int .i64 (encR [eN]).2] ∧ Ext w w') := encode_c [eN] (some ⟨b, 0, none⟩) 1 w (slr_one hb) (fun x hx => by simp at hx; subst hx; decide)
  rwa [encN] at h
theorem dec_k (w : World) : CallR Try.prog 13 [.string (B ([78, 77, 7, 1, 0, 97, 98] ++ [0, 0, 0, 0]))] w (fun v w' => ∃ v1, v = .tuple #[v1, .int .i64 0] ∧ Go.XK.Own w' w.heap.size 41 3 encE v1 [eN] ∧ Ext w w') := by
  have h := decode_c ([78, 77, 7, 1, 0, 97, 98] ++ [0, 0, 0, 0]) w (by simp)
  rwa [decN] at h
theorem exE_sl : ∀ x ∈ exE, x.g.length ≤ 9223372036854775807 := by decide +kernel
theorem gE_of {gs : List Gp} (h : gs.map (·.l) = gE) : ∃ g0 g1, gs = [g0, g1] ∧ g0.l = [eX] ∧ g1.l = [eX, eX] := by
  match gs, h with
  | [], h => simp [gE] at h
  | [_], h => simp [gE] at h
  | [g0, g1], h =>
    simp only [List.map_cons, List.map_nil, gE, List.cons.injEq, and_true] at h
    exact ⟨g0, g1, rfl, h.1, h.2⟩
  | _ :: _ :: _ :: _, h => simp [gE] at h
theorem groups_k (A : Option Addr) (c : Nat) (w : World) (hl : SlR w A c 3 encE exE) : CallR Try.prog 18 [.slice A exE.length c, .int .i64 200] w (fun v w' => ∃ v1 g0 g1, v = .tuple #[v1, .int .i64 0] ∧ g0.l = [eX] ∧ g1.l = [eX, eX] ∧ Go.XK.Own w' w.heap.size 22 1 encG v1 [g0, g1] ∧ OwG w' w.heap.size [g0, g1] ∧ Ext w w') := by
  have h := groups_c exE A c 200 w hl exE_sl
  rw [grpE] at h
  refine CallR.mono h ?_
  rintro v w' ⟨v1, gs, hv, hq, ho, hog, hx⟩
  obtain ⟨g0, g1, rfl, h0, h1⟩ := gE_of hq
  exact ⟨v1, g0, g1, hv, h0, h1, ho, hog, hx⟩
theorem gmap {g0 g1 : Gp} (h0 : g0.l = [eX]) (h1 : g1.l = [eX, eX]) : [g0, g1].map (·.l) = gE := by simp [h0, h1, gE]
theorem gsz {g0 g1 : Gp} (h0 : g0.l = [eX]) (h1 : g1.l = [eX, eX]) : ∀ g ∈ [g0, g1], szL g.l ≤ 1000000 := fun g hg => by
  simp only [List.mem_cons, List.not_mem_nil, or_false] at hg
  rcases hg with rfl | rfl
  · rw [h0]; decide +kernel
  · rw [h1]; decide +kernel
theorem gsl {g0 g1 : Gp} (h0 : g0.l = [eX]) (h1 : g1.l = [eX, eX]) : ∀ g ∈ [g0, g1], ∀ x ∈ g.l, x.g.length ≤ 9223372036854775807 := fun g hg x hx => by
  simp only [List.mem_cons, List.not_mem_nil, or_false] at hg
  rcases hg with rfl | rfl
  · rw [h0] at hx; simp at hx; subst hx; decide +kernel
  · rw [h1] at hx; simp at hx; subst hx; decide +kernel
theorem join_k (g0 g1 : Gp) (Ag : Option Addr) (cg b : Nat) (w : World) (hg : SlR w Ag cg 1 encG [g0, g1]) (hin : InG w [g0, g1]) (h0 : g0.l = [eX]) (h1 : g1.l = [eX, eX]) (hb : Blk w b 53 [.int .i64 1, .int .i64 7]) : CallR Try.prog 33 [.slice Ag [g0, g1].length cg, .slice (some ⟨b, 0, none⟩) 1 1] w (fun v w' => ∃ v1, v = .tuple #[v1, .int .i64 0] ∧ Go.XK.Own w' w.heap.size 9 1 encS v1 jE.1 ∧ Ext w w') := by
  have h : CallR Try.prog 33 [.slice Ag [g0, g1].length cg, .slice (some ⟨b, 0, none⟩) 1 1] w _ := join_c [g0, g1] Ag cg [⟨1, 7⟩] (some ⟨b, 0, none⟩) 1 w hg hin ⟨Rd.ofBlk (xs := [(⟨1, 7⟩ : Pl)]) hb (fun _ => rfl), by simp, by decide, fun h_ => by cases h_⟩ (gsz h0 h1) (by simp) (gsl h0 h1)
  rw [gmap h0 h1] at h
  refine CallR.mono h ?_
  rintro v w' ⟨v1, hv, ho, hx⟩
  exact ⟨v1, by rw [hv]; exact congrArg (fun z => Value.tuple #[v1, .int .i64 z]) jE_2, ho, hx⟩
theorem lens_k (g0 g1 : Gp) (Ag : Option Addr) (cg : Nat) (w : World) (hg : SlR w Ag cg 1 encG [g0, g1]) (hin : InG w [g0, g1]) (h0 : g0.l = [eX]) (h1 : g1.l = [eX, eX]) : CallR Try.prog 22 [.slice Ag [g0, g1].length cg] w (fun v w' => Go.XK.Own w' w.heap.size 3 1 encI v [128, 200] ∧ Ext w w') := by
  have h := lens_c [g0, g1] Ag cg w hg hin (gsz h0 h1) (by simp)
  rwa [gmap h0 h1, lenE] at h
theorem walk_k (b : Nat) (w : World) (hb : Blk w b 9 [.string (B []), .string (B ((Lib.repeatL [0] 7 ++ o1) ++ Lib.repeatL [0] 1841))]) : CallR Try.prog 35 [.slice (some ⟨b, 0, none⟩) 2 2, .string (B ([63, 63] ++ o0)), .int .i64 2] w (fun v w' => ∃ v1, v = .tuple #[v1, .int .i64 0, .int .i64 0] ∧ Go.XK.Own w' w.heap.size 41 3 encE v1 exE ∧ Ext w w') := by
  have h : CallR Try.prog 35 [.slice (some ⟨b, 0, none⟩) 2 2, .string (B useE), .int .i64 2] w _ := walk_c imE (some ⟨b, 0, none⟩) 2 useE 2 w ⟨Rd.ofBlk (xs := imE) hb (fun _ => rfl), by simp [imE], by decide, fun h_ => by cases h_⟩ (by rw [useE, List.length_append, o0_len]; decide)
  rwa [walkE] at h
theorem size_k (A : Option Addr) (c : Nat) (w : World) (hl : SlR w A c 3 encE exE) : CallR Try.prog 15 [.slice A exE.length c] w (fun v w' => v = .int .i64 300 ∧ Ext w w') := by
  have h := size_b exE A c w hl (by rw [szE300]; decide)
  rwa [szE300] at h
theorem ind_k (w : World) : CallR Try.prog 24 [.int .i64 2] w (fun v w' => v = .tuple #[.agg #[.string (B [83, 80]), .int .i64 1, .string (B [190, 239, 2])], .int .i64 0] ∧ Ext w w') := by
  have h := ind_c 2 w
  rwa [indE] at h
theorem refr_k (w : World) : CallR Try.prog 28 [.string (B [73, 68]), .string (B [100]), .string (B [115]), .int .i64 1] w (fun v w' => v = .tuple #[.agg #[.string (B [69, 82]), .int .i64 1, .string (B [2, 1, 1, 1, 73, 68, 100, 115])], .int .i64 0] ∧ Ext w w') := by
  have h := refr_c [73, 68] [100] [115] 1 w (by decide) (by decide) (by decide)
  rwa [refE1] at h
theorem inds_k (w : World) : CallR Try.prog 26 [.string (B [83, 80, 7, 1, 190, 239, 2])] w (fun v w' => v = .tuple #[.int .i64 2, .bool true] ∧ Ext w w') := by
  have h := inds_c [83, 80, 7, 1, 190, 239, 2] w
  rwa [indsE] at h
theorem refs_k (b : Nat) (w : World) (hb : Blk w b 41 [.string (B [69, 82]), .int .i64 1, .string (B [2, 1, 1, 1, 73, 68, 100, 115])]) : CallR Try.prog 31 [.slice (some ⟨b, 0, none⟩) 1 1] w (fun v w' => Go.XK.Own w' w.heap.size 9 1 encS v [[73, 68]] ∧ Ext w w') := by
  have h : CallR Try.prog 31 [.slice (some ⟨b, 0, none⟩) 1 1] w _ := refs_c [⟨[69, 82], 1, [2, 1, 1, 1, 73, 68, 100, 115]⟩] (some ⟨b, 0, none⟩) 1 w (slr_one hb) (fun x hx => by simp at hx; subst hx; decide) (by decide)
  rwa [refE2] at h
theorem eqI_k (A : Option Addr) (c b : Nat) (w : World) (hl : SlR w A c 1 encI [128, 200]) (hb : Blk w b 3 [.int .i64 128, .int .i64 200]) : CallR Try.prog 21 [.slice A ([128, 200] : List Int).length c, .slice (some ⟨b, 0, none⟩) 2 2] w (fun v w' => v = .bool true ∧ Ext w w') := by
  have h2 : SlR w (some ⟨b, 0, none⟩) 2 1 encI ([128, 200] : List Int) := ⟨Rd.ofBlk (xs := ([128, 200] : List Int)) hb (fun _ => rfl), by simp, by decide, fun h_ => by cases h_⟩
  have h := equalI_c _ _ _ _ _ _ w hl h2
  rwa [decide_eq_true rfl] at h
theorem eqS_k (A : Option Addr) (c b : Nat) (w : World) (hl : SlR w A c 1 encS [[73, 68]]) (hb : Blk w b 9 [.string (B [73, 68])]) : CallR Try.prog 30 [.slice A ([[73, 68]] : List (List UInt8)).length c, .slice (some ⟨b, 0, none⟩) 1 1] w (fun v w' => v = .bool true ∧ Ext w w') := by
  have h2 : SlR w (some ⟨b, 0, none⟩) 1 1 encS ([[73, 68]] : List (List UInt8)) := ⟨Rd.ofBlk (xs := ([[73, 68]] : List (List UInt8))) hb (fun _ => rfl), by simp, by decide, fun h_ => by cases h_⟩
  have h := equalS_c _ _ _ _ _ _ w hl h2
  rwa [decide_eq_true rfl] at h

/-- masterdisc/masterdisclaw24.example (function 43) -/
theorem example_c (w : World) : CallR Try.prog 43 [] w (fun v w' => Go.XK.Own w' w.heap.size 41 3 encE v exE ∧ Ext w w') := by
  refine callR_of (n := 8) [] Try.func43 rfl rfl (Nat.le_of_ble_eq_true rfl) rfl ?_
  refine sc_seq ?_
  refine sc_reg ?_
  refine Go.XK.s (v := .slice none 0 0) (e_assign rfl) ?_
  refine sl_nil (nrm_k ?_)
  refine sc_seq ?_
  refine sc_reg ?_
  refine sl_call ent34 rfl rfl (rep_c [120] 96 w (by decide) (by decide)) (by decide) ?_
  rintro _ w1 ⟨rfl, hw1⟩
  have xw_w1 : Ext w w1 := Ext.tr (Ext.rfl' w) hw1
  refine Go.XK.s (v := .agg #[.string (B [88, 88]), .int .i64 1, .string (B (Lib.repeatL [120] 96))]) (e_build (vs := [(0, .string (B [88, 88])), (1, .int .i64 1), (2, .string (B (Lib.repeatL [120] 96)))]) rfl (by kernel_rfl)) ?_
  refine s_alloc (cs := [.string (B []), .int .i64 0, .string (B [])]) Try.zeroValue41 rfl ?_
  intro b1 w2 hb1 he1 hs1 hx1
  have ge_b1 : w.heap.size ≤ b1 := by have h_ := (Below.size xw_w1); omega
  have xw_w2 : Ext w w2 := Ext.tr xw_w1 hx1
  refine su_blkV [.string (B [88, 88]), .int .i64 1, .string (B (Lib.repeatL [120] 96))] [.string (B [88, 88]), .int .i64 1, .string (B (Lib.repeatL [120] 96))] rfl rfl hb1 rfl Try.sizeOf41 (Nat.le_of_ble_eq_true rfl) rfl rfl ?_
  intro w3 hn_ hm_w3 hs_w3
  have ho_ := hb1
  replace hb1 := hn_
  clear hn_
  have xw_w3 : Ext w w3 := below_mut xw_w2 (Below.size xw_w2) hm_w3 ge_b1
  refine sl_nil (nrm_k ?_)
  refine sc_seq ?_
  refine sc_reg ?_
  refine Go.XK.s (v := .agg #[.string (B [88, 88]), .int .i64 1, .string (B (Lib.repeatL [120] 96))]) (e_load rfl (hb1.loadA Try.isAgg41 Try.sizeOf41 rfl)) ?_
  refine Go.XK.s (v := .agg #[.string (B [88, 88]), .int .i64 1, .string (B (Lib.repeatL [120] 96))]) (e_load rfl (hb1.loadA Try.isAgg41 Try.sizeOf41 rfl)) ?_
  refine Go.XK.s (v := .agg #[.string (B [88, 88]), .int .i64 1, .string (B (Lib.repeatL [120] 96))]) (e_load rfl (hb1.loadA Try.isAgg41 Try.sizeOf41 rfl)) ?_
  refine s_bslice (vs := [(0, .agg #[.string (B [88, 88]), .int .i64 1, .string (B (Lib.repeatL [120] 96))]), (1, .agg #[.string (B [88, 88]), .int .i64 1, .string (B (Lib.repeatL [120] 96))]), (2, .agg #[.string (B [88, 88]), .int .i64 1, .string (B (Lib.repeatL [120] 96))])]) (e := 41) rfl [.string (B [88, 88]), .int .i64 1, .string (B (Lib.repeatL [120] 96)), .string (B [88, 88]), .int .i64 1, .string (B (Lib.repeatL [120] 96)), .string (B [88, 88]), .int .i64 1, .string (B (Lib.repeatL [120] 96))] (by kernel_rfl) ?_
  intro b7 w4 hb7 he7 hs7 hx7
  have ne_b7_b1 : b7 ≠ b1 := by have h_ := hb1.lt; omega
  have ge_b7 : w.heap.size ≤ b7 := by have h_ := (Below.size xw_w3); omega
  have xw_w4 : Ext w w4 := Ext.tr xw_w3 hx7
  replace hb1 := hb1.ext hx7
  refine Go.XK.s (v := .slice (some ⟨b7, 0, none⟩) 3 3) (e_assign rfl) ?_
  refine sl_nil (nrm_k ?_)
  refine sc_retf rfl (ret1 Try.results43 (rvt rfl) ?_)
  exact ⟨Go.XK.Own.ofBlk (enc := encE) (kk := 3) (xs := exE) hb7 ge_b7 (fun _ => rfl) (by decide), xw_w4⟩

/-- masterdisc/masterdisclaw24.awake (function 9) -/
theorem awake_c (w : World) : CallR Try.prog 9 [] w (fun v w' => v = .bool true ∧ Ext w w') := by
  refine callR_of (n := 195) [] Try.func9 rfl rfl (Nat.le_of_ble_eq_true rfl) rfl ?_
  refine sc_seq ?_
  refine sc_reg ?_
  refine Go.XK.s (v := .bool false) (e_assign rfl) ?_
  refine sl_nil (nrm_k ?_)
  refine sc_seq ?_
  refine sc_reg ?_
  refine Go.XK.s (v := .agg #[.string (B [78, 77]), .int .i64 1, .string (B [0, 97, 98])]) (e_build (vs := [(0, .string (B [78, 77])), (1, .int .i64 1), (2, .string (B [0, 97, 98]))]) rfl (by kernel_rfl)) ?_
  refine s_bslice (vs := [(0, .agg #[.string (B [78, 77]), .int .i64 1, .string (B [0, 97, 98])])]) (e := 41) rfl [.string (B [78, 77]), .int .i64 1, .string (B [0, 97, 98])] (by kernel_rfl) ?_
  intro b21 w1 hb21 he21 hs21 hx21
  have ge_b21 : w.heap.size ≤ b21 := by have h_ := (Below.size (Ext.rfl' w)); omega
  have xw_w1 : Ext w w1 := Ext.tr (Ext.rfl' w) hx21
  refine sl_call ent11 rfl rfl (enc_k _ w1 hb21) (by decide) ?_
  rintro _ w2 ⟨rfl, hw2⟩
  have xw_w2 : Ext w w2 := Ext.tr xw_w1 hw2
  replace hb21 := hb21.ext hw2
  refine Go.XK.s (v := .tuple #[.string (B [78, 77, 7, 1, 0, 97, 98]), .int .i64 0]) (e_move rfl) ?_
  refine Go.XK.s (v := .string (B [78, 77, 7, 1, 0, 97, 98])) (e_extract (vs := [.string (B [78, 77, 7, 1, 0, 97, 98]), .int .i64 0]) rfl rfl) ?_
  refine Go.XK.s (v := .int .i64 0) (e_extract (vs := [.string (B [78, 77, 7, 1, 0, 97, 98]), .int .i64 0]) rfl rfl) ?_
  refine Go.XK.s (v := .string (B [78, 77, 7, 1, 0, 97, 98])) (e_assign rfl) ?_
  refine Go.XK.s (v := .int .i64 0) (e_assign rfl) ?_
  refine sl_nil (nrm_k ?_)
  refine sc_seq ?_
  refine sc_reg ?_
  refine Go.XK.s (v := .string (B [78, 77, 7, 1, 0, 97, 98])) (e_move rfl) ?_
  refine Go.XK.s (v := .string (B ([78, 77, 7, 1, 0, 97, 98] ++ [0, 0, 0, 0]))) (e_sadd rfl rfl (by first | omega | (simp <;> omega))) ?_
  refine sl_call ent13 rfl rfl (dec_k w2) (by decide) ?_
  rintro _ w3 ⟨vD4, rfl, hoD4, hw3⟩
  replace hoD4 := Own.low hoD4 (Below.size xw_w2)
  have xw_w3 : Ext w w3 := Ext.tr xw_w2 hw3
  replace hb21 := hb21.ext hw3
  obtain ⟨AD4, cD4, eD4_, hlcD4, hcmD4, _⟩ := Go.XK.Own.shape hoD4 (fun _ => rfl)
  subst eD4_
  refine Go.XK.s (v := .tuple #[.slice AD4 [eN].length cD4, .int .i64 0]) (e_move rfl) ?_
  refine Go.XK.s (v := .slice AD4 [eN].length cD4) (e_extract (vs := [.slice AD4 [eN].length cD4, .int .i64 0]) rfl rfl) ?_
  refine Go.XK.s (v := .int .i64 0) (e_extract (vs := [.slice AD4 [eN].length cD4, .int .i64 0]) rfl rfl) ?_
  refine Go.XK.s (v := .slice AD4 [eN].length cD4) (e_assign rfl) ?_
  refine Go.XK.s (v := .int .i64 0) (e_assign rfl) ?_
  refine sl_nil (nrm_k ?_)
  refine sc_seq ?_
  refine sc_reg ?_
  refine sl_call ent43 rfl rfl (example_c w3) (by decide) ?_
  rintro vD5 w4 ⟨hoD5, hw4⟩
  replace hoD5 := Own.low hoD5 (Below.size xw_w3)
  have xw_w4 : Ext w w4 := Ext.tr xw_w3 hw4
  replace hb21 := hb21.ext hw4
  replace hoD4 := hoD4.ext hw4
  obtain ⟨AD5, cD5, eD5_, hlcD5, hcmD5, _⟩ := Go.XK.Own.shape hoD5 (fun _ => rfl)
  subst eD5_
  refine sl_call ent18 rfl rfl (groups_k _ _ w4 (Go.XK.Own.slr hoD5 (fun _ => rfl))) (by decide) ?_
  rintro _ w5 ⟨vG, g0, g1, rfl, hg0, hg1, hoG, hog, hw5⟩
  replace hoG := Own.low hoG (Below.size xw_w4)
  have hinG := OwG.inn hog
  have xw_w5 : Ext w w5 := Ext.tr xw_w4 hw5
  replace hb21 := hb21.ext hw5
  replace hoD4 := hoD4.ext hw5
  replace hoD5 := hoD5.ext hw5
  obtain ⟨AG, cG, eG_, hlcG, hcmG, _⟩ := Go.XK.Own.shape hoG (fun _ => rfl)
  subst eG_
  refine Go.XK.s (v := .tuple #[.slice AG [g0, g1].length cG, .int .i64 0]) (e_move rfl) ?_
  refine Go.XK.s (v := .slice AG [g0, g1].length cG) (e_extract (vs := [.slice AG [g0, g1].length cG, .int .i64 0]) rfl rfl) ?_
  refine Go.XK.s (v := .int .i64 0) (e_extract (vs := [.slice AG [g0, g1].length cG, .int .i64 0]) rfl rfl) ?_
  refine Go.XK.s (v := .slice AG [g0, g1].length cG) (e_assign rfl) ?_
  refine Go.XK.s (v := .int .i64 0) (e_assign rfl) ?_
  refine sl_nil (nrm_k ?_)
  refine sc_seq ?_
  refine sc_reg ?_
  refine Go.XK.s (v := .slice AG [g0, g1].length cG) (e_move rfl) ?_
  refine Go.XK.s (v := .agg #[.int .i64 1, .int .i64 7]) (e_build (vs := [(0, .int .i64 1), (1, .int .i64 7)]) rfl (by kernel_rfl)) ?_
  refine s_bslice (vs := [(0, .agg #[.int .i64 1, .int .i64 7])]) (e := 53) rfl [.int .i64 1, .int .i64 7] (by kernel_rfl) ?_
  intro b39 w6 hb39 he39 hs39 hx39
  have ne_b39_b21 : b39 ≠ b21 := by have h_ := hb21.lt; omega
  have no_b39_hoD4 : Value.ownBlock (.slice AD4 ([eN].length) cD4) ≠ some b39 := fun h_ => by have h2_ := (Go.XK.Own.lt hoD4 _ h_).2; omega
  have no_b39_hoD5 : Value.ownBlock (.slice AD5 exE.length cD5) ≠ some b39 := fun h_ => by have h2_ := (Go.XK.Own.lt hoD5 _ h_).2; omega
  have no_b39_hoG : Value.ownBlock (.slice AG ([g0, g1].length) cG) ≠ some b39 := fun h_ => by have h2_ := (Go.XK.Own.lt hoG _ h_).2; omega
  have ge_b39 : w.heap.size ≤ b39 := by have h_ := (Below.size xw_w5); omega
  have gew5_b39 : w5.heap.size ≤ b39 := by have h_ := (Below.size (Ext.rfl' w5)); omega
  have xw_w6 : Ext w w6 := Ext.tr xw_w5 hx39
  have xw5_w6 : Ext w5 w6 := Ext.tr (Ext.rfl' w5) hx39
  replace hb21 := hb21.ext hx39
  replace hoD4 := hoD4.ext hx39
  replace hoD5 := hoD5.ext hx39
  replace hoG := hoG.ext hx39
  refine sl_call ent33 rfl rfl (join_k g0 g1 _ _ _ w6 (Go.XK.Own.slr hoG (fun _ => rfl)) (hinG.ext xw5_w6) hg0 hg1 hb39) (by decide) ?_
  rintro _ w7 ⟨vD6, rfl, hoD6, hw7⟩
  replace hoD6 := Own.low hoD6 (Below.size xw_w6)
  have xw_w7 : Ext w w7 := Ext.tr xw_w6 hw7
  have xw5_w7 : Ext w5 w7 := Ext.tr xw5_w6 hw7
  replace hb21 := hb21.ext hw7
  replace hb39 := hb39.ext hw7
  replace hoD4 := hoD4.ext hw7
  replace hoD5 := hoD5.ext hw7
  replace hoG := hoG.ext hw7
  obtain ⟨AD6, cD6, eD6_, hlcD6, hcmD6, _⟩ := Go.XK.Own.shape hoD6 (fun _ => rfl)
  subst eD6_
  refine Go.XK.s (v := .tuple #[.slice AD6 jE.1.length cD6, .int .i64 0]) (e_move rfl) ?_
  refine Go.XK.s (v := .slice AD6 jE.1.length cD6) (e_extract (vs := [.slice AD6 jE.1.length cD6, .int .i64 0]) rfl rfl) ?_
  refine Go.XK.s (v := .int .i64 0) (e_extract (vs := [.slice AD6 jE.1.length cD6, .int .i64 0]) rfl rfl) ?_
  refine Go.XK.s (v := .slice AD6 jE.1.length cD6) (e_assign rfl) ?_
  refine Go.XK.s (v := .int .i64 0) (e_assign rfl) ?_
  refine sl_nil (nrm_k ?_)
  refine sc_seq ?_
  refine sc_seq ?_
  refine sc_reg ?_
  refine Go.XK.s (v := .int .i64 0) (e_move rfl) ?_
  refine Go.XK.s (v := .bool (decide ((0 : Int) ≠ 0))) (e_ne rfl rfl) ?_
  refine Go.XK.s (v := .bool (decide ((0 : Int) ≠ 0))) (e_move rfl) ?_
  refine sl_gev (v := .string (B [78, 77, 7, 1, 0, 97, 98])) rfl rfl (by decide) (e_move rfl) rfl (by decide) ?_
  refine sl_gev (v := .bool (decide ([78, 77, 7, 1, 0, 97, 98] ≠ [78, 77, 7, 1, 0, 97, 98]))) rfl rfl (by decide) (e_sne rfl rfl) rfl (by decide) ?_
  refine Go.XK.s (v := .bool (decide ([78, 77, 7, 1, 0, 97, 98] ≠ [78, 77, 7, 1, 0, 97, 98]))) (e_pickF rfl (by decide) rfl) ?_
  refine Go.XK.s (v := .bool (decide ([78, 77, 7, 1, 0, 97, 98] ≠ [78, 77, 7, 1, 0, 97, 98]))) (e_move rfl) ?_
  refine sl_gev (v := .int .i64 0) rfl rfl (decide_eq_false (by decide)) (e_move rfl) rfl (by decide) ?_
  refine sl_gev (v := .bool (decide ((0 : Int) ≠ 0))) rfl rfl (decide_eq_false (by decide)) (e_ne rfl rfl) rfl (by decide) ?_
  refine Go.XK.s (v := .bool (decide ((0 : Int) ≠ 0))) (e_pickF rfl (decide_eq_false (by decide)) rfl) ?_
  refine Go.XK.s (v := .bool (decide ((0 : Int) ≠ 0))) (e_move rfl) ?_
  refine sl_gev (v := .slice AD4 [eN].length cD4) rfl rfl (by decide) (e_move rfl) rfl (by decide) ?_
  refine sl_gev (v := .int .i64 ([eN].length : Int)) rfl rfl (by decide) (e_lenOwn Try.underlying22 rfl hoD4 (fun _ => rfl)) rfl (by decide) ?_
  refine sl_gev (v := .bool (decide (([eN].length : Int) ≠ 1))) rfl rfl (by decide) (e_ne rfl rfl) rfl (by decide) ?_
  refine Go.XK.s (v := .bool (decide (([eN].length : Int) ≠ 1))) (e_pickF rfl (by decide) rfl) ?_
  refine Go.XK.s (v := .bool (decide (([eN].length : Int) ≠ 1))) (e_move rfl) ?_
  refine sl_gev (v := .slice AD4 [eN].length cD4) rfl rfl (decide_eq_false (by decide)) (e_move rfl) rfl (by decide) ?_
  refine sl_gev (v := .pointer (some (el (ownA (.slice AD4 [eN].length cD4)) 3 0 0))) rfl rfl (decide_eq_false (by decide)) (e_idxOwn (x0 := eN) Try.underlying22 Try.sizeOf41 rfl rfl hoD4 (fun _ => rfl) rfl (by omega)) rfl (by decide) ?_
  refine sl_gev (v := .pointer (some (el (ownA (.slice AD4 [eN].length cD4)) 3 0 2))) rfl rfl (decide_eq_false (by decide)) (e_fieldEl (fsz := 1) Try.underlying41 rfl Try.sizeOf9 (by decide) rfl rfl) rfl (by decide) ?_
  refine sl_gev (v := .string (B eN.d)) rfl rfl (decide_eq_false (by decide)) (e_ldEl (xs := [eN]) (enc := encE) (e := eN) rfl (Go.XK.Own.rd hoD4 (fun _ => rfl)) rfl Try.isAgg9 rfl) rfl (by decide) ?_
  refine sl_gev (v := .bool (decide (eN.d ≠ [0, 97, 98]))) rfl rfl (decide_eq_false (by decide)) (e_sne rfl rfl) rfl (by decide) ?_
  refine Go.XK.s (v := .bool (decide (eN.d ≠ [0, 97, 98]))) (e_pickF rfl (decide_eq_false (by decide)) rfl) ?_
  refine Go.XK.s (v := .bool (decide (eN.d ≠ [0, 97, 98]))) (e_move rfl) ?_
  refine sl_gev (v := .int .i64 0) rfl rfl (decide_eq_false (by decide)) (e_move rfl) rfl (by decide) ?_
  refine sl_gev (v := .bool (decide ((0 : Int) ≠ 0))) rfl rfl (decide_eq_false (by decide)) (e_ne rfl rfl) rfl (by decide) ?_
  refine Go.XK.s (v := .bool (decide ((0 : Int) ≠ 0))) (e_pickF rfl (decide_eq_false (by decide)) rfl) ?_
  refine Go.XK.s (v := .bool (decide ((0 : Int) ≠ 0))) (e_move rfl) ?_
  refine sl_gev (v := .slice AG [g0, g1].length cG) rfl rfl (by decide) (e_move rfl) rfl (by decide) ?_
  refine sl_gev (v := .int .i64 2) rfl rfl (by decide) (e_lenOwn Try.underlying33 rfl hoG (fun _ => rfl)) rfl (by decide) ?_
  refine sl_gev (v := .bool (decide ((2 : Int) ≠ 2))) rfl rfl (by decide) (e_ne rfl rfl) rfl (by decide) ?_
  refine Go.XK.s (v := .bool (decide ((2 : Int) ≠ 2))) (e_pickF rfl (by decide) rfl) ?_
  refine Go.XK.s (v := .bool (decide ((2 : Int) ≠ 2))) (e_move rfl) ?_
  refine sl_gev (v := .slice AG [g0, g1].length cG) rfl rfl (by decide) (e_move rfl) rfl (by decide) ?_
  refine sl_gev (v := .pointer (some (el (ownA (.slice AG [g0, g1].length cG)) 1 0 0))) rfl rfl (by decide) (e_idxOwn (x0 := g0) Try.underlying33 Try.sizeOf22 rfl rfl hoG (fun _ => rfl) rfl (by omega)) rfl (by decide) ?_
  refine sl_gev (v := .slice g0.A g0.l.length g0.c) rfl rfl (by decide) (e_ldEl (xs := [g0, g1]) (enc := encG) (e := g0) rfl (Go.XK.Own.rd hoG (fun _ => rfl)) rfl Try.isAgg22 rfl) rfl (by decide) ?_
  refine sl_gev (v := .int .i64 (g0.l.length : Int)) rfl rfl (by decide) (e_len Try.underlying22 rfl) rfl (by decide) ?_
  refine sl_gev (v := .bool (decide ((g0.l.length : Int) ≠ 1))) rfl rfl (by decide) (e_ne rfl rfl) rfl (by decide) ?_
  refine Go.XK.s (v := .bool (decide ((g0.l.length : Int) ≠ 1))) (e_pickF rfl (by decide) rfl) ?_
  refine Go.XK.s (v := .bool (decide ((g0.l.length : Int) ≠ 1))) (e_move rfl) ?_
  refine sl_gev (v := .slice AG [g0, g1].length cG) rfl rfl (decide_eq_false (by rw [hg0]; decide)) (e_move rfl) rfl (by decide) ?_
  refine sl_gev (v := .pointer (some (el (ownA (.slice AG [g0, g1].length cG)) 1 1 0))) rfl rfl (decide_eq_false (by rw [hg0]; decide)) (e_idxOwn (x0 := g1) Try.underlying33 Try.sizeOf22 rfl rfl hoG (fun _ => rfl) rfl (by omega)) rfl (by decide) ?_
  refine sl_gev (v := .slice g1.A g1.l.length g1.c) rfl rfl (decide_eq_false (by rw [hg0]; decide)) (e_ldEl (xs := [g0, g1]) (enc := encG) (e := g1) rfl (Go.XK.Own.rd hoG (fun _ => rfl)) rfl Try.isAgg22 rfl) rfl (by decide) ?_
  refine sl_gev (v := .int .i64 (g1.l.length : Int)) rfl rfl (decide_eq_false (by rw [hg0]; decide)) (e_len Try.underlying22 rfl) rfl (by decide) ?_
  refine sl_gev (v := .bool (decide ((g1.l.length : Int) ≠ 2))) rfl rfl (decide_eq_false (by rw [hg0]; decide)) (e_ne rfl rfl) rfl (by decide) ?_
  refine Go.XK.s (v := .bool (decide ((g1.l.length : Int) ≠ 2))) (e_pickF rfl (decide_eq_false (by rw [hg0]; decide)) rfl) ?_
  refine Go.XK.s (v := .bool (decide ((g1.l.length : Int) ≠ 2))) (e_move rfl) ?_
  refine sl_gev (v := .int .i64 0) rfl rfl (decide_eq_false (by rw [hg1]; decide)) (e_move rfl) rfl (by decide) ?_
  refine sl_gev (v := .bool (decide ((0 : Int) ≠ 0))) rfl rfl (decide_eq_false (by rw [hg1]; decide)) (e_ne rfl rfl) rfl (by decide) ?_
  refine Go.XK.s (v := .bool (decide ((0 : Int) ≠ 0))) (e_pickF rfl (decide_eq_false (by rw [hg1]; decide)) rfl) ?_
  refine Go.XK.s (v := .bool (decide ((0 : Int) ≠ 0))) (e_move rfl) ?_
  refine sl_gev (v := .slice AD6 jE.1.length cD6) rfl rfl (by decide) (e_move rfl) rfl (by decide) ?_
  refine sl_gev (v := .int .i64 (jE.1.length : Int)) rfl rfl (by decide) (e_lenOwn Try.underlying48 rfl hoD6 (fun _ => rfl)) rfl (by decide) ?_
  refine sl_gev (v := .bool (decide ((jE.1.length : Int) ≠ 2))) rfl rfl (by decide) (e_ne rfl rfl) rfl (by decide) ?_
  refine Go.XK.s (v := .bool (decide ((jE.1.length : Int) ≠ 2))) (e_pickF rfl (by decide) rfl) ?_
  refine Go.XK.s (v := .bool (decide ((jE.1.length : Int) ≠ 2))) (e_move rfl) ?_
  refine sl_gev (v := .slice AD6 jE.1.length cD6) rfl rfl (decide_eq_false (by rw [jE_len]; decide)) (e_move rfl) rfl (by decide) ?_
  refine sl_gev (v := .pointer (some (el (ownA (.slice AD6 jE.1.length cD6)) 1 0 0))) rfl rfl (decide_eq_false (by rw [jE_len]; decide)) (e_idxOwn (x0 := o0) Try.underlying48 Try.sizeOf9 rfl rfl hoD6 (fun _ => rfl) jE_0 (by omega)) rfl (by decide) ?_
  refine sl_gev (v := .string (B o0)) rfl rfl (decide_eq_false (by rw [jE_len]; decide)) (e_ldEl (xs := jE.1) (enc := encS) (e := o0) rfl (Go.XK.Own.rd hoD6 (fun _ => rfl)) jE_0 Try.isAgg9 rfl) rfl (by decide) ?_
  refine sl_gev (v := .int .i64 (o0.length : Int)) rfl rfl (decide_eq_false (by rw [jE_len]; decide)) (e_slen Try.underlying9 rfl) rfl (by decide) ?_
  refine sl_gev (v := .bool (decide ((o0.length : Int) ≠ 128))) rfl rfl (decide_eq_false (by rw [jE_len]; decide)) (e_ne rfl rfl) rfl (by decide) ?_
  refine Go.XK.s (v := .bool (decide ((o0.length : Int) ≠ 128))) (e_pickF rfl (decide_eq_false (by rw [jE_len]; decide)) rfl) ?_
  refine Go.XK.s (v := .bool (decide ((o0.length : Int) ≠ 128))) (e_move rfl) ?_
  refine sl_gev (v := .slice AD6 jE.1.length cD6) rfl rfl (decide_eq_false (by rw [o0_len]; decide)) (e_move rfl) rfl (by decide) ?_
  refine sl_gev (v := .pointer (some (el (ownA (.slice AD6 jE.1.length cD6)) 1 1 0))) rfl rfl (decide_eq_false (by rw [o0_len]; decide)) (e_idxOwn (x0 := o1) Try.underlying48 Try.sizeOf9 rfl rfl hoD6 (fun _ => rfl) jE_1 (by omega)) rfl (by decide) ?_
  refine sl_gev (v := .string (B o1)) rfl rfl (decide_eq_false (by rw [o0_len]; decide)) (e_ldEl (xs := jE.1) (enc := encS) (e := o1) rfl (Go.XK.Own.rd hoD6 (fun _ => rfl)) jE_1 Try.isAgg9 rfl) rfl (by decide) ?_
  refine sl_gev (v := .int .i64 (o1.length : Int)) rfl rfl (decide_eq_false (by rw [o0_len]; decide)) (e_slen Try.underlying9 rfl) rfl (by decide) ?_
  refine sl_gev (v := .bool (decide ((o1.length : Int) ≠ 200))) rfl rfl (decide_eq_false (by rw [o0_len]; decide)) (e_ne rfl rfl) rfl (by decide) ?_
  refine Go.XK.s (v := .bool (decide ((o1.length : Int) ≠ 200))) (e_pickF rfl (decide_eq_false (by rw [o0_len]; decide)) rfl) ?_
  refine sl_nil (nrm_k ?_)
  refine sc_no rfl (decide_eq_false (by rw [o1_len]; decide)) ?_
  refine sc_skip (nrm_k ?_)
  refine sc_seq ?_
  refine sc_free ((110, .bool (decide ((o1.length : Int) ≠ 200))) :: (109, .bool (decide ((o1.length : Int) ≠ 200))) :: (108, .int .i64 (o1.length : Int)) :: (107, .string (B o1)) :: (106, .pointer (some (el (ownA (.slice AD6 jE.1.length cD6)) 1 1 0))) :: (105, .slice AD6 jE.1.length cD6) :: (104, .bool (decide ((o0.length : Int) ≠ 128))) :: (103, .bool (decide ((o0.length : Int) ≠ 128))) :: (102, .bool (decide ((o0.length : Int) ≠ 128))) :: (101, .int .i64 (o0.length : Int)) :: (100, .string (B o0)) :: (99, .pointer (some (el (ownA (.slice AD6 jE.1.length cD6)) 1 0 0))) :: (98, .slice AD6 jE.1.length cD6) :: (97, .bool (decide ((jE.1.length : Int) ≠ 2))) :: (96, .bool (decide ((jE.1.length : Int) ≠ 2))) :: (95, .bool (decide ((jE.1.length : Int) ≠ 2))) :: (94, .int .i64 (jE.1.length : Int)) :: (93, .slice AD6 jE.1.length cD6) :: (92, .bool (decide ((0 : Int) ≠ 0))) :: (91, .bool (decide ((0 : Int) ≠ 0))) :: (90, .bool (decide ((0 : Int) ≠ 0))) :: (89, .int .i64 0) :: (88, .bool (decide ((g1.l.length : Int) ≠ 2))) :: (87, .bool (decide ((g1.l.length : Int) ≠ 2))) :: (86, .bool (decide ((g1.l.length : Int) ≠ 2))) :: (85, .int .i64 (g1.l.length : Int)) :: (84, .slice g1.A g1.l.length g1.c) :: (83, .pointer (some (el (ownA (.slice AG [g0, g1].length cG)) 1 1 0))) :: (82, .slice AG [g0, g1].length cG) :: (81, .bool (decide ((g0.l.length : Int) ≠ 1))) :: (80, .bool (decide ((g0.l.length : Int) ≠ 1))) :: (79, .bool (decide ((g0.l.length : Int) ≠ 1))) :: (78, .int .i64 (g0.l.length : Int)) :: (77, .slice g0.A g0.l.length g0.c) :: (76, .pointer (some (el (ownA (.slice AG [g0, g1].length cG)) 1 0 0))) :: (75, .slice AG [g0, g1].length cG) :: (74, .bool (decide ((2 : Int) ≠ 2))) :: (73, .bool (decide ((2 : Int) ≠ 2))) :: (72, .bool (decide ((2 : Int) ≠ 2))) :: (71, .int .i64 2) :: (70, .slice AG [g0, g1].length cG) :: (69, .bool (decide ((0 : Int) ≠ 0))) :: (68, .bool (decide ((0 : Int) ≠ 0))) :: (67, .bool (decide ((0 : Int) ≠ 0))) :: (66, .int .i64 0) :: (65, .bool (decide (eN.d ≠ [0, 97, 98]))) :: (64, .bool (decide (eN.d ≠ [0, 97, 98]))) :: (63, .bool (decide (eN.d ≠ [0, 97, 98]))) :: (62, .string (B eN.d)) :: (61, .pointer (some (el (ownA (.slice AD4 [eN].length cD4)) 3 0 2))) :: (60, .pointer (some (el (ownA (.slice AD4 [eN].length cD4)) 3 0 0))) :: (59, .slice AD4 [eN].length cD4) :: (58, .bool (decide (([eN].length : Int) ≠ 1))) :: (57, .bool (decide (([eN].length : Int) ≠ 1))) :: (56, .bool (decide (([eN].length : Int) ≠ 1))) :: (55, .int .i64 ([eN].length : Int)) :: (54, .slice AD4 [eN].length cD4) :: (53, .bool (decide ((0 : Int) ≠ 0))) :: (52, .bool (decide ((0 : Int) ≠ 0))) :: (51, .bool (decide ((0 : Int) ≠ 0))) :: (50, .int .i64 0) :: (49, .bool (decide ([78, 77, 7, 1, 0, 97, 98] ≠ [78, 77, 7, 1, 0, 97, 98]))) :: (48, .bool (decide ([78, 77, 7, 1, 0, 97, 98] ≠ [78, 77, 7, 1, 0, 97, 98]))) :: (47, .bool (decide ([78, 77, 7, 1, 0, 97, 98] ≠ [78, 77, 7, 1, 0, 97, 98]))) :: (46, .string (B [78, 77, 7, 1, 0, 97, 98])) :: (45, .bool (decide ((0 : Int) ≠ 0))) :: (44, .bool (decide ((0 : Int) ≠ 0))) :: (43, .int .i64 0) :: (8, .int .i64 0) :: (7, .slice AD6 jE.1.length cD6) :: (42, .int .i64 0) :: (41, .slice AD6 jE.1.length cD6) :: (36, .tuple #[.slice AD6 jE.1.length cD6, .int .i64 0]) :: (40, .tuple #[.slice AD6 jE.1.length cD6, .int .i64 0]) :: (39, .slice (some ⟨b39, 0, none⟩) 1 1) :: (38, .agg #[.int .i64 1, .int .i64 7]) :: (37, .slice AG [g0, g1].length cG) :: (6, .int .i64 0) :: (5, .slice AG [g0, g1].length cG) :: (35, .int .i64 0) :: (34, .slice AG [g0, g1].length cG) :: (31, .tuple #[.slice AG [g0, g1].length cG, .int .i64 0]) :: (33, .tuple #[.slice AG [g0, g1].length cG, .int .i64 0]) :: (32, .slice AD5 exE.length cD5) :: (4, .int .i64 0) :: (3, .slice AD4 [eN].length cD4) :: (30, .int .i64 0) :: (29, .slice AD4 [eN].length cD4) :: (25, .tuple #[.slice AD4 [eN].length cD4, .int .i64 0]) :: (28, .tuple #[.slice AD4 [eN].length cD4, .int .i64 0]) :: (27, .string (B ([78, 77, 7, 1, 0, 97, 98] ++ [0, 0, 0, 0]))) :: (26, .string (B [78, 77, 7, 1, 0, 97, 98])) :: (2, .int .i64 0) :: (1, .string (B [78, 77, 7, 1, 0, 97, 98])) :: (24, .int .i64 0) :: (23, .string (B [78, 77, 7, 1, 0, 97, 98])) :: (19, .tuple #[.string (B [78, 77, 7, 1, 0, 97, 98]), .int .i64 0]) :: (22, .tuple #[.string (B [78, 77, 7, 1, 0, 97, 98]), .int .i64 0]) :: (21, .slice (some ⟨b21, 0, none⟩) 1 1) :: (20, .agg #[.string (B [78, 77]), .int .i64 1, .string (B [0, 97, 98])]) :: (0, .bool false) :: []) [111, 112, 113, 114, 115, 116, 117] [(Is (.string (B (Lib.repeatL [0] 7)))), (Is (.slice AD6 jE.1.length cD6)), (Is (.pointer (some (el (ownA (.slice AD6 jE.1.length cD6)) 1 1 0)))), (Is (.string (B o1))), (Is (.string (B ((Lib.repeatL [0] 7) ++ o1)))), (Is (.string (B (Lib.repeatL [0] 1841)))), (Is (.string (B (((Lib.repeatL [0] 7) ++ o1) ++ (Lib.repeatL [0] 1841)))))] [7] (by kernel_rfl) (Sub.refl _) (by kernel_rfl) (by kernel_rfl) (by kernel_rfl) rfl (by kernel_rfl) (ds_ext (Stays.spec (.is _ (.is _ (.is _ (.is _ (.is _ (.is _ (.is _ (.nil)))))))))) ⟨?_, ?_, ?_, ?_, ?_, ?_, ?_, trivial⟩ ?_
  · intro Q act_ wI hxI ha hp
    have xw_wI : Ext w wI := Ext.tr xw_w7 hxI
    have xw5_wI : Ext w5 wI := Ext.tr xw5_w7 hxI
    replace hb21 := hb21.ext hxI
    replace hb39 := hb39.ext hxI
    replace hoD4 := hoD4.ext hxI
    replace hoD5 := hoD5.ext hxI
    replace hoG := hoG.ext hxI
    replace hoD6 := hoD6.ext hxI
    exact h_callA ha ent34 rfl rfl rfl (rep_c [0] 7 wI (by decide) (by decide)) rfl (by rintro _ w1 ⟨rfl, hR⟩; exact ⟨rfl, hR⟩)
  · intro Q act_ wI hxI ha hp
    have xw_wI : Ext w wI := Ext.tr xw_w7 hxI
    have xw5_wI : Ext w5 wI := Ext.tr xw5_w7 hxI
    replace hb21 := hb21.ext hxI
    replace hb39 := hb39.ext hxI
    replace hoD4 := hoD4.ext hxI
    replace hoD5 := hoD5.ext hxI
    replace hoG := hoG.ext hxI
    replace hoD6 := hoD6.ext hxI
    exact h_evA (v := .slice AD6 jE.1.length cD6) ha rfl (e_move rfl) rfl rfl (Ext.rfl' _)
  · intro Q act_ wI hxI ha hp
    have xw_wI : Ext w wI := Ext.tr xw_w7 hxI
    have xw5_wI : Ext w5 wI := Ext.tr xw5_w7 hxI
    replace hb21 := hb21.ext hxI
    replace hb39 := hb39.ext hxI
    replace hoD4 := hoD4.ext hxI
    replace hoD5 := hoD5.ext hxI
    replace hoG := hoG.ext hxI
    replace hoD6 := hoD6.ext hxI
    have ha := ha.add (show act_.tmps.getD 112 undef = .slice AD6 jE.1.length cD6 from hp 1 (by kernel_rfl) (by decide))
    exact h_evA (v := .pointer (some (el (ownA (.slice AD6 jE.1.length cD6)) 1 1 0))) ha rfl (e_idxOwn (x0 := o1) Try.underlying48 Try.sizeOf9 rfl rfl hoD6 (fun _ => rfl) jE_1 (by omega)) rfl rfl (Ext.rfl' _)
  · intro Q act_ wI hxI ha hp
    have xw_wI : Ext w wI := Ext.tr xw_w7 hxI
    have xw5_wI : Ext w5 wI := Ext.tr xw5_w7 hxI
    replace hb21 := hb21.ext hxI
    replace hb39 := hb39.ext hxI
    replace hoD4 := hoD4.ext hxI
    replace hoD5 := hoD5.ext hxI
    replace hoG := hoG.ext hxI
    replace hoD6 := hoD6.ext hxI
    have ha := ha.add (show act_.tmps.getD 113 undef = .pointer (some (el (ownA (.slice AD6 jE.1.length cD6)) 1 1 0)) from hp 2 (by kernel_rfl) (by decide))
    exact h_evA (v := .string (B o1)) ha rfl (e_ldEl (xs := jE.1) (enc := encS) (e := o1) rfl (Go.XK.Own.rd hoD6 (fun _ => rfl)) jE_1 Try.isAgg9 rfl) rfl rfl (Ext.rfl' _)
  · intro Q act_ wI hxI ha hp
    have xw_wI : Ext w wI := Ext.tr xw_w7 hxI
    have xw5_wI : Ext w5 wI := Ext.tr xw5_w7 hxI
    replace hb21 := hb21.ext hxI
    replace hb39 := hb39.ext hxI
    replace hoD4 := hoD4.ext hxI
    replace hoD5 := hoD5.ext hxI
    replace hoG := hoG.ext hxI
    replace hoD6 := hoD6.ext hxI
    have ha := ha.add (show act_.tmps.getD 111 undef = .string (B (Lib.repeatL [0] 7)) from hp 0 (by kernel_rfl) (by decide))
    have ha := ha.add (show act_.tmps.getD 114 undef = .string (B o1) from hp 3 (by kernel_rfl) (by decide))
    exact h_evA (v := .string (B ((Lib.repeatL [0] 7) ++ o1))) ha rfl (e_sadd rfl rfl (by simp only [maxLen, List.length_append, repL_length, o1_len]; decide)) rfl rfl (Ext.rfl' _)
  · intro Q act_ wI hxI ha hp
    have xw_wI : Ext w wI := Ext.tr xw_w7 hxI
    have xw5_wI : Ext w5 wI := Ext.tr xw5_w7 hxI
    replace hb21 := hb21.ext hxI
    replace hb39 := hb39.ext hxI
    replace hoD4 := hoD4.ext hxI
    replace hoD5 := hoD5.ext hxI
    replace hoG := hoG.ext hxI
    replace hoD6 := hoD6.ext hxI
    exact h_callA ha ent34 rfl rfl rfl (rep_c [0] 1841 wI (by decide) (by decide)) rfl (by rintro _ w1 ⟨rfl, hR⟩; exact ⟨rfl, hR⟩)
  · intro Q act_ wI hxI ha hp
    have xw_wI : Ext w wI := Ext.tr xw_w7 hxI
    have xw5_wI : Ext w5 wI := Ext.tr xw5_w7 hxI
    replace hb21 := hb21.ext hxI
    replace hb39 := hb39.ext hxI
    replace hoD4 := hoD4.ext hxI
    replace hoD5 := hoD5.ext hxI
    replace hoG := hoG.ext hxI
    replace hoD6 := hoD6.ext hxI
    have ha := ha.add (show act_.tmps.getD 115 undef = .string (B ((Lib.repeatL [0] 7) ++ o1)) from hp 4 (by kernel_rfl) (by decide))
    have ha := ha.add (show act_.tmps.getD 116 undef = .string (B (Lib.repeatL [0] 1841)) from hp 5 (by kernel_rfl) (by decide))
    exact h_evA (v := .string (B (((Lib.repeatL [0] 7) ++ o1) ++ (Lib.repeatL [0] 1841)))) ha rfl (e_sadd rfl rfl (by simp only [maxLen, List.length_append, repL_length, o1_len]; decide)) rfl rfl (Ext.rfl' _)
  intro vs_ w8 hx_w8 hvs act_ ha hv
  have xw_w8 : Ext w w8 := Ext.tr xw_w7 hx_w8
  have xw5_w8 : Ext w5 w8 := Ext.tr xw5_w7 hx_w8
  replace hb21 := hb21.ext hx_w8
  replace hb39 := hb39.ext hx_w8
  replace hoD4 := hoD4.ext hx_w8
  replace hoD5 := hoD5.ext hx_w8
  replace hoG := hoG.ext hx_w8
  replace hoD6 := hoD6.ext hx_w8
  have ha := ha.add ((hv 6 (by decide)).trans (show vs_ 6 = .string (B (((Lib.repeatL [0] 7) ++ o1) ++ (Lib.repeatL [0] 1841))) from hvs 6 (by decide)))
  refine st_go ha ?_
  clear ha hv hvs
  refine st_ev (v := .string (B (((Lib.repeatL [0] 7) ++ o1) ++ (Lib.repeatL [0] 1841)))) rfl (e_assign rfl) ?_
  refine st_nil (nrm_k ?_)
  refine sc_seq ?_
  refine sc_reg ?_
  refine Go.XK.s (v := .string (B (((Lib.repeatL [0] 7) ++ o1) ++ (Lib.repeatL [0] 1841)))) (e_move rfl) ?_
  refine s_bslice (vs := [(0, .string (B [])), (1, .string (B (((Lib.repeatL [0] 7) ++ o1) ++ (Lib.repeatL [0] 1841))))]) (e := 9) rfl [.string (B []), .string (B (((Lib.repeatL [0] 7) ++ o1) ++ (Lib.repeatL [0] 1841)))] (by kernel_rfl) ?_
  intro b120 w9 hb120 he120 hs120 hx120
  have ne_b120_b21 : b120 ≠ b21 := by have h_ := hb21.lt; omega
  have ne_b120_b39 : b120 ≠ b39 := by have h_ := hb39.lt; omega
  have no_b120_hoD4 : Value.ownBlock (.slice AD4 ([eN].length) cD4) ≠ some b120 := fun h_ => by have h2_ := (Go.XK.Own.lt hoD4 _ h_).2; omega
  have no_b120_hoD5 : Value.ownBlock (.slice AD5 exE.length cD5) ≠ some b120 := fun h_ => by have h2_ := (Go.XK.Own.lt hoD5 _ h_).2; omega
  have no_b120_hoG : Value.ownBlock (.slice AG ([g0, g1].length) cG) ≠ some b120 := fun h_ => by have h2_ := (Go.XK.Own.lt hoG _ h_).2; omega
  have no_b120_hoD6 : Value.ownBlock (.slice AD6 jE.1.length cD6) ≠ some b120 := fun h_ => by have h2_ := (Go.XK.Own.lt hoD6 _ h_).2; omega
  have ge_b120 : w.heap.size ≤ b120 := by have h_ := (Below.size xw_w8); omega
  have gew5_b120 : w5.heap.size ≤ b120 := by have h_ := (Below.size xw5_w8); omega
  have xw_w9 : Ext w w9 := Ext.tr xw_w8 hx120
  have xw5_w9 : Ext w5 w9 := Ext.tr xw5_w8 hx120
  replace hb21 := hb21.ext hx120
  replace hb39 := hb39.ext hx120
  replace hoD4 := hoD4.ext hx120
  replace hoD5 := hoD5.ext hx120
  replace hoG := hoG.ext hx120
  replace hoD6 := hoD6.ext hx120
  refine Go.XK.s (v := .slice AD6 jE.1.length cD6) (e_move rfl) ?_
  refine Go.XK.s (v := .pointer (some (el (ownA (.slice AD6 jE.1.length cD6)) 1 0 0))) (e_idxOwn (x0 := o0) Try.underlying48 Try.sizeOf9 rfl rfl hoD6 (fun _ => rfl) jE_0 (by omega)) ?_
  refine Go.XK.s (v := .string (B o0)) (e_ldEl (xs := jE.1) (enc := encS) (e := o0) rfl (Go.XK.Own.rd hoD6 (fun _ => rfl)) jE_0 Try.isAgg9 rfl) ?_
  refine Go.XK.s (v := .string (B ([63, 63] ++ o0))) (e_sadd rfl rfl (by simp only [maxLen, List.length_append, o0_len]; decide)) ?_
  refine sl_call ent35 rfl rfl (walk_k _ w9 hb120) (by decide) ?_
  rintro _ w10 ⟨vD7, rfl, hoD7, hw10⟩
  replace hoD7 := Own.low hoD7 (Below.size xw_w9)
  have xw_w10 : Ext w w10 := Ext.tr xw_w9 hw10
  have xw5_w10 : Ext w5 w10 := Ext.tr xw5_w9 hw10
  replace hb21 := hb21.ext hw10
  replace hb39 := hb39.ext hw10
  replace hb120 := hb120.ext hw10
  replace hoD4 := hoD4.ext hw10
  replace hoD5 := hoD5.ext hw10
  replace hoG := hoG.ext hw10
  replace hoD6 := hoD6.ext hw10
  obtain ⟨AD7, cD7, eD7_, hlcD7, hcmD7, _⟩ := Go.XK.Own.shape hoD7 (fun _ => rfl)
  subst eD7_
  refine Go.XK.s (v := .tuple #[.slice AD7 exE.length cD7, .int .i64 0, .int .i64 0]) (e_move rfl) ?_
  refine Go.XK.s (v := .slice AD7 exE.length cD7) (e_extract (vs := [.slice AD7 exE.length cD7, .int .i64 0, .int .i64 0]) rfl rfl) ?_
  refine Go.XK.s (v := .int .i64 0) (e_extract (vs := [.slice AD7 exE.length cD7, .int .i64 0, .int .i64 0]) rfl rfl) ?_
  refine Go.XK.s (v := .int .i64 0) (e_extract (vs := [.slice AD7 exE.length cD7, .int .i64 0, .int .i64 0]) rfl rfl) ?_
  refine Go.XK.s (v := .slice AD7 exE.length cD7) (e_assign rfl) ?_
  refine Go.XK.s (v := .int .i64 0) (e_assign rfl) ?_
  refine Go.XK.s (v := .int .i64 0) (e_assign rfl) ?_
  refine sl_nil (nrm_k ?_)
  refine sc_seq ?_
  refine sc_reg ?_
  refine sl_call ent24 rfl rfl (ind_k w10) (by decide) ?_
  rintro _ w11 ⟨rfl, hw11⟩
  have xw_w11 : Ext w w11 := Ext.tr xw_w10 hw11
  have xw5_w11 : Ext w5 w11 := Ext.tr xw5_w10 hw11
  replace hb21 := hb21.ext hw11
  replace hb39 := hb39.ext hw11
  replace hb120 := hb120.ext hw11
  replace hoD4 := hoD4.ext hw11
  replace hoD5 := hoD5.ext hw11
  replace hoG := hoG.ext hw11
  replace hoD6 := hoD6.ext hw11
  replace hoD7 := hoD7.ext hw11
  refine Go.XK.s (v := .tuple #[.agg #[.string (B [83, 80]), .int .i64 1, .string (B [190, 239, 2])], .int .i64 0]) (e_move rfl) ?_
  refine Go.XK.s (v := .agg #[.string (B [83, 80]), .int .i64 1, .string (B [190, 239, 2])]) (e_extract (vs := [.agg #[.string (B [83, 80]), .int .i64 1, .string (B [190, 239, 2])], .int .i64 0]) rfl rfl) ?_
  refine Go.XK.s (v := .int .i64 0) (e_extract (vs := [.agg #[.string (B [83, 80]), .int .i64 1, .string (B [190, 239, 2])], .int .i64 0]) rfl rfl) ?_
  refine s_alloc (cs := [.string (B []), .int .i64 0, .string (B [])]) Try.zeroValue41 rfl ?_
  intro b13 w12 hb13 he13 hs13 hx13
  have ne_b13_b21 : b13 ≠ b21 := by have h_ := hb21.lt; omega
  have ne_b13_b39 : b13 ≠ b39 := by have h_ := hb39.lt; omega
  have ne_b13_b120 : b13 ≠ b120 := by have h_ := hb120.lt; omega
  have no_b13_hoD4 : Value.ownBlock (.slice AD4 ([eN].length) cD4) ≠ some b13 := fun h_ => by have h2_ := (Go.XK.Own.lt hoD4 _ h_).2; omega
  have no_b13_hoD5 : Value.ownBlock (.slice AD5 exE.length cD5) ≠ some b13 := fun h_ => by have h2_ := (Go.XK.Own.lt hoD5 _ h_).2; omega
  have no_b13_hoG : Value.ownBlock (.slice AG ([g0, g1].length) cG) ≠ some b13 := fun h_ => by have h2_ := (Go.XK.Own.lt hoG _ h_).2; omega
  have no_b13_hoD6 : Value.ownBlock (.slice AD6 jE.1.length cD6) ≠ some b13 := fun h_ => by have h2_ := (Go.XK.Own.lt hoD6 _ h_).2; omega
  have no_b13_hoD7 : Value.ownBlock (.slice AD7 exE.length cD7) ≠ some b13 := fun h_ => by have h2_ := (Go.XK.Own.lt hoD7 _ h_).2; omega
  have ge_b13 : w.heap.size ≤ b13 := by have h_ := (Below.size xw_w11); omega
  have gew5_b13 : w5.heap.size ≤ b13 := by have h_ := (Below.size xw5_w11); omega
  have xw_w12 : Ext w w12 := Ext.tr xw_w11 hx13
  have xw5_w12 : Ext w5 w12 := Ext.tr xw5_w11 hx13
  replace hb21 := hb21.ext hx13
  replace hb39 := hb39.ext hx13
  replace hb120 := hb120.ext hx13
  replace hoD4 := hoD4.ext hx13
  replace hoD5 := hoD5.ext hx13
  replace hoG := hoG.ext hx13
  replace hoD6 := hoD6.ext hx13
  replace hoD7 := hoD7.ext hx13
  refine su_blkV [.string (B [83, 80]), .int .i64 1, .string (B [190, 239, 2])] [.string (B [83, 80]), .int .i64 1, .string (B [190, 239, 2])] rfl rfl hb13 rfl Try.sizeOf41 (Nat.le_of_ble_eq_true rfl) rfl rfl ?_
  intro w13 hn_ hm_w13 hs_w13
  have ho_ := hb13
  replace hb13 := hn_
  clear hn_
  replace hb21 := hb21.mut hm_w13 (Ne.symm ne_b13_b21)
  replace hb39 := hb39.mut hm_w13 (Ne.symm ne_b13_b39)
  replace hb120 := hb120.mut hm_w13 (Ne.symm ne_b13_b120)
  replace hoD4 := hoD4.mut hm_w13 no_b13_hoD4
  replace hoD5 := hoD5.mut hm_w13 no_b13_hoD5
  replace hoG := hoG.mut hm_w13 no_b13_hoG
  replace hoD6 := hoD6.mut hm_w13 no_b13_hoD6
  replace hoD7 := hoD7.mut hm_w13 no_b13_hoD7
  have xw_w13 : Ext w w13 := below_mut xw_w12 (Below.size xw_w12) hm_w13 ge_b13
  have xw5_w13 : Ext w5 w13 := below_mut xw5_w12 (Below.size xw5_w12) hm_w13 gew5_b13
  refine Go.XK.s (v := .int .i64 0) (e_assign rfl) ?_
  refine sl_nil (nrm_k ?_)
  refine sc_seq ?_
  refine sc_reg ?_
  refine sl_call ent28 rfl rfl (refr_k w13) (by decide) ?_
  rintro _ w14 ⟨rfl, hw14⟩
  have xw_w14 : Ext w w14 := Ext.tr xw_w13 hw14
  have xw5_w14 : Ext w5 w14 := Ext.tr xw5_w13 hw14
  replace hb21 := hb21.ext hw14
  replace hb39 := hb39.ext hw14
  replace hb120 := hb120.ext hw14
  replace hb13 := hb13.ext hw14
  replace hoD4 := hoD4.ext hw14
  replace hoD5 := hoD5.ext hw14
  replace hoG := hoG.ext hw14
  replace hoD6 := hoD6.ext hw14
  replace hoD7 := hoD7.ext hw14
  refine Go.XK.s (v := .tuple #[.agg #[.string (B [69, 82]), .int .i64 1, .string (B [2, 1, 1, 1, 73, 68, 100, 115])], .int .i64 0]) (e_move rfl) ?_
  refine Go.XK.s (v := .agg #[.string (B [69, 82]), .int .i64 1, .string (B [2, 1, 1, 1, 73, 68, 100, 115])]) (e_extract (vs := [.agg #[.string (B [69, 82]), .int .i64 1, .string (B [2, 1, 1, 1, 73, 68, 100, 115])], .int .i64 0]) rfl rfl) ?_
  refine Go.XK.s (v := .int .i64 0) (e_extract (vs := [.agg #[.string (B [69, 82]), .int .i64 1, .string (B [2, 1, 1, 1, 73, 68, 100, 115])], .int .i64 0]) rfl rfl) ?_
  refine s_alloc (cs := [.string (B []), .int .i64 0, .string (B [])]) Try.zeroValue41 rfl ?_
  intro b15 w15 hb15 he15 hs15 hx15
  have ne_b15_b21 : b15 ≠ b21 := by have h_ := hb21.lt; omega
  have ne_b15_b39 : b15 ≠ b39 := by have h_ := hb39.lt; omega
  have ne_b15_b120 : b15 ≠ b120 := by have h_ := hb120.lt; omega
  have ne_b15_b13 : b15 ≠ b13 := by have h_ := hb13.lt; omega
  have no_b15_hoD4 : Value.ownBlock (.slice AD4 ([eN].length) cD4) ≠ some b15 := fun h_ => by have h2_ := (Go.XK.Own.lt hoD4 _ h_).2; omega
  have no_b15_hoD5 : Value.ownBlock (.slice AD5 exE.length cD5) ≠ some b15 := fun h_ => by have h2_ := (Go.XK.Own.lt hoD5 _ h_).2; omega
  have no_b15_hoG : Value.ownBlock (.slice AG ([g0, g1].length) cG) ≠ some b15 := fun h_ => by have h2_ := (Go.XK.Own.lt hoG _ h_).2; omega
  have no_b15_hoD6 : Value.ownBlock (.slice AD6 jE.1.length cD6) ≠ some b15 := fun h_ => by have h2_ := (Go.XK.Own.lt hoD6 _ h_).2; omega
  have no_b15_hoD7 : Value.ownBlock (.slice AD7 exE.length cD7) ≠ some b15 := fun h_ => by have h2_ := (Go.XK.Own.lt hoD7 _ h_).2; omega
  have ge_b15 : w.heap.size ≤ b15 := by have h_ := (Below.size xw_w14); omega
  have gew5_b15 : w5.heap.size ≤ b15 := by have h_ := (Below.size xw5_w14); omega
  have xw_w15 : Ext w w15 := Ext.tr xw_w14 hx15
  have xw5_w15 : Ext w5 w15 := Ext.tr xw5_w14 hx15
  replace hb21 := hb21.ext hx15
  replace hb39 := hb39.ext hx15
  replace hb120 := hb120.ext hx15
  replace hb13 := hb13.ext hx15
  replace hoD4 := hoD4.ext hx15
  replace hoD5 := hoD5.ext hx15
  replace hoG := hoG.ext hx15
  replace hoD6 := hoD6.ext hx15
  replace hoD7 := hoD7.ext hx15
  refine su_blkV [.string (B [69, 82]), .int .i64 1, .string (B [2, 1, 1, 1, 73, 68, 100, 115])] [.string (B [69, 82]), .int .i64 1, .string (B [2, 1, 1, 1, 73, 68, 100, 115])] rfl rfl hb15 rfl Try.sizeOf41 (Nat.le_of_ble_eq_true rfl) rfl rfl ?_
  intro w16 hn_ hm_w16 hs_w16
  have ho_ := hb15
  replace hb15 := hn_
  clear hn_
  replace hb21 := hb21.mut hm_w16 (Ne.symm ne_b15_b21)
  replace hb39 := hb39.mut hm_w16 (Ne.symm ne_b15_b39)
  replace hb120 := hb120.mut hm_w16 (Ne.symm ne_b15_b120)
  replace hb13 := hb13.mut hm_w16 (Ne.symm ne_b15_b13)
  replace hoD4 := hoD4.mut hm_w16 no_b15_hoD4
  replace hoD5 := hoD5.mut hm_w16 no_b15_hoD5
  replace hoG := hoG.mut hm_w16 no_b15_hoG
  replace hoD6 := hoD6.mut hm_w16 no_b15_hoD6
  replace hoD7 := hoD7.mut hm_w16 no_b15_hoD7
  have xw_w16 : Ext w w16 := below_mut xw_w15 (Below.size xw_w15) hm_w16 ge_b15
  have xw5_w16 : Ext w5 w16 := below_mut xw5_w15 (Below.size xw5_w15) hm_w16 gew5_b15
  refine Go.XK.s (v := .int .i64 0) (e_assign rfl) ?_
  refine sl_nil (nrm_k ?_)
  refine sc_seq ?_
  refine sc_reg ?_
  refine sl_call ent26 rfl rfl (inds_k w16) (by decide) ?_
  rintro _ w17 ⟨rfl, hw17⟩
  have xw_w17 : Ext w w17 := Ext.tr xw_w16 hw17
  have xw5_w17 : Ext w5 w17 := Ext.tr xw5_w16 hw17
  replace hb21 := hb21.ext hw17
  replace hb39 := hb39.ext hw17
  replace hb120 := hb120.ext hw17
  replace hb13 := hb13.ext hw17
  replace hb15 := hb15.ext hw17
  replace hoD4 := hoD4.ext hw17
  replace hoD5 := hoD5.ext hw17
  replace hoG := hoG.ext hw17
  replace hoD6 := hoD6.ext hw17
  replace hoD7 := hoD7.ext hw17
  refine Go.XK.s (v := .tuple #[.int .i64 2, .bool true]) (e_move rfl) ?_
  refine Go.XK.s (v := .int .i64 2) (e_extract (vs := [.int .i64 2, .bool true]) rfl rfl) ?_
  refine Go.XK.s (v := .bool true) (e_extract (vs := [.int .i64 2, .bool true]) rfl rfl) ?_
  refine Go.XK.s (v := .int .i64 2) (e_assign rfl) ?_
  refine Go.XK.s (v := .bool true) (e_assign rfl) ?_
  refine sl_nil (nrm_k ?_)
  refine sc_seq ?_
  refine sc_reg ?_
  refine Go.XK.s (v := .int .i64 0) (e_move rfl) ?_
  refine Go.XK.s (v := .bool (decide ((0 : Int) = 0))) (e_eq rfl rfl) ?_
  refine Go.XK.s (v := .bool (decide ((0 : Int) = 0))) (e_move rfl) ?_
  refine sl_gev (v := .int .i64 0) rfl rfl (by decide) (e_move rfl) rfl (by decide) ?_
  refine sl_gev (v := .bool (decide ((0 : Int) = 0))) rfl rfl (by decide) (e_eq rfl rfl) rfl (by decide) ?_
  refine Go.XK.s (v := .bool (decide ((0 : Int) = 0))) (e_pickT rfl (by decide) rfl) ?_
  refine Go.XK.s (v := .bool (decide ((0 : Int) = 0))) (e_move rfl) ?_
  refine sl_gev (v := .slice AD7 exE.length cD7) rfl rfl (by decide) (e_move rfl) rfl (by decide) ?_
  refine sl_gcall rfl rfl (by decide) ent43 rfl rfl (example_c w17) (by decide) ?_
  rintro vD8 w18 ⟨hoD8, hw18⟩
  replace hoD8 := Own.low hoD8 (Below.size xw_w17)
  have xw_w18 : Ext w w18 := Ext.tr xw_w17 hw18
  have xw5_w18 : Ext w5 w18 := Ext.tr xw5_w17 hw18
  replace hb21 := hb21.ext hw18
  replace hb39 := hb39.ext hw18
  replace hb120 := hb120.ext hw18
  replace hb13 := hb13.ext hw18
  replace hb15 := hb15.ext hw18
  replace hoD4 := hoD4.ext hw18
  replace hoD5 := hoD5.ext hw18
  replace hoG := hoG.ext hw18
  replace hoD6 := hoD6.ext hw18
  replace hoD7 := hoD7.ext hw18
  obtain ⟨AD8, cD8, eD8_, hlcD8, hcmD8, _⟩ := Go.XK.Own.shape hoD8 (fun _ => rfl)
  subst eD8_
  refine sl_gcall rfl rfl (by decide) ent17 rfl rfl (same_c _ _ _ _ _ _ w18 (Go.XK.Own.slr hoD7 (fun _ => rfl)) (Go.XK.Own.slr hoD8 (fun _ => rfl))) (by decide) ?_
  rintro _ w19 ⟨rfl, hw19⟩
  have xw_w19 : Ext w w19 := Ext.tr xw_w18 hw19
  have xw5_w19 : Ext w5 w19 := Ext.tr xw5_w18 hw19
  replace hb21 := hb21.ext hw19
  replace hb39 := hb39.ext hw19
  replace hb120 := hb120.ext hw19
  replace hb13 := hb13.ext hw19
  replace hb15 := hb15.ext hw19
  replace hoD4 := hoD4.ext hw19
  replace hoD5 := hoD5.ext hw19
  replace hoG := hoG.ext hw19
  replace hoD6 := hoD6.ext hw19
  replace hoD7 := hoD7.ext hw19
  replace hoD8 := hoD8.ext hw19
  refine Go.XK.s (v := .bool (decide (exE = exE))) (e_pickT rfl (by decide) rfl) ?_
  refine Go.XK.s (v := .bool (decide (exE = exE))) (e_move rfl) ?_
  refine sl_gev (v := .slice AG [g0, g1].length cG) rfl rfl (decide_eq_true (by rfl)) (e_move rfl) rfl (by decide) ?_
  refine sl_gcall rfl rfl (decide_eq_true (by rfl)) ent22 rfl rfl (lens_k g0 g1 _ _ w19 (Go.XK.Own.slr hoG (fun _ => rfl)) (hinG.ext xw5_w19) hg0 hg1) (by decide) ?_
  rintro vD9 w20 ⟨hoD9, hw20⟩
  replace hoD9 := Own.low hoD9 (Below.size xw_w19)
  have xw_w20 : Ext w w20 := Ext.tr xw_w19 hw20
  have xw5_w20 : Ext w5 w20 := Ext.tr xw5_w19 hw20
  replace hb21 := hb21.ext hw20
  replace hb39 := hb39.ext hw20
  replace hb120 := hb120.ext hw20
  replace hb13 := hb13.ext hw20
  replace hb15 := hb15.ext hw20
  replace hoD4 := hoD4.ext hw20
  replace hoD5 := hoD5.ext hw20
  replace hoG := hoG.ext hw20
  replace hoD6 := hoD6.ext hw20
  replace hoD7 := hoD7.ext hw20
  replace hoD8 := hoD8.ext hw20
  obtain ⟨AD9, cD9, eD9_, hlcD9, hcmD9, _⟩ := Go.XK.Own.shape hoD9 (fun _ => rfl)
  subst eD9_
  refine sl_unguard rfl rfl (decide_eq_true (by rfl)) ?_
  refine s_bslice (vs := [(0, .int .i64 128), (1, .int .i64 200)]) (e := 3) rfl [.int .i64 128, .int .i64 200] (by kernel_rfl) ?_
  intro b155 w21 hb155 he155 hs155 hx155
  have ne_b155_b21 : b155 ≠ b21 := by have h_ := hb21.lt; omega
  have ne_b155_b39 : b155 ≠ b39 := by have h_ := hb39.lt; omega
  have ne_b155_b120 : b155 ≠ b120 := by have h_ := hb120.lt; omega
  have ne_b155_b13 : b155 ≠ b13 := by have h_ := hb13.lt; omega
  have ne_b155_b15 : b155 ≠ b15 := by have h_ := hb15.lt; omega
  have no_b155_hoD4 : Value.ownBlock (.slice AD4 ([eN].length) cD4) ≠ some b155 := fun h_ => by have h2_ := (Go.XK.Own.lt hoD4 _ h_).2; omega
  have no_b155_hoD5 : Value.ownBlock (.slice AD5 exE.length cD5) ≠ some b155 := fun h_ => by have h2_ := (Go.XK.Own.lt hoD5 _ h_).2; omega
  have no_b155_hoG : Value.ownBlock (.slice AG ([g0, g1].length) cG) ≠ some b155 := fun h_ => by have h2_ := (Go.XK.Own.lt hoG _ h_).2; omega
  have no_b155_hoD6 : Value.ownBlock (.slice AD6 jE.1.length cD6) ≠ some b155 := fun h_ => by have h2_ := (Go.XK.Own.lt hoD6 _ h_).2; omega
  have no_b155_hoD7 : Value.ownBlock (.slice AD7 exE.length cD7) ≠ some b155 := fun h_ => by have h2_ := (Go.XK.Own.lt hoD7 _ h_).2; omega
  have no_b155_hoD8 : Value.ownBlock (.slice AD8 exE.length cD8) ≠ some b155 := fun h_ => by have h2_ := (Go.XK.Own.lt hoD8 _ h_).2; omega
  have no_b155_hoD9 : Value.ownBlock (.slice AD9 ([128, 200].length) cD9) ≠ some b155 := fun h_ => by have h2_ := (Go.XK.Own.lt hoD9 _ h_).2; omega
  have ge_b155 : w.heap.size ≤ b155 := by have h_ := (Below.size xw_w20); omega
  have gew5_b155 : w5.heap.size ≤ b155 := by have h_ := (Below.size xw5_w20); omega
  have xw_w21 : Ext w w21 := Ext.tr xw_w20 hx155
  have xw5_w21 : Ext w5 w21 := Ext.tr xw5_w20 hx155
  replace hb21 := hb21.ext hx155
  replace hb39 := hb39.ext hx155
  replace hb120 := hb120.ext hx155
  replace hb13 := hb13.ext hx155
  replace hb15 := hb15.ext hx155
  replace hoD4 := hoD4.ext hx155
  replace hoD5 := hoD5.ext hx155
  replace hoG := hoG.ext hx155
  replace hoD6 := hoD6.ext hx155
  replace hoD7 := hoD7.ext hx155
  replace hoD8 := hoD8.ext hx155
  replace hoD9 := hoD9.ext hx155
  refine sl_gcall rfl rfl (decide_eq_true (by rfl)) ent21 rfl rfl (eqI_k _ _ _ w21 (Go.XK.Own.slr hoD9 (fun _ => rfl)) hb155) (by decide) ?_
  rintro _ w22 ⟨rfl, hw22⟩
  have xw_w22 : Ext w w22 := Ext.tr xw_w21 hw22
  have xw5_w22 : Ext w5 w22 := Ext.tr xw5_w21 hw22
  replace hb21 := hb21.ext hw22
  replace hb39 := hb39.ext hw22
  replace hb120 := hb120.ext hw22
  replace hb13 := hb13.ext hw22
  replace hb15 := hb15.ext hw22
  replace hb155 := hb155.ext hw22
  replace hoD4 := hoD4.ext hw22
  replace hoD5 := hoD5.ext hw22
  replace hoG := hoG.ext hw22
  replace hoD6 := hoD6.ext hw22
  replace hoD7 := hoD7.ext hw22
  replace hoD8 := hoD8.ext hw22
  replace hoD9 := hoD9.ext hw22
  refine Go.XK.s (v := .bool true) (e_pickT rfl (decide_eq_true (by rfl)) rfl) ?_
  refine Go.XK.s (v := .bool true) (e_move rfl) ?_
  refine sl_gcall rfl rfl rfl ent43 rfl rfl (example_c w22) (by decide) ?_
  rintro vD10 w23 ⟨hoD10, hw23⟩
  replace hoD10 := Own.low hoD10 (Below.size xw_w22)
  have xw_w23 : Ext w w23 := Ext.tr xw_w22 hw23
  have xw5_w23 : Ext w5 w23 := Ext.tr xw5_w22 hw23
  replace hb21 := hb21.ext hw23
  replace hb39 := hb39.ext hw23
  replace hb120 := hb120.ext hw23
  replace hb13 := hb13.ext hw23
  replace hb15 := hb15.ext hw23
  replace hb155 := hb155.ext hw23
  replace hoD4 := hoD4.ext hw23
  replace hoD5 := hoD5.ext hw23
  replace hoG := hoG.ext hw23
  replace hoD6 := hoD6.ext hw23
  replace hoD7 := hoD7.ext hw23
  replace hoD8 := hoD8.ext hw23
  replace hoD9 := hoD9.ext hw23
  obtain ⟨AD10, cD10, eD10_, hlcD10, hcmD10, _⟩ := Go.XK.Own.shape hoD10 (fun _ => rfl)
  subst eD10_
  refine sl_gcall rfl rfl rfl ent15 rfl rfl (size_k _ _ w23 (Go.XK.Own.slr hoD10 (fun _ => rfl))) (by decide) ?_
  rintro _ w24 ⟨rfl, hw24⟩
  have xw_w24 : Ext w w24 := Ext.tr xw_w23 hw24
  have xw5_w24 : Ext w5 w24 := Ext.tr xw5_w23 hw24
  replace hb21 := hb21.ext hw24
  replace hb39 := hb39.ext hw24
  replace hb120 := hb120.ext hw24
  replace hb13 := hb13.ext hw24
  replace hb15 := hb15.ext hw24
  replace hb155 := hb155.ext hw24
  replace hoD4 := hoD4.ext hw24
  replace hoD5 := hoD5.ext hw24
  replace hoG := hoG.ext hw24
  replace hoD6 := hoD6.ext hw24
  replace hoD7 := hoD7.ext hw24
  replace hoD8 := hoD8.ext hw24
  replace hoD9 := hoD9.ext hw24
  replace hoD10 := hoD10.ext hw24
  refine sl_gev (v := .bool (decide ((300 : Int) = 300))) rfl rfl rfl (e_eq rfl rfl) rfl (by decide) ?_
  refine Go.XK.s (v := .bool (decide ((300 : Int) = 300))) (e_pickT rfl rfl rfl) ?_
  refine Go.XK.s (v := .bool (decide ((300 : Int) = 300))) (e_move rfl) ?_
  refine sl_gev (v := .int .i64 0) rfl rfl (by decide) (e_move rfl) rfl (by decide) ?_
  refine sl_gev (v := .bool (decide ((0 : Int) = 0))) rfl rfl (by decide) (e_eq rfl rfl) rfl (by decide) ?_
  refine Go.XK.s (v := .bool (decide ((0 : Int) = 0))) (e_pickT rfl (by decide) rfl) ?_
  refine Go.XK.s (v := .bool (decide ((0 : Int) = 0))) (e_move rfl) ?_
  refine sl_gev (v := .pointer (some ⟨b13, 2, none⟩)) rfl rfl (by decide) (e_fieldB (sz := 1) Try.underlying41 rfl Try.sizeOf9 (by decide) rfl rfl) rfl (by decide) ?_
  refine sl_gev (v := .string (B [190, 239, 2])) rfl rfl (by decide) (e_load rfl (load1 Try.isAgg9 (hb13.cell (j := 2) rfl))) rfl (by decide) ?_
  refine sl_gev (v := .bool (decide ([190, 239, 2] = [190, 239, 2]))) rfl rfl (by decide) (e_seq rfl rfl) rfl (by decide) ?_
  refine Go.XK.s (v := .bool (decide ([190, 239, 2] = [190, 239, 2]))) (e_pickT rfl (by decide) rfl) ?_
  refine Go.XK.s (v := .bool (decide ([190, 239, 2] = [190, 239, 2]))) (e_move rfl) ?_
  refine sl_gev (v := .int .i64 0) rfl rfl (decide_eq_true (by rfl)) (e_move rfl) rfl (by decide) ?_
  refine sl_gev (v := .bool (decide ((0 : Int) = 0))) rfl rfl (decide_eq_true (by rfl)) (e_eq rfl rfl) rfl (by decide) ?_
  refine Go.XK.s (v := .bool (decide ((0 : Int) = 0))) (e_pickT rfl (decide_eq_true (by rfl)) rfl) ?_
  refine Go.XK.s (v := .bool (decide ((0 : Int) = 0))) (e_move rfl) ?_
  refine sl_gev (v := .pointer (some ⟨b15, 2, none⟩)) rfl rfl (by decide) (e_fieldB (sz := 1) Try.underlying41 rfl Try.sizeOf9 (by decide) rfl rfl) rfl (by decide) ?_
  refine sl_gev (v := .string (B [2, 1, 1, 1, 73, 68, 100, 115])) rfl rfl (by decide) (e_load rfl (load1 Try.isAgg9 (hb15.cell (j := 2) rfl))) rfl (by decide) ?_
  refine sl_gev (v := .bool (decide ([2, 1, 1, 1, 73, 68, 100, 115] = [2, 1, 1, 1, 73, 68, 100, 115]))) rfl rfl (by decide) (e_seq rfl rfl) rfl (by decide) ?_
  refine Go.XK.s (v := .bool (decide ([2, 1, 1, 1, 73, 68, 100, 115] = [2, 1, 1, 1, 73, 68, 100, 115]))) (e_pickT rfl (by decide) rfl) ?_
  refine Go.XK.s (v := .bool (decide ([2, 1, 1, 1, 73, 68, 100, 115] = [2, 1, 1, 1, 73, 68, 100, 115]))) (e_move rfl) ?_
  refine sl_gev (v := .bool true) rfl rfl (decide_eq_true (by rfl)) (e_move rfl) rfl (by decide) ?_
  refine Go.XK.s (v := .bool true) (e_pickT rfl (decide_eq_true (by rfl)) rfl) ?_
  refine Go.XK.s (v := .bool true) (e_move rfl) ?_
  refine sl_gev (v := .int .i64 2) rfl rfl rfl (e_move rfl) rfl (by decide) ?_
  refine sl_gev (v := .bool (decide ((2 : Int) = 2))) rfl rfl rfl (e_eq rfl rfl) rfl (by decide) ?_
  refine Go.XK.s (v := .bool (decide ((2 : Int) = 2))) (e_pickT rfl rfl rfl) ?_
  refine Go.XK.s (v := .bool (decide ((2 : Int) = 2))) (e_move rfl) ?_
  refine sl_gev (v := .agg #[.string (B [69, 82]), .int .i64 1, .string (B [2, 1, 1, 1, 73, 68, 100, 115])]) rfl rfl (by decide) (e_load rfl (hb15.loadA Try.isAgg41 Try.sizeOf41 rfl)) rfl (by decide) ?_
  refine sl_unguard rfl rfl (by decide) ?_
  refine s_bslice (vs := [(0, .agg #[.string (B [69, 82]), .int .i64 1, .string (B [2, 1, 1, 1, 73, 68, 100, 115])])]) (e := 41) rfl [.string (B [69, 82]), .int .i64 1, .string (B [2, 1, 1, 1, 73, 68, 100, 115])] (by kernel_rfl) ?_
  intro b190 w25 hb190 he190 hs190 hx190
  have ne_b190_b21 : b190 ≠ b21 := by have h_ := hb21.lt; omega
  have ne_b190_b39 : b190 ≠ b39 := by have h_ := hb39.lt; omega
  have ne_b190_b120 : b190 ≠ b120 := by have h_ := hb120.lt; omega
  have ne_b190_b13 : b190 ≠ b13 := by have h_ := hb13.lt; omega
  have ne_b190_b15 : b190 ≠ b15 := by have h_ := hb15.lt; omega
  have ne_b190_b155 : b190 ≠ b155 := by have h_ := hb155.lt; omega
  have no_b190_hoD4 : Value.ownBlock (.slice AD4 ([eN].length) cD4) ≠ some b190 := fun h_ => by have h2_ := (Go.XK.Own.lt hoD4 _ h_).2; omega
  have no_b190_hoD5 : Value.ownBlock (.slice AD5 exE.length cD5) ≠ some b190 := fun h_ => by have h2_ := (Go.XK.Own.lt hoD5 _ h_).2; omega
  have no_b190_hoG : Value.ownBlock (.slice AG ([g0, g1].length) cG) ≠ some b190 := fun h_ => by have h2_ := (Go.XK.Own.lt hoG _ h_).2; omega
  have no_b190_hoD6 : Value.ownBlock (.slice AD6 jE.1.length cD6) ≠ some b190 := fun h_ => by have h2_ := (Go.XK.Own.lt hoD6 _ h_).2; omega
  have no_b190_hoD7 : Value.ownBlock (.slice AD7 exE.length cD7) ≠ some b190 := fun h_ => by have h2_ := (Go.XK.Own.lt hoD7 _ h_).2; omega
  have no_b190_hoD8 : Value.ownBlock (.slice AD8 exE.length cD8) ≠ some b190 := fun h_ => by have h2_ := (Go.XK.Own.lt hoD8 _ h_).2; omega
  have no_b190_hoD9 : Value.ownBlock (.slice AD9 ([128, 200].length) cD9) ≠ some b190 := fun h_ => by have h2_ := (Go.XK.Own.lt hoD9 _ h_).2; omega
  have no_b190_hoD10 : Value.ownBlock (.slice AD10 exE.length cD10) ≠ some b190 := fun h_ => by have h2_ := (Go.XK.Own.lt hoD10 _ h_).2; omega
  have ge_b190 : w.heap.size ≤ b190 := by have h_ := (Below.size xw_w24); omega
  have gew5_b190 : w5.heap.size ≤ b190 := by have h_ := (Below.size xw5_w24); omega
  have xw_w25 : Ext w w25 := Ext.tr xw_w24 hx190
  have xw5_w25 : Ext w5 w25 := Ext.tr xw5_w24 hx190
  replace hb21 := hb21.ext hx190
  replace hb39 := hb39.ext hx190
  replace hb120 := hb120.ext hx190
  replace hb13 := hb13.ext hx190
  replace hb15 := hb15.ext hx190
  replace hb155 := hb155.ext hx190
  replace hoD4 := hoD4.ext hx190
  replace hoD5 := hoD5.ext hx190
  replace hoG := hoG.ext hx190
  replace hoD6 := hoD6.ext hx190
  replace hoD7 := hoD7.ext hx190
  replace hoD8 := hoD8.ext hx190
  replace hoD9 := hoD9.ext hx190
  replace hoD10 := hoD10.ext hx190
  refine sl_gcall rfl rfl (by decide) ent31 rfl rfl (refs_k _ w25 hb190) (by decide) ?_
  rintro vD11 w26 ⟨hoD11, hw26⟩
  replace hoD11 := Own.low hoD11 (Below.size xw_w25)
  have xw_w26 : Ext w w26 := Ext.tr xw_w25 hw26
  have xw5_w26 : Ext w5 w26 := Ext.tr xw5_w25 hw26
  replace hb21 := hb21.ext hw26
  replace hb39 := hb39.ext hw26
  replace hb120 := hb120.ext hw26
  replace hb13 := hb13.ext hw26
  replace hb15 := hb15.ext hw26
  replace hb155 := hb155.ext hw26
  replace hb190 := hb190.ext hw26
  replace hoD4 := hoD4.ext hw26
  replace hoD5 := hoD5.ext hw26
  replace hoG := hoG.ext hw26
  replace hoD6 := hoD6.ext hw26
  replace hoD7 := hoD7.ext hw26
  replace hoD8 := hoD8.ext hw26
  replace hoD9 := hoD9.ext hw26
  replace hoD10 := hoD10.ext hw26
  obtain ⟨AD11, cD11, eD11_, hlcD11, hcmD11, _⟩ := Go.XK.Own.shape hoD11 (fun _ => rfl)
  subst eD11_
  refine sl_unguard rfl rfl (by decide) ?_
  refine s_bslice (vs := [(0, .string (B [73, 68]))]) (e := 9) rfl [.string (B [73, 68])] (by kernel_rfl) ?_
  intro b192 w27 hb192 he192 hs192 hx192
  have ne_b192_b21 : b192 ≠ b21 := by have h_ := hb21.lt; omega
  have ne_b192_b39 : b192 ≠ b39 := by have h_ := hb39.lt; omega
  have ne_b192_b120 : b192 ≠ b120 := by have h_ := hb120.lt; omega
  have ne_b192_b13 : b192 ≠ b13 := by have h_ := hb13.lt; omega
  have ne_b192_b15 : b192 ≠ b15 := by have h_ := hb15.lt; omega
  have ne_b192_b155 : b192 ≠ b155 := by have h_ := hb155.lt; omega
  have ne_b192_b190 : b192 ≠ b190 := by have h_ := hb190.lt; omega
  have no_b192_hoD4 : Value.ownBlock (.slice AD4 ([eN].length) cD4) ≠ some b192 := fun h_ => by have h2_ := (Go.XK.Own.lt hoD4 _ h_).2; omega
  have no_b192_hoD5 : Value.ownBlock (.slice AD5 exE.length cD5) ≠ some b192 := fun h_ => by have h2_ := (Go.XK.Own.lt hoD5 _ h_).2; omega
  have no_b192_hoG : Value.ownBlock (.slice AG ([g0, g1].length) cG) ≠ some b192 := fun h_ => by have h2_ := (Go.XK.Own.lt hoG _ h_).2; omega
  have no_b192_hoD6 : Value.ownBlock (.slice AD6 jE.1.length cD6) ≠ some b192 := fun h_ => by have h2_ := (Go.XK.Own.lt hoD6 _ h_).2; omega
  have no_b192_hoD7 : Value.ownBlock (.slice AD7 exE.length cD7) ≠ some b192 := fun h_ => by have h2_ := (Go.XK.Own.lt hoD7 _ h_).2; omega
  have no_b192_hoD8 : Value.ownBlock (.slice AD8 exE.length cD8) ≠ some b192 := fun h_ => by have h2_ := (Go.XK.Own.lt hoD8 _ h_).2; omega
  have no_b192_hoD9 : Value.ownBlock (.slice AD9 ([128, 200].length) cD9) ≠ some b192 := fun h_ => by have h2_ := (Go.XK.Own.lt hoD9 _ h_).2; omega
  have no_b192_hoD10 : Value.ownBlock (.slice AD10 exE.length cD10) ≠ some b192 := fun h_ => by have h2_ := (Go.XK.Own.lt hoD10 _ h_).2; omega
  have no_b192_hoD11 : Value.ownBlock (.slice AD11 ([[73, 68]].length) cD11) ≠ some b192 := fun h_ => by have h2_ := (Go.XK.Own.lt hoD11 _ h_).2; omega
  have ge_b192 : w.heap.size ≤ b192 := by have h_ := (Below.size xw_w26); omega
  have gew5_b192 : w5.heap.size ≤ b192 := by have h_ := (Below.size xw5_w26); omega
  have xw_w27 : Ext w w27 := Ext.tr xw_w26 hx192
  have xw5_w27 : Ext w5 w27 := Ext.tr xw5_w26 hx192
  replace hb21 := hb21.ext hx192
  replace hb39 := hb39.ext hx192
  replace hb120 := hb120.ext hx192
  replace hb13 := hb13.ext hx192
  replace hb15 := hb15.ext hx192
  replace hb155 := hb155.ext hx192
  replace hb190 := hb190.ext hx192
  replace hoD4 := hoD4.ext hx192
  replace hoD5 := hoD5.ext hx192
  replace hoG := hoG.ext hx192
  replace hoD6 := hoD6.ext hx192
  replace hoD7 := hoD7.ext hx192
  replace hoD8 := hoD8.ext hx192
  replace hoD9 := hoD9.ext hx192
  replace hoD10 := hoD10.ext hx192
  replace hoD11 := hoD11.ext hx192
  refine sl_gcall rfl rfl (by decide) ent30 rfl rfl (eqS_k _ _ _ w27 (Go.XK.Own.slr hoD11 (fun _ => rfl)) hb192) (by decide) ?_
  rintro _ w28 ⟨rfl, hw28⟩
  have xw_w28 : Ext w w28 := Ext.tr xw_w27 hw28
  have xw5_w28 : Ext w5 w28 := Ext.tr xw5_w27 hw28
  replace hb21 := hb21.ext hw28
  replace hb39 := hb39.ext hw28
  replace hb120 := hb120.ext hw28
  replace hb13 := hb13.ext hw28
  replace hb15 := hb15.ext hw28
  replace hb155 := hb155.ext hw28
  replace hb190 := hb190.ext hw28
  replace hb192 := hb192.ext hw28
  replace hoD4 := hoD4.ext hw28
  replace hoD5 := hoD5.ext hw28
  replace hoG := hoG.ext hw28
  replace hoD6 := hoD6.ext hw28
  replace hoD7 := hoD7.ext hw28
  replace hoD8 := hoD8.ext hw28
  replace hoD9 := hoD9.ext hw28
  replace hoD10 := hoD10.ext hw28
  replace hoD11 := hoD11.ext hw28
  refine Go.XK.s (v := .bool true) (e_pickT rfl (by decide) rfl) ?_
  refine Go.XK.s (v := .bool true) (e_assign rfl) ?_
  refine sl_nil (nrm_k ?_)
  refine sc_retf rfl (ret1 Try.results9 (rvt rfl) ?_)
  exact ⟨rfl, xw_w28⟩

end Go.Proofs.Ytnbclhbpjlpcoaa
