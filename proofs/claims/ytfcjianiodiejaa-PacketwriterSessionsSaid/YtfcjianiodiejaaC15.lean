/- Chapter 52: C15. Printed by my program wip/tools/wk.py. -/
import Derived.Test.YtfcjianiodiejaaC14
set_option linter.unusedVariables false
set_option linter.unusedSimpArgs false
set_option maxRecDepth 4000
set_option maxHeartbeats 4000000
namespace Go.Proofs.Ytfcjianiodiejaa
open Go.XK Go.RowKit
theorem execute_d (im : Img) (A : Option Addr) (c : Nat) (ss : List Ses) (As : Option Addr) (cs : Nat) (st ct : Int) (ws : List Wr) (Aw : Option Addr) (cw : Nat) (z : Int) (w : World) (hl : SlR w A c 1 encS im) (hs : SlR w As cs 3 encX ss) (hw : SlR w Aw cw 4 encW ws) (hin : Inn w ws) (hsl : ss.length ≤ 20) {o1 : Img} {o2 : List Ses} {e : Int} (hx : exR im ss st ct ws z = (o1, o2, e)) :
    CallR Try.prog 31 [.agg #[.slice A im.length c, .slice As ss.length cs], .agg #[.int .i64 st, .int .i64 ct], .slice Aw ws.length cw, .int .i64 z] w (fun v w' => ∃ v1 v2, v = .tuple #[.agg #[v1, v2], .int .i64 e] ∧ Go.XK.Own w' w.heap.size 9 1 encS v1 o1 ∧ Go.XK.Own w' w.heap.size 65 3 encX v2 o2 ∧ Ext w w') := by
  have h := execute_c im A c ss As cs st ct ws Aw cw z w hl hs hw hin hsl
  rw [hx] at h; exact h
theorem rexecute_d (im : Img) (A : Option Addr) (c : Nat) (ss : List Ses) (As : Option Addr) (cs : Nat) (st ct : Int) (ws : List Wr) (Aw : Option Addr) (cw : Nat) (z : Int) (w : World) (hl : SlR w A c 1 encS im) (hs : SlR w As cs 3 encX ss) (hw : SlR w Aw cw 4 encW ws) (hin : Inn w ws) (hsl : ss.length ≤ 20) {o1 : Img} {o2 : List Ses} {e : Int} (hx : exR im ss st ct ws z = (o1, o2, e)) :
    CallR Try.prog 32 [.agg #[.slice A im.length c, .slice As ss.length cs], .agg #[.int .i64 st, .int .i64 ct], .slice Aw ws.length cw, .int .i64 z] w (fun v w' => ∃ v1 v2, v = .tuple #[.agg #[v1, v2], .int .i64 e] ∧ Go.XK.Own w' w.heap.size 9 1 encS v1 o1 ∧ Go.XK.Own w' w.heap.size 65 3 encX v2 o2 ∧ Ext w w') := by
  have h := rexecute_c im A c ss As cs st ct ws Aw cw z w hl hs hw hin hsl
  rw [hx] at h; exact h
theorem fin_ses {im : Img} {ss : List Ses} {st ct : Int} {ws : List Wr} {z : Int} {o1 : Img} {o2 : List Ses} {e : Int} (hx : exR im ss st ct ws z = (o1, o2, e)) : (decide (e ≠ 0) || ws.any (·.cl) || decide (o2 = ss)) = true := by
  by_cases he : e = 0
  · cases hc : ws.any (·.cl)
    · have h := exR_same (im := im) (ss := ss) (st := st) (ct := ct) (ws := ws) (z := z) (by rw [hx]; exact he) hc
      rw [hx] at h
      have h : o2 = ss := h
      simp [h]
    · simp
  · simp [he]

/-- masterdisc/masterdisclaw52.PacketwriterSessions (function 8) -/
theorem sessions_c (im : Img) (A : Option Addr) (c : Nat) (ss : List Ses) (As : Option Addr) (cs : Nat) (st ct : Int) (ws : List Wr) (Aw : Option Addr) (cw : Nat) (z : Int) (w : World) (hl : SlR w A c 1 encS im) (hs : SlR w As cs 3 encX ss) (hw : SlR w Aw cw 4 encW ws) (hin : Inn w ws) : CallR Try.prog 8 [.agg #[.slice A im.length c, .slice As ss.length cs], .agg #[.int .i64 st, .int .i64 ct], .slice Aw ws.length cw, .int .i64 z] w (fun v w' => v = .bool true ∧ Ext w w') := by
  have hmx0 := hl.lenle
  simp only [maxLen] at hmx0
  have hmx1 := hw.lenle
  simp only [maxLen] at hmx1
  have hmx2 := hs.lenle
  simp only [maxLen] at hmx2
  refine callR_of (n := 66) [(0, .agg #[.slice A im.length c, .slice As ss.length cs]), (1, .agg #[.int .i64 st, .int .i64 ct]), (2, .slice Aw ws.length cw), (3, .int .i64 z)] Try.func8 rfl rfl (Nat.le_of_ble_eq_true rfl) rfl ?_
  refine sc_seq ?_
  refine sc_reg ?_
  refine s_box (cs := [.slice A im.length c, .slice As ss.length cs]) rfl rfl ?_
  intro b4 w1 hb4 he4 hs4 hx4
  have ge_b4 : w.heap.size ≤ b4 := by have h_ := (Below.size (Ext.rfl' w)); omega
  have xw_w1 : Ext w w1 := Ext.tr (Ext.rfl' w) hx4
  refine s_box (cs := [.int .i64 st, .int .i64 ct]) rfl rfl ?_
  intro b5 w2 hb5 he5 hs5 hx5
  have ne_b5_b4 : b5 ≠ b4 := by have h_ := hb4.lt; omega
  have ge_b5 : w.heap.size ≤ b5 := by have h_ := (Below.size xw_w1); omega
  have xw_w2 : Ext w w2 := Ext.tr xw_w1 hx5
  replace hb4 := hb4.ext hx5
  refine Go.XK.s (v := .bool false) (e_assign rfl) ?_
  refine sl_nil (nrm_k ?_)
  refine sc_seq ?_
  refine sc_seq ?_
  refine sc_reg ?_
  refine sl_call ent11 rfl rfl (awake_c w2) (by decide) ?_
  rintro _ w3 ⟨rfl, hw3⟩
  have xw_w3 : Ext w w3 := Ext.tr xw_w2 hw3
  replace hb4 := hb4.ext hw3
  replace hb5 := hb5.ext hw3
  refine Go.XK.s (v := .bool false) (e_not (b := true) rfl) ?_
  refine sl_nil (nrm_k ?_)
  refine sc_no rfl rfl ?_
  refine sc_skip (nrm_k ?_)
  refine sc_seq ?_
  refine sc_seq ?_
  refine sc_reg ?_
  refine Go.XK.s (v := .pointer (some ⟨b4, 0, none⟩)) (e_fieldB (sz := 1) Try.underlying55 rfl Try.sizeOf23 (by decide) rfl rfl) ?_
  refine Go.XK.s (v := .slice A im.length c) (e_load rfl (load1 Try.isAgg23 (hb4.cell (j := 0) rfl))) ?_
  refine Go.XK.s (v := .slice Aw ws.length cw) (e_move rfl) ?_
  refine sl_call ent12 rfl rfl (few_c _ _ _ _ _ _ w3 (hl.ext xw_w3) (hw.ext xw_w3) (hin.ext xw_w3)) (by decide) ?_
  rintro _ w4 ⟨rfl, hw4⟩
  have xw_w4 : Ext w w4 := Ext.tr xw_w3 hw4
  replace hb4 := hb4.ext hw4
  replace hb5 := hb5.ext hw4
  refine Go.XK.s (v := .bool (!(few im ws))) (e_not rfl) ?_
  refine Go.XK.s (v := .bool (!(few im ws))) (e_move rfl) ?_
  refine sl_merge 5 26 (.bool ((!(few im ws)) || (decide ((20 : Int) < (ss.length : Int))))) ?_ ?_
  · refine sl_case (t := 21) rfl (fun g3_5 => ?_) (fun g3_5 => ?_)
    ·
      refine sl_gskip rfl rfl g3_5 (by decide) ?_
      refine sl_gskip rfl rfl g3_5 (by decide) ?_
      refine sl_gskip rfl rfl g3_5 (by decide) ?_
      refine sl_gskip rfl rfl g3_5 (by decide) ?_
      refine Go.XK.s (v := .bool true) (e_pickT rfl g3_5 rfl) ?_
      exact sl_nil (fun a ha => ⟨rfl, ha.sub (.cons (by rw [g3_5]; rfl) (sub_self_cons (sub_self_cons (sub_self_cons (sub_self_cons (sub_self_cons (Sub.refl _) rfl) rfl) rfl) rfl) rfl))⟩)
    ·
      refine sl_gev (v := .pointer (some ⟨b4, 1, none⟩)) rfl rfl g3_5 (e_fieldB (sz := 1) Try.underlying55 rfl Try.sizeOf53 (by decide) rfl rfl) rfl (by decide) ?_
      refine sl_gev (v := .slice As ss.length cs) rfl rfl g3_5 (e_load rfl (load1 Try.isAgg53 (hb4.cell (j := 1) rfl))) rfl (by decide) ?_
      refine sl_gev (v := .int .i64 (ss.length : Int)) rfl rfl g3_5 (e_len Try.underlying53 rfl) rfl (by decide) ?_
      refine sl_gev (v := .bool (decide ((20 : Int) < (ss.length : Int)))) rfl rfl g3_5 (e_gt rfl rfl) rfl (by decide) ?_
      refine Go.XK.s (v := .bool (decide ((20 : Int) < (ss.length : Int)))) (e_pickF rfl g3_5 rfl) ?_
      exact sl_nil (fun a ha => ⟨rfl, ha.sub (.cons (by rw [g3_5]; rfl) (sub_self_cons (sub_self_cons (sub_self_cons (sub_self_cons (sub_self_cons (Sub.refl _) rfl) rfl) rfl) rfl) rfl))⟩)
  refine sl_nil (nrm_k ?_)
  refine sc_if rfl (fun c26 => ?_) (fun c26 => ?_)
  ·
    refine sc_seq ?_
    refine sc_reg ?_
    refine Go.XK.s (v := .bool true) (e_assign rfl) ?_
    refine sl_nil (nrm_k ?_)
    refine sc_retf rfl (ret1 Try.results8 (rvt rfl) ?_)
    first | exact ⟨rfl, xw_w4⟩ | exact ⟨congrArg Value.bool (fin_ses hex), xw_w4⟩
  ·
    have hfo : few im ws = true ∧ ss.length ≤ 20 := by simp at c26; exact ⟨c26.1, by omega⟩
    obtain ⟨hfew, hsl⟩ := hfo
    obtain ⟨hfw1, hfw2, hfw3⟩ := few_spec hfew
    obtain ⟨o1, o2, e, hex⟩ : ∃ o1 o2 e, exR im ss st ct ws z = (o1, o2, e) := ⟨_, _, _, rfl⟩
    refine sc_skip (nrm_k ?_)
    refine sc_seq ?_
    refine sc_reg ?_
    refine Go.XK.s (v := .agg #[.slice A im.length c, .slice As ss.length cs]) (e_load rfl (hb4.loadA Try.isAgg55 Try.sizeOf55 rfl)) ?_
    refine Go.XK.s (v := .agg #[.int .i64 st, .int .i64 ct]) (e_load rfl (hb5.loadA Try.isAgg57 Try.sizeOf57 rfl)) ?_
    refine Go.XK.s (v := .slice Aw ws.length cw) (e_move rfl) ?_
    refine Go.XK.s (v := .int .i64 z) (e_move rfl) ?_
    refine sl_call ent31 rfl rfl (execute_d _ _ _ _ _ _ _ _ _ _ _ _ w4 (hl.ext xw_w4) (hs.ext xw_w4) (hw.ext xw_w4) (hin.ext xw_w4) (by omega) hex) (by decide) ?_
    rintro _ w5 ⟨vEpa, vEpb, rfl, hoEpa, hoEpb, hw5⟩
    replace hoEpa := Own.low hoEpa (Below.size xw_w4)
    replace hoEpb := Own.low hoEpb (Below.size xw_w4)
    have xw_w5 : Ext w w5 := Ext.tr xw_w4 hw5
    replace hb4 := hb4.ext hw5
    replace hb5 := hb5.ext hw5
    obtain ⟨AEpa, cEpa, eEpa_, hlcEpa, hcmEpa, _⟩ := Go.XK.Own.shape hoEpa (fun _ => rfl)
    subst eEpa_
    obtain ⟨AEpb, cEpb, eEpb_, hlcEpb, hcmEpb, _⟩ := Go.XK.Own.shape hoEpb (fun _ => rfl)
    subst eEpb_
    refine Go.XK.s (v := .tuple #[.agg #[.slice AEpa o1.length cEpa, .slice AEpb o2.length cEpb], .int .i64 e]) (e_move rfl) ?_
    refine Go.XK.s (v := .agg #[.slice AEpa o1.length cEpa, .slice AEpb o2.length cEpb]) (e_extract (vs := [.agg #[.slice AEpa o1.length cEpa, .slice AEpb o2.length cEpb], .int .i64 e]) rfl rfl) ?_
    refine Go.XK.s (v := .int .i64 e) (e_extract (vs := [.agg #[.slice AEpa o1.length cEpa, .slice AEpb o2.length cEpb], .int .i64 e]) rfl rfl) ?_
    refine s_alloc (cs := [.slice none 0 0, .slice none 0 0]) Try.zeroValue55 rfl ?_
    intro b9 w6 hb9 he9 hs9 hx9
    have ne_b9_b4 : b9 ≠ b4 := by have h_ := hb4.lt; omega
    have ne_b9_b5 : b9 ≠ b5 := by have h_ := hb5.lt; omega
    have no_b9_hoEpa : Value.ownBlock (.slice AEpa o1.length cEpa) ≠ some b9 := fun h_ => by have h2_ := (Go.XK.Own.lt hoEpa _ h_).2; omega
    have no_b9_hoEpb : Value.ownBlock (.slice AEpb o2.length cEpb) ≠ some b9 := fun h_ => by have h2_ := (Go.XK.Own.lt hoEpb _ h_).2; omega
    have ge_b9 : w.heap.size ≤ b9 := by have h_ := (Below.size xw_w5); omega
    have xw_w6 : Ext w w6 := Ext.tr xw_w5 hx9
    replace hb4 := hb4.ext hx9
    replace hb5 := hb5.ext hx9
    replace hoEpa := hoEpa.ext hx9
    replace hoEpb := hoEpb.ext hx9
    refine su_blkV [.slice AEpa o1.length cEpa, .slice AEpb o2.length cEpb] [.slice AEpa o1.length cEpa, .slice AEpb o2.length cEpb] rfl rfl hb9 rfl Try.sizeOf55 (Nat.le_of_ble_eq_true rfl) (all_c1 (own_cells hoEpa).2 (all_c1 (own_cells hoEpb).2 rfl)) rfl ?_
    intro w7 hn_ hm_w7 hs_w7
    have ho_ := hb9
    replace hb9 := hn_
    clear hn_
    replace hb4 := hb4.mut hm_w7 (Ne.symm ne_b9_b4)
    replace hb5 := hb5.mut hm_w7 (Ne.symm ne_b9_b5)
    replace hoEpa := hoEpa.mut hm_w7 no_b9_hoEpa
    replace hoEpb := hoEpb.mut hm_w7 no_b9_hoEpb
    have xw_w7 : Ext w w7 := below_mut xw_w6 (Below.size xw_w6) hm_w7 ge_b9
    refine Go.XK.s (v := .int .i64 e) (e_assign rfl) ?_
    refine sl_nil (nrm_k ?_)
    refine sc_seq ?_
    refine sc_reg ?_
    refine Go.XK.s (v := .agg #[.slice A im.length c, .slice As ss.length cs]) (e_load rfl (hb4.loadA Try.isAgg55 Try.sizeOf55 rfl)) ?_
    refine Go.XK.s (v := .agg #[.int .i64 st, .int .i64 ct]) (e_load rfl (hb5.loadA Try.isAgg57 Try.sizeOf57 rfl)) ?_
    refine Go.XK.s (v := .slice Aw ws.length cw) (e_move rfl) ?_
    refine Go.XK.s (v := .int .i64 z) (e_move rfl) ?_
    refine sl_call ent32 rfl rfl (rexecute_d _ _ _ _ _ _ _ _ _ _ _ _ w7 (hl.ext xw_w7) (hs.ext xw_w7) (hw.ext xw_w7) (hin.ext xw_w7) (by omega) hex) (by decide) ?_
    rintro _ w8 ⟨vEqa, vEqb, rfl, hoEqa, hoEqb, hw8⟩
    replace hoEqa := Own.low hoEqa (Below.size xw_w7)
    replace hoEqb := Own.low hoEqb (Below.size xw_w7)
    have xw_w8 : Ext w w8 := Ext.tr xw_w7 hw8
    replace hb4 := hb4.ext hw8
    replace hb5 := hb5.ext hw8
    replace hb9 := hb9.ext hw8
    replace hoEpa := hoEpa.ext hw8
    replace hoEpb := hoEpb.ext hw8
    obtain ⟨AEqa, cEqa, eEqa_, hlcEqa, hcmEqa, _⟩ := Go.XK.Own.shape hoEqa (fun _ => rfl)
    subst eEqa_
    obtain ⟨AEqb, cEqb, eEqb_, hlcEqb, hcmEqb, _⟩ := Go.XK.Own.shape hoEqb (fun _ => rfl)
    subst eEqb_
    refine Go.XK.s (v := .tuple #[.agg #[.slice AEqa o1.length cEqa, .slice AEqb o2.length cEqb], .int .i64 e]) (e_move rfl) ?_
    refine Go.XK.s (v := .agg #[.slice AEqa o1.length cEqa, .slice AEqb o2.length cEqb]) (e_extract (vs := [.agg #[.slice AEqa o1.length cEqa, .slice AEqb o2.length cEqb], .int .i64 e]) rfl rfl) ?_
    refine Go.XK.s (v := .int .i64 e) (e_extract (vs := [.agg #[.slice AEqa o1.length cEqa, .slice AEqb o2.length cEqb], .int .i64 e]) rfl rfl) ?_
    refine s_alloc (cs := [.slice none 0 0, .slice none 0 0]) Try.zeroValue55 rfl ?_
    intro b11 w9 hb11 he11 hs11 hx11
    have ne_b11_b4 : b11 ≠ b4 := by have h_ := hb4.lt; omega
    have ne_b11_b5 : b11 ≠ b5 := by have h_ := hb5.lt; omega
    have ne_b11_b9 : b11 ≠ b9 := by have h_ := hb9.lt; omega
    have no_b11_hoEpa : Value.ownBlock (.slice AEpa o1.length cEpa) ≠ some b11 := fun h_ => by have h2_ := (Go.XK.Own.lt hoEpa _ h_).2; omega
    have no_b11_hoEpb : Value.ownBlock (.slice AEpb o2.length cEpb) ≠ some b11 := fun h_ => by have h2_ := (Go.XK.Own.lt hoEpb _ h_).2; omega
    have no_b11_hoEqa : Value.ownBlock (.slice AEqa o1.length cEqa) ≠ some b11 := fun h_ => by have h2_ := (Go.XK.Own.lt hoEqa _ h_).2; omega
    have no_b11_hoEqb : Value.ownBlock (.slice AEqb o2.length cEqb) ≠ some b11 := fun h_ => by have h2_ := (Go.XK.Own.lt hoEqb _ h_).2; omega
    have ge_b11 : w.heap.size ≤ b11 := by have h_ := (Below.size xw_w8); omega
    have xw_w9 : Ext w w9 := Ext.tr xw_w8 hx11
    replace hb4 := hb4.ext hx11
    replace hb5 := hb5.ext hx11
    replace hb9 := hb9.ext hx11
    replace hoEpa := hoEpa.ext hx11
    replace hoEpb := hoEpb.ext hx11
    replace hoEqa := hoEqa.ext hx11
    replace hoEqb := hoEqb.ext hx11
    refine su_blkV [.slice AEqa o1.length cEqa, .slice AEqb o2.length cEqb] [.slice AEqa o1.length cEqa, .slice AEqb o2.length cEqb] rfl rfl hb11 rfl Try.sizeOf55 (Nat.le_of_ble_eq_true rfl) (all_c1 (own_cells hoEqa).2 (all_c1 (own_cells hoEqb).2 rfl)) rfl ?_
    intro w10 hn_ hm_w10 hs_w10
    have ho_ := hb11
    replace hb11 := hn_
    clear hn_
    replace hb4 := hb4.mut hm_w10 (Ne.symm ne_b11_b4)
    replace hb5 := hb5.mut hm_w10 (Ne.symm ne_b11_b5)
    replace hb9 := hb9.mut hm_w10 (Ne.symm ne_b11_b9)
    replace hoEpa := hoEpa.mut hm_w10 no_b11_hoEpa
    replace hoEpb := hoEpb.mut hm_w10 no_b11_hoEpb
    replace hoEqa := hoEqa.mut hm_w10 no_b11_hoEqa
    replace hoEqb := hoEqb.mut hm_w10 no_b11_hoEqb
    have xw_w10 : Ext w w10 := below_mut xw_w9 (Below.size xw_w9) hm_w10 ge_b11
    refine Go.XK.s (v := .int .i64 e) (e_assign rfl) ?_
    refine sl_nil (nrm_k ?_)
    refine sc_seq ?_
    refine sc_seq ?_
    refine sc_reg ?_
    refine Go.XK.s (v := .int .i64 e) (e_move rfl) ?_
    refine Go.XK.s (v := .int .i64 e) (e_move rfl) ?_
    refine Go.XK.s (v := .bool (decide (e ≠ e))) (e_ne rfl rfl) ?_
    refine Go.XK.s (v := .bool (decide (e ≠ e))) (e_move rfl) ?_
    refine sl_mergeW 5 51 (.bool ((decide (e ≠ e)) || (!(decide (o1 = o1) && decide (o2 = o2))))) (fun w_ => Ext w10 w_) ?_ (fun w11 hw11 => ?_)
    · refine sl_case (t := 46) rfl (fun g7_3 => ?_) (fun g7_3 => ?_)
      ·
        refine sl_gskip rfl rfl g7_3 (by decide) ?_
        refine sl_gskip rfl rfl g7_3 (by decide) ?_
        refine sl_gskip rfl rfl g7_3 (by decide) ?_
        refine sl_gskip rfl rfl g7_3 (by decide) ?_
        refine Go.XK.s (v := .bool true) (e_pickT rfl g7_3 rfl) ?_
        exact sl_nil (fun a ha => ⟨(Ext.rfl' w10), ha.sub (.cons (by rw [g7_3]; rfl) (sub_self_cons (sub_self_cons (sub_self_cons (sub_self_cons (sub_self_cons (Sub.refl _) rfl) rfl) rfl) rfl) rfl))⟩)
      ·
        refine sl_gev (v := .agg #[.slice AEpa o1.length cEpa, .slice AEpb o2.length cEpb]) rfl rfl g7_3 (e_load rfl (hb9.loadA Try.isAgg55 Try.sizeOf55 rfl)) rfl (by decide) ?_
        refine sl_gev (v := .agg #[.slice AEqa o1.length cEqa, .slice AEqb o2.length cEqb]) rfl rfl g7_3 (e_load rfl (hb11.loadA Try.isAgg55 Try.sizeOf55 rfl)) rfl (by decide) ?_
        refine sl_gcall rfl rfl g7_3 ent33 rfl rfl (samedisc_c _ _ _ _ _ _ _ _ _ _ _ _ w10 (Go.XK.Own.slr hoEpa (fun _ => rfl)) (Go.XK.Own.slr hoEpb (fun _ => rfl)) (Go.XK.Own.slr hoEqa (fun _ => rfl)) (Go.XK.Own.slr hoEqb (fun _ => rfl))) (by decide) ?_
        rintro _ w12 ⟨rfl, hw12⟩
        have xw_w12 : Ext w w12 := Ext.tr xw_w10 hw12
        have xw10_w12 : Ext w10 w12 := Ext.tr (Ext.rfl' w10) hw12
        replace hb4 := hb4.ext hw12
        replace hb5 := hb5.ext hw12
        replace hb9 := hb9.ext hw12
        replace hb11 := hb11.ext hw12
        replace hoEpa := hoEpa.ext hw12
        replace hoEpb := hoEpb.ext hw12
        replace hoEqa := hoEqa.ext hw12
        replace hoEqb := hoEqb.ext hw12
        refine sl_gev (v := .bool (!(decide (o1 = o1) && decide (o2 = o2)))) rfl rfl g7_3 (e_not rfl) rfl (by decide) ?_
        refine Go.XK.s (v := .bool (!(decide (o1 = o1) && decide (o2 = o2)))) (e_pickF rfl g7_3 rfl) ?_
        exact sl_nil (fun a ha => ⟨xw10_w12, ha.sub (.cons (by rw [g7_3]; rfl) (sub_self_cons (sub_self_cons (sub_self_cons (sub_self_cons (sub_self_cons (Sub.refl _) rfl) rfl) rfl) rfl) rfl))⟩)
    have xw_w11 : Ext w w11 := Ext.tr xw_w10 hw11
    replace hb4 := hb4.ext hw11
    replace hb5 := hb5.ext hw11
    replace hb9 := hb9.ext hw11
    replace hb11 := hb11.ext hw11
    replace hoEpa := hoEpa.ext hw11
    replace hoEpb := hoEpb.ext hw11
    replace hoEqa := hoEqa.ext hw11
    replace hoEqb := hoEqb.ext hw11
    refine sl_nil (nrm_k ?_)
    refine sc_no rfl (by simp) ?_
    refine sc_skip (nrm_k ?_)
    refine sc_seq ?_
    refine sc_reg ?_
    refine Go.XK.s (v := .slice Aw ws.length cw) (e_move rfl) ?_
    refine sl_call ent34 rfl rfl (containsW_c _ _ _ w11 (hw.ext xw_w11) (hin.ext xw_w11)) (by decide) ?_
    rintro _ w13 ⟨rfl, hw13⟩
    have xw_w13 : Ext w w13 := Ext.tr xw_w11 hw13
    replace hb4 := hb4.ext hw13
    replace hb5 := hb5.ext hw13
    replace hb9 := hb9.ext hw13
    replace hb11 := hb11.ext hw13
    replace hoEpa := hoEpa.ext hw13
    replace hoEpb := hoEpb.ext hw13
    replace hoEqa := hoEqa.ext hw13
    replace hoEqb := hoEqb.ext hw13
    refine Go.XK.s (v := .bool (ws.any (·.cl))) (e_assign rfl) ?_
    refine sl_nil (nrm_k ?_)
    refine sc_seq ?_
    refine sc_reg ?_
    refine Go.XK.s (v := .int .i64 e) (e_move rfl) ?_
    refine Go.XK.s (v := .bool (decide (e ≠ 0))) (e_ne rfl rfl) ?_
    refine Go.XK.s (v := .bool (decide (e ≠ 0))) (e_move rfl) ?_
    refine sl_merge 2 58 (.bool ((decide (e ≠ 0)) || (ws.any (·.cl)))) ?_ ?_
    · refine sl_case (t := 56) rfl (fun g10_2 => ?_) (fun g10_2 => ?_)
      ·
        refine sl_gskip rfl rfl g10_2 (by decide) ?_
        refine Go.XK.s (v := .bool true) (e_pickT rfl g10_2 rfl) ?_
        exact sl_nil (fun a ha => ⟨rfl, ha.sub (.cons (by rw [g10_2]; rfl) (sub_self_cons (sub_self_cons (Sub.refl _) rfl) rfl))⟩)
      ·
        refine sl_gev (v := .bool (ws.any (·.cl))) rfl rfl g10_2 (e_move rfl) rfl (by decide) ?_
        refine Go.XK.s (v := .bool (ws.any (·.cl))) (e_pickF rfl g10_2 rfl) ?_
        exact sl_nil (fun a ha => ⟨rfl, ha.sub (.cons (by rw [g10_2]; rfl) (sub_self_cons (sub_self_cons (Sub.refl _) rfl) rfl))⟩)
    refine Go.XK.s (v := .bool ((decide (e ≠ 0)) || (ws.any (·.cl)))) (e_move rfl) ?_
    refine sl_mergeW 6 65 (.bool (((decide (e ≠ 0)) || (ws.any (·.cl))) || (decide (o2 = ss)))) (fun w_ => Ext w13 w_) ?_ (fun w14 hw14 => ?_)
    · refine sl_case (t := 59) rfl (fun g10_5 => ?_) (fun g10_5 => ?_)
      ·
        refine sl_gskip rfl rfl g10_5 (by decide) ?_
        refine sl_gskip rfl rfl g10_5 (by decide) ?_
        refine sl_gskip rfl rfl g10_5 (by decide) ?_
        refine sl_gskip rfl rfl g10_5 (by decide) ?_
        refine sl_gskip rfl rfl g10_5 (by decide) ?_
        refine Go.XK.s (v := .bool true) (e_pickT rfl g10_5 rfl) ?_
        exact sl_nil (fun a ha => ⟨(Ext.rfl' w13), ha.sub (.cons (by rw [g10_5]; rfl) (sub_self_cons (sub_self_cons (sub_self_cons (sub_self_cons (sub_self_cons (sub_self_cons (Sub.refl _) rfl) rfl) rfl) rfl) rfl) rfl))⟩)
      ·
        refine sl_gev (v := .pointer (some ⟨b9, 1, none⟩)) rfl rfl g10_5 (e_fieldB (sz := 1) Try.underlying55 rfl Try.sizeOf53 (by decide) rfl rfl) rfl (by decide) ?_
        refine sl_gev (v := .slice AEpb o2.length cEpb) rfl rfl g10_5 (e_load rfl (load1 Try.isAgg53 (hb9.cell (j := 1) rfl))) rfl (by decide) ?_
        refine sl_gev (v := .pointer (some ⟨b4, 1, none⟩)) rfl rfl g10_5 (e_fieldB (sz := 1) Try.underlying55 rfl Try.sizeOf53 (by decide) rfl rfl) rfl (by decide) ?_
        refine sl_gev (v := .slice As ss.length cs) rfl rfl g10_5 (e_load rfl (load1 Try.isAgg53 (hb4.cell (j := 1) rfl))) rfl (by decide) ?_
        refine sl_gcall rfl rfl g10_5 ent36 rfl rfl (equalX_c _ _ _ _ _ _ w13 (Go.XK.Own.slr hoEpb (fun _ => rfl)) (hs.ext xw_w13)) (by decide) ?_
        rintro _ w15 ⟨rfl, hw15⟩
        have xw_w15 : Ext w w15 := Ext.tr xw_w13 hw15
        have xw13_w15 : Ext w13 w15 := Ext.tr (Ext.rfl' w13) hw15
        replace hb4 := hb4.ext hw15
        replace hb5 := hb5.ext hw15
        replace hb9 := hb9.ext hw15
        replace hb11 := hb11.ext hw15
        replace hoEpa := hoEpa.ext hw15
        replace hoEpb := hoEpb.ext hw15
        replace hoEqa := hoEqa.ext hw15
        replace hoEqb := hoEqb.ext hw15
        refine Go.XK.s (v := .bool (decide (o2 = ss))) (e_pickF rfl g10_5 rfl) ?_
        exact sl_nil (fun a ha => ⟨xw13_w15, ha.sub (.cons (by rw [g10_5]; rfl) (sub_self_cons (sub_self_cons (sub_self_cons (sub_self_cons (sub_self_cons (sub_self_cons (Sub.refl _) rfl) rfl) rfl) rfl) rfl) rfl))⟩)
    have xw_w14 : Ext w w14 := Ext.tr xw_w13 hw14
    replace hb4 := hb4.ext hw14
    replace hb5 := hb5.ext hw14
    replace hb9 := hb9.ext hw14
    replace hb11 := hb11.ext hw14
    replace hoEpa := hoEpa.ext hw14
    replace hoEpb := hoEpb.ext hw14
    replace hoEqa := hoEqa.ext hw14
    replace hoEqb := hoEqb.ext hw14
    refine Go.XK.s (v := .bool (((decide (e ≠ 0)) || (ws.any (·.cl))) || (decide (o2 = ss)))) (e_assign rfl) ?_
    refine sl_nil (nrm_k ?_)
    refine sc_retf rfl (ret1 Try.results8 (rvt rfl) ?_)
    first | exact ⟨rfl, xw_w14⟩ | exact ⟨congrArg Value.bool (fin_ses hex), xw_w14⟩

end Go.Proofs.Ytfcjianiodiejaa
