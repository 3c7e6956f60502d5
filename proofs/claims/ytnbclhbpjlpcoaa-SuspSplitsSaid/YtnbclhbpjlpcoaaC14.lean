/- Chapter 24: C14. Printed by my program wip/tools/wk.py. -/
import Derived.Test.YtnbclhbpjlpcoaaC13
import Derived.Test.YtnbclhbpjlpcoaaMath7
set_option linter.unusedVariables false
set_option linter.unusedSimpArgs false
set_option maxRecDepth 4000
set_option maxHeartbeats 1000000
namespace Go.Proofs.Ytnbclhbpjlpcoaa
open Go.XK Go.RowKit
def outsJ (gs : List Gp) (ps : List Pl) : List (List UInt8) := (List.range gs.length).map (outJ (gs.map (fun g_ => g_.l)) ps)
theorem outs_len (gs : List Gp) (ps : List Pl) : (outsJ gs ps).length = gs.length := by simp [outsJ]
theorem outs_get {gs : List Gp} {ps : List Pl} {j : Nat} (h : j < gs.length) : (outsJ gs ps)[j]? = some (outJ (gs.map (fun g_ => g_.l)) ps j) := by
  rw [outsJ, List.getElem?_map, List.getElem?_range h]; rfl
theorem grpR_err {l : List En} {room : Int} (h : (grpR l room).2 ≠ 0) : (grpR l room).1 = [] := by
  by_cases hc : chkR l = 0
  · cases h1 : l.any linkB with
    | true => rw [grpR_2 hc h1]
    | false =>
      cases h2 : (decide (room < 0) || decide ((254 : Int) < room)) with
      | true => rw [grpR_3 hc h1 h2]
      | false =>
        cases h3 : (decide (room < (szL l : Int)) && decide (room < 28)) with
        | true => rw [grpR_4 hc h1 h2 h3]
        | false =>
          rw [grpR_5 hc h1 h2 h3] at h ⊢
          by_cases h4 : (64 : Int) < ((grp l room).length : Int)
          · rw [if_pos h4]
          · rw [if_neg h4] at h; exact absurd rfl h
  · rw [grpR_1 hc]
theorem Fit.lens {l : List En} {room : Int} {G : List (List En)} (h : Fit l room G) {j : Nat} {n : Int} (hn : (lenL G)[j]? = some n) : n ≤ (if j = 0 then room else 2048) ∧ (0 < j → 1 ≤ n) := by
  have hj := (List.getElem?_eq_some_iff.1 hn).1
  rw [lenL_length] at hj
  obtain ⟨g, hg⟩ : ∃ g, G[j]? = some g := ⟨_, List.getElem?_eq_getElem hj⟩
  rw [lenL_get hg] at hn
  have hn := Option.some.inj hn
  have h1 := h.fits j g hg
  refine ⟨by rw [← hn]; exact h1, fun h0 => ?_⟩
  have h2 := h.pos j g hg h0
  split at hn <;> omega
theorem fit_g2 {l : List En} {room : Int} {G : List (List En)} (h : Fit l room G) (h0 : chkR l = 0) (j : Nat) : ∀ x ∈ G.getD j [], x.g.length = 2 := fun x hx => by
  have hm : x ∈ l := by
    rw [← h.flat]
    rw [List.getD_eq_getElem?_getD] at hx
    cases hg : G[j]? with
    | none => rw [hg] at hx; cases hx
    | some g => rw [hg] at hx; exact List.mem_flatten.2 ⟨g, List.mem_of_getElem? hg, hx⟩
  exact sig_len (badE_spec ((chkR_zero h0).2 x hm)).1
theorem out_len {l : List En} {room : Int} {G : List (List En)} (h : Fit l room G) (h0 : chkR l = 0) (ps : List Pl) {j : Nat} {n : Int} (hn : (lenL G)[j]? = some n) : ((outJ G ps j).length : Int) = n := by
  have hj := (List.getElem?_eq_some_iff.1 hn).1
  rw [lenL_length] at hj
  obtain ⟨g, hg⟩ : ∃ g, G[j]? = some g := ⟨_, List.getElem?_eq_getElem hj⟩
  rw [lenL_get hg] at hn
  have hn := Option.some.inj hn
  have hsg : ∀ x ∈ arE G ps j, x.g.length = 2 := fun x hx => by
    rw [arE] at hx
    rcases List.mem_append.1 hx with hx | hx
    · exact fit_g2 h h0 j x hx
    · split at hx
      · simp at hx; subst hx; rfl
      · cases hx
  rw [outJ, encL_length hsg, ← hn, arE, szL_app, getD_of hg]
  split
  · simp [szL, szE, ceJ, conE, bothB_length]
  · simp [szL]
def PlcI (G : List (List En)) (ps : List Pl) : Prop := ∀ (j : Nat) (p : Pl) (n : Int), ps[j]? = some p → (lenL G)[j + 1]? = some n → p.b = 3 + (j : Int) ∧ 0 ≤ p.o ∧ 1 ≤ n ∧ p.o + n ≤ 2048
theorem PlcI.nil (G : List (List En)) : PlcI G [] := fun j p n h => by simp at h
theorem PlcI.snoc {G : List (List En)} {ps : List Pl} {p : Pl} {i : Nat} {n : Int} (h : PlcI G ps) (hi : ps.length = i) (hn : (lenL G)[i + 1]? = some n) (hb : p.b = 3 + (i : Int)) (ho : 0 ≤ p.o) (hn1 : 1 ≤ n) (hs : p.o + n ≤ 2048) : PlcI G (ps ++ [p]) := fun j q m hq hm => by
  rcases Nat.lt_or_ge j ps.length with hj | hj
  · rw [List.getElem?_append_left hj] at hq
    exact h j q m hq hm
  · rw [List.getElem?_append_right hj] at hq
    have hj0 : j - ps.length = 0 := by
      have := (List.getElem?_eq_some_iff.1 hq).1
      simp at this; omega
    rw [hj0] at hq
    have hq := Option.some.inj hq
    subst hq
    have hji : j = i := by omega
    subst hji
    rw [hn] at hm
    have hm := Option.some.inj hm
    subst hm
    exact ⟨hb, ho, hn1, hs⟩
def BlkJ (G : List (List En)) (ps : List Pl) (im : List (List UInt8)) (j : Nat) : Prop := ∃ s t, im[3 + j]? = some (s ++ outJ G ps (j + 1) ++ t) ∧ (s.length : Int) = (ps.getD j ⟨0, 0⟩).o ∧ (s ++ outJ G ps (j + 1) ++ t).length = 2048
theorem repL1_length (c : UInt8) (n : Nat) : (Lib.repeatL [c] n).length = n := by rw [repL_length]; simp
theorem blk_set {G : List (List En)} {ps : List Pl} {im : List (List UInt8)} {i : Nat} {p : Pl} {n : Int} (h : ∀ j, j < i → BlkJ G ps im j) (hp : ps[i]? = some p) (hb : p.b = 3 + (i : Int)) (ho : 0 ≤ p.o) (hn : ((outJ G ps (i + 1)).length : Int) = n) (hs : p.o + n ≤ 2048) (hl : 3 + i < im.length) :
    ∀ j, j < i + 1 → BlkJ G ps (im.set p.b.toNat ((Lib.repeatL [33] p.o.toNat ++ outJ G ps (i + 1)) ++ Lib.repeatL [63] (2048 - p.o - ((outJ G ps (i + 1)).length : Int)).toNat)) j := fun j hj => by
  rw [show p.b.toNat = 3 + i by omega]
  rcases Nat.lt_or_eq_of_le (Nat.lt_succ_iff.1 hj) with hj | rfl
  · obtain ⟨s, t, h1, h2, h3⟩ := h j hj
    exact ⟨s, t, by rw [List.getElem?_set_ne (by omega)]; exact h1, h2, h3⟩
  · refine ⟨_, _, by rw [List.getElem?_set_self hl], ?_, ?_⟩
    · rw [repL1_length, getD_of hp]; omega
    · rw [List.length_append, List.length_append, repL1_length, repL1_length]; omega
theorem img_all {gs : List Gp} {ps : List Pl} {im : List (List UInt8)} (h : ∀ j, j < ps.length → BlkJ (gs.map (fun g_ => g_.l)) ps im j) (hl : ps.length + 1 = gs.length) : Img (gs.map (fun g_ => g_.l)) ps im ps.length where
  lt := by simp; omega
  blk := h
  stop := fun h2 => by simp at h2; omega
theorem img_cut {gs : List Gp} {ps : List Pl} {im : List (List UInt8)} {q : Nat} {p : Pl} (h : ∀ j, j < ps.length → BlkJ (gs.map (fun g_ => g_.l)) ps im j) (hl : ps.length + 1 = gs.length) (hq : q < ps.length) (hb : p.b = 3 + (q : Int)) (him : im.length = 3 + ps.length) : Img (gs.map (fun g_ => g_.l)) ps (im.set p.b.toNat []) q where
  lt := by simp; omega
  blk := fun j hj => by
    obtain ⟨s, t, h1, h2, h3⟩ := h j (by omega)
    exact ⟨s, t, by rw [List.getElem?_set_ne (by omega)]; exact h1, h2, h3⟩
  stop := fun _ => by rw [show p.b.toNat = 3 + q by omega, List.getElem?_set_self (by omega)]
theorem join_j (gs : List Gp) (Ag : Option Addr) (cg : Nat) (ps : List Pl) (A2 : Option Addr) (c2 : Nat) (l : List En) (room : Int) (w : World) (hg : SlR w Ag cg 1 encG gs) (hin : InG w gs) (hps : SlR w A2 c2 2 encPl ps) (hF : Fit l room (gs.map (fun g_ => g_.l))) (h0 : chkR l = 0) (hP : Plc (gs.map (fun g_ => g_.l)) ps) (hG : gs.length ≤ 64) (hbg : ∀ g ∈ gs, szL g.l ≤ 1000000) (hsl : ∀ g ∈ gs, ∀ x ∈ g.l, x.g.length ≤ 9223372036854775807) :
    CallR Try.prog 33 [.slice Ag gs.length cg, .slice A2 ps.length c2] w (fun v w' => ∃ v1, v = .tuple #[v1, .int .i64 0] ∧ Go.XK.Own w' w.heap.size 9 1 encS v1 (outsJ gs ps) ∧ Ext w w') := by
  have h := join_c gs Ag cg ps A2 c2 w hg hin hps hbg (by omega) hsl
  rw [join_ok hF h0 hP (by simpa using hG), List.length_map] at h
  exact h
theorem walk_j (gs : List Gp) (ps : List Pl) (im : List (List UInt8)) (Ai : Option Addr) (ci : Nat) (l : List En) (room : Int) (w : World) (him : SlR w Ai ci 1 encS im) (hF : Fit l room (gs.map (fun g_ => g_.l))) (h0 : chkR l = 0) (hlk : l.any linkB = false) (hP : Plc (gs.map (fun g_ => g_.l)) ps) (hG : gs.length ≤ 64) (hI : Img (gs.map (fun g_ => g_.l)) ps im ps.length) (hl : l.length ≤ 1024) (hu : (outJ (gs.map (fun g_ => g_.l)) ps 0).length ≤ 1099511627776) :
    CallR Try.prog 35 [.slice Ai im.length ci, .string (B (outJ (gs.map (fun g_ => g_.l)) ps 0)), .int .i64 0] w (fun v w' => ∃ v1, v = .tuple #[v1, .int .i64 0, .int .i64 0] ∧ Go.XK.Own w' w.heap.size 41 3 encE v1 l ∧ Ext w w') := by
  have h := walk_c im Ai ci (outJ (gs.map (fun g_ => g_.l)) ps 0) 0 w him hu
  have := hP.len
  rw [walk_join hF h0 hlk hP (by simpa using hG) hI hl, if_neg (by omega)] at h
  exact h
theorem walk_j2 (gs : List Gp) (ps : List Pl) (im : List (List UInt8)) (q k_ : Nat) (Ai : Option Addr) (ci : Nat) (l : List En) (room : Int) (w : World) (him : SlR w Ai ci 1 encS (im.set k_ [])) (hF : Fit l room (gs.map (fun g_ => g_.l))) (h0 : chkR l = 0) (hlk : l.any linkB = false) (hP : Plc (gs.map (fun g_ => g_.l)) ps) (hG : gs.length ≤ 64) (hI : Img (gs.map (fun g_ => g_.l)) ps (im.set k_ []) q) (hq : q < ps.length) (hl : l.length ≤ 1024) (hu : (outJ (gs.map (fun g_ => g_.l)) ps 0).length ≤ 1099511627776) :
    CallR Try.prog 35 [.slice Ai im.length ci, .string (B (outJ (gs.map (fun g_ => g_.l)) ps 0)), .int .i64 0] w (fun v w' => ∃ v1, v = .tuple #[v1, .int .i64 (3 + (q : Int)), .int .i64 9] ∧ Go.XK.Own w' w.heap.size 41 3 encE v1 ([] : List En) ∧ Ext w w') := by
  have h := walk_c (im.set k_ []) Ai ci (outJ (gs.map (fun g_ => g_.l)) ps 0) 0 w him hu
  have := hP.len
  rw [List.length_set, walk_join hF h0 hlk hP (by simpa using hG) hI hl, if_pos (by omega)] at h
  exact h
theorem rep_i (c : UInt8) (n : Int) (w : World) (h0 : 0 ≤ n) (h1 : n ≤ 2048) : CallR Try.prog 34 [.string (B [c]), .int .i64 n] w (fun v w' => v = .string (B (Lib.repeatL [c] n.toNat)) ∧ Ext w w') := by
  have h := rep_c [c] n.toNat w (by omega) (by simp; omega)
  rwa [show ((n.toNat : Nat) : Int) = n by omega] at h

/-- masterdisc/masterdisclaw24.SuspSplits (function 6) -/
theorem splits_c (l : List En) (A : Option Addr) (c : Nat) (z : Int) (offs : List Int) (Ao : Option Addr) (co : Nat) (which : UInt8) (w : World) (hl : SlR w A c 3 encE l) (hsl : ∀ x ∈ l, x.g.length ≤ 9223372036854775807) (hof0 : SlR w Ao co 1 encI offs) : CallR Try.prog 6 [.slice A l.length c, .int .i64 z, .slice Ao offs.length co, .int .u8 which.toNat] w (fun v w' => v = .bool true ∧ Ext w w') := by
  have hmx0 := hl.lenle
  simp only [maxLen] at hmx0
  have hmx1 := hof0.lenle
  simp only [maxLen] at hmx1
  refine callR_of (n := 237) [(0, .slice A l.length c), (1, .int .i64 z), (2, .slice Ao offs.length co), (3, .int .u8 which.toNat)] Try.func6 rfl rfl (Nat.le_of_ble_eq_true rfl) rfl ?_
  refine sc_seq ?_
  refine sc_reg ?_
  refine Go.XK.s (v := .bool false) (e_assign rfl) ?_
  refine sl_nil (nrm_k ?_)
  refine sc_seq ?_
  refine sc_seq ?_
  refine sc_reg ?_
  refine sl_call ent9 rfl rfl (awake_c w) (by decide) ?_
  rintro _ w1 ⟨rfl, hw1⟩
  have xw_w1 : Ext w w1 := Ext.tr (Ext.rfl' w) hw1
  refine Go.XK.s (v := .bool false) (e_not (b := true) rfl) ?_
  refine sl_nil (nrm_k ?_)
  refine sc_no rfl rfl ?_
  refine sc_skip (nrm_k ?_)
  refine sc_seq ?_
  refine sc_seq ?_
  refine sc_reg ?_
  refine Go.XK.s (v := .slice A l.length c) (e_move rfl) ?_
  refine sl_call ent10 rfl rfl (small_c _ _ _ 80 w1 (hl.ext xw_w1)) (by decide) ?_
  rintro _ w2 ⟨rfl, hw2⟩
  have xw_w2 : Ext w w2 := Ext.tr xw_w1 hw2
  refine Go.XK.s (v := .bool (!(small l 80))) (e_not rfl) ?_
  refine sl_nil (nrm_k ?_)
  refine sc_if rfl (fun c27 => ?_) (fun c27 => ?_)
  ·
    refine sc_seq ?_
    refine sc_reg ?_
    refine Go.XK.s (v := .bool true) (e_assign rfl) ?_
    refine sl_nil (nrm_k ?_)
    refine sc_retf rfl (ret1 Try.results6 (rvt rfl) ?_)
    exact ⟨rfl, xw_w2⟩
  ·
    refine sc_skip (nrm_k ?_)
    refine sc_seq ?_
    refine sc_reg ?_
    refine Go.XK.s (v := .slice A l.length c) (e_move rfl) ?_
    refine Go.XK.s (v := .int .i64 z) (e_move rfl) ?_
    refine sl_call ent18 rfl rfl (groups_c _ _ _ z w2 (hl.ext xw_w2) hsl) (by decide) ?_
    rintro _ w3 ⟨vG27, gsG27, rfl, hqG27, hoG27, hogG27, hw3⟩
    replace hoG27 := Own.low hoG27 (Below.size xw_w2)
    replace hogG27 := OwG.low hogG27 (Below.size xw_w2)
    have xw_w3 : Ext w w3 := Ext.tr xw_w2 hw3
    obtain ⟨AG27, cG27, eG27_, hlcG27, hcmG27, _⟩ := Go.XK.Own.shape hoG27 (fun _ => rfl)
    subst eG27_
    refine Go.XK.s (v := .tuple #[.slice AG27 gsG27.length cG27, .int .i64 ((grpR l z).2)]) (e_move rfl) ?_
    refine Go.XK.s (v := .slice AG27 gsG27.length cG27) (e_extract (vs := [.slice AG27 gsG27.length cG27, .int .i64 ((grpR l z).2)]) rfl rfl) ?_
    refine Go.XK.s (v := .int .i64 ((grpR l z).2)) (e_extract (vs := [.slice AG27 gsG27.length cG27, .int .i64 ((grpR l z).2)]) rfl rfl) ?_
    refine Go.XK.s (v := .slice AG27 gsG27.length cG27) (e_assign rfl) ?_
    refine Go.XK.s (v := .int .i64 ((grpR l z).2)) (e_assign rfl) ?_
    refine sl_nil (nrm_k ?_)
    refine sc_seq ?_
    refine sc_seq ?_
    refine sc_reg ?_
    refine Go.XK.s (v := .int .i64 ((grpR l z).2)) (e_move rfl) ?_
    refine Go.XK.s (v := .bool (decide ((grpR l z).2 ≠ 0))) (e_ne rfl rfl) ?_
    refine sl_nil (nrm_k ?_)
    refine sc_ifd rfl (fun c35 => ?_) (fun c35 => ?_)
    ·
      refine sc_seq ?_
      refine sc_reg ?_
      refine Go.XK.s (v := .slice AG27 gsG27.length cG27) (e_move rfl) ?_
      refine Go.XK.s (v := .int .i64 (gsG27.length : Int)) (e_lenOwn Try.underlying33 rfl hoG27 (fun _ => rfl)) ?_
      refine Go.XK.s (v := .bool (decide ((gsG27.length : Int) = 0))) (e_eq rfl rfl) ?_
      refine Go.XK.s (v := .bool (decide ((gsG27.length : Int) = 0))) (e_assign rfl) ?_
      refine sl_nil (nrm_k ?_)
      refine sc_retf rfl (ret1 Try.results6 (rvt rfl) ?_)
      exact ⟨congrArg Value.bool (decide_eq_true (by have h_ := congrArg List.length hqG27; rw [grpR_err c35, List.length_map] at h_; simpa using h_)), xw_w3⟩
    ·
      obtain ⟨hc0, hlk, hfit, h64, hz0, hz1⟩ := grpR_ok c35
      have hbg := grp_hbg hqG27
      rw [← hqG27] at hfit h64
      rw [List.length_map] at h64
      have hgp : 0 < gsG27.length := by
        have h_ := hfit.ne
        rcases Nat.eq_zero_or_pos gsG27.length with h2_ | h2_
        · exact absurd (by rw [List.eq_nil_of_length_eq_zero h2_]; rfl) h_
        · exact h2_
      have hsm : small l 80 = true := by simpa using c27
      have hss := small_spec hsm
      have hsl2 : ∀ g ∈ gsG27, ∀ x ∈ g.l, x.g.length ≤ 9223372036854775807 := fun g hg_ x hx_ => by
        have h_ : x ∈ l := by rw [← hfit.flat]; exact List.mem_flatten.2 ⟨g.l, List.mem_map_of_mem hg_, hx_⟩
        have := (hss.2 x h_).2; omega
      refine sc_skip (nrm_k ?_)
      refine sc_seq ?_
      refine sc_reg ?_
      refine Go.XK.s (v := .slice AG27 gsG27.length cG27) (e_move rfl) ?_
      refine sl_call ent22 rfl rfl (lens_c _ _ _ w3 (Go.XK.Own.slr hoG27 (fun _ => rfl)) (OwG.inn hogG27) hbg (by omega)) (by decide) ?_
      rintro vD28 w4 ⟨hoD28, hw4⟩
      replace hoD28 := Own.low hoD28 (Below.size xw_w3)
      have xw_w4 : Ext w w4 := Ext.tr xw_w3 hw4
      replace hoG27 := hoG27.ext hw4
      replace hogG27 := hogG27.ext hw4
      obtain ⟨AD28, cD28, eD28_, hlcD28, hcmD28, _⟩ := Go.XK.Own.shape hoD28 (fun _ => rfl)
      subst eD28_
      refine Go.XK.s (v := .slice AD28 (lenL (gsG27.map (fun g_ : Gp => g_.l))).length cD28) (e_assign rfl) ?_
      refine sl_nil (nrm_k ?_)
      refine sc_seq ?_
      refine sc_seq ?_
      have hll_ : (lenL (gsG27.map (fun g_ : Gp => g_.l))).length = gsG27.length := by rw [lenL_length, List.length_map]
      obtain ⟨n0, hn0⟩ : ∃ n0, (lenL (gsG27.map (fun g_ : Gp => g_.l)))[0]? = some n0 := ⟨_, List.getElem?_eq_getElem (by omega)⟩
      have hn0b := (hfit.lens hn0).1
      rw [if_pos rfl] at hn0b
      refine sc_reg ?_
      refine Go.XK.s (v := .slice AG27 gsG27.length cG27) (e_move rfl) ?_
      refine Go.XK.s (v := .int .i64 (gsG27.length : Int)) (e_lenOwn Try.underlying33 rfl hoG27 (fun _ => rfl)) ?_
      refine Go.XK.s (v := .bool (decide ((gsG27.length : Int) = 0))) (e_eq rfl rfl) ?_
      refine Go.XK.s (v := .bool (decide ((gsG27.length : Int) = 0))) (e_move rfl) ?_
      refine sl_merge 6 50 (.bool ((decide ((gsG27.length : Int) = 0)) || (decide (((lenL (gsG27.map (fun g_ : Gp => g_.l))).length : Int) ≠ (gsG27.length : Int))))) ?_ ?_
      · refine sl_case (t := 44) rfl (fun g9_3 => ?_) (fun g9_3 => ?_)
        ·
          refine sl_gskip rfl rfl g9_3 (by decide) ?_
          refine sl_gskip rfl rfl g9_3 (by decide) ?_
          refine sl_gskip rfl rfl g9_3 (by decide) ?_
          refine sl_gskip rfl rfl g9_3 (by decide) ?_
          refine sl_gskip rfl rfl g9_3 (by decide) ?_
          refine Go.XK.s (v := .bool true) (e_pickT rfl g9_3 rfl) ?_
          exact sl_nil (fun a ha => ⟨rfl, ha.sub (.cons (by rw [g9_3]; rfl) (sub_self_cons (sub_self_cons (sub_self_cons (sub_self_cons (sub_self_cons (sub_self_cons (Sub.refl _) rfl) rfl) rfl) rfl) rfl) rfl))⟩)
        ·
          refine sl_gev (v := .slice AD28 (lenL (gsG27.map (fun g_ : Gp => g_.l))).length cD28) rfl rfl g9_3 (e_move rfl) rfl (by decide) ?_
          refine sl_gev (v := .int .i64 ((lenL (gsG27.map (fun g_ : Gp => g_.l))).length : Int)) rfl rfl g9_3 (e_lenOwn Try.underlying38 rfl hoD28 (fun _ => rfl)) rfl (by decide) ?_
          refine sl_gev (v := .slice AG27 gsG27.length cG27) rfl rfl g9_3 (e_move rfl) rfl (by decide) ?_
          refine sl_gev (v := .int .i64 (gsG27.length : Int)) rfl rfl g9_3 (e_lenOwn Try.underlying33 rfl hoG27 (fun _ => rfl)) rfl (by decide) ?_
          refine sl_gev (v := .bool (decide (((lenL (gsG27.map (fun g_ : Gp => g_.l))).length : Int) ≠ (gsG27.length : Int)))) rfl rfl g9_3 (e_ne rfl rfl) rfl (by decide) ?_
          refine Go.XK.s (v := .bool (decide (((lenL (gsG27.map (fun g_ : Gp => g_.l))).length : Int) ≠ (gsG27.length : Int)))) (e_pickF rfl g9_3 rfl) ?_
          exact sl_nil (fun a ha => ⟨rfl, ha.sub (.cons (by rw [g9_3]; rfl) (sub_self_cons (sub_self_cons (sub_self_cons (sub_self_cons (sub_self_cons (sub_self_cons (Sub.refl _) rfl) rfl) rfl) rfl) rfl) rfl))⟩)
      refine Go.XK.s (v := .bool ((decide ((gsG27.length : Int) = 0)) || (decide (((lenL (gsG27.map (fun g_ : Gp => g_.l))).length : Int) ≠ (gsG27.length : Int))))) (e_move rfl) ?_
      refine sl_merge 6 57 (.bool (((decide ((gsG27.length : Int) = 0)) || (decide (((lenL (gsG27.map (fun g_ : Gp => g_.l))).length : Int) ≠ (gsG27.length : Int)))) || (decide (z < n0)))) ?_ ?_
      · refine sl_case (t := 51) rfl (fun g9_10 => ?_) (fun g9_10 => ?_)
        ·
          refine sl_gskip rfl rfl g9_10 (by decide) ?_
          refine sl_gskip rfl rfl g9_10 (by decide) ?_
          refine sl_gskip rfl rfl g9_10 (by decide) ?_
          refine sl_gskip rfl rfl g9_10 (by decide) ?_
          refine sl_gskip rfl rfl g9_10 (by decide) ?_
          refine Go.XK.s (v := .bool true) (e_pickT rfl g9_10 rfl) ?_
          exact sl_nil (fun a ha => ⟨rfl, ha.sub (.cons (by rw [g9_10]; rfl) (sub_self_cons (sub_self_cons (sub_self_cons (sub_self_cons (sub_self_cons (sub_self_cons (Sub.refl _) rfl) rfl) rfl) rfl) rfl) rfl))⟩)
        ·
          refine sl_gev (v := .slice AD28 (lenL (gsG27.map (fun g_ : Gp => g_.l))).length cD28) rfl rfl g9_10 (e_move rfl) rfl (by decide) ?_
          refine sl_gev (v := .pointer (some (el (ownA (.slice AD28 (lenL (gsG27.map (fun g_ : Gp => g_.l))).length cD28)) 1 0 0))) rfl rfl g9_10 (e_idxOwn (x0 := n0) Try.underlying38 Try.sizeOf3 rfl rfl hoD28 (fun _ => rfl) hn0 (by omega)) rfl (by decide) ?_
          refine sl_gev (v := .int .i64 n0) rfl rfl g9_10 (e_ldEl (xs := lenL (gsG27.map (fun g_ : Gp => g_.l))) (enc := encI) (e := n0) rfl (Go.XK.Own.rd hoD28 (fun _ => rfl)) hn0 Try.isAgg3 rfl) rfl (by decide) ?_
          refine sl_gev (v := .int .i64 z) rfl rfl g9_10 (e_move rfl) rfl (by decide) ?_
          refine sl_gev (v := .bool (decide (z < n0))) rfl rfl g9_10 (e_gt rfl rfl) rfl (by decide) ?_
          refine Go.XK.s (v := .bool (decide (z < n0))) (e_pickF rfl g9_10 rfl) ?_
          exact sl_nil (fun a ha => ⟨rfl, ha.sub (.cons (by rw [g9_10]; rfl) (sub_self_cons (sub_self_cons (sub_self_cons (sub_self_cons (sub_self_cons (sub_self_cons (Sub.refl _) rfl) rfl) rfl) rfl) rfl) rfl))⟩)
      refine sl_nil (nrm_k ?_)
      refine sc_no rfl (by simp only [Bool.or_eq_false_iff, decide_eq_false_iff_not]; omega) ?_
      refine sc_skip (nrm_k ?_)
      refine sc_seq ?_
      refine sc_reg ?_
      refine Go.XK.s (v := .slice none 0 0) (e_assign rfl) ?_
      refine sl_nil (nrm_k ?_)
      refine sc_seq ?_
      refine sc_seq ?_
      refine sc_reg ?_
      refine Go.XK.s (v := .slice AD28 (lenL (gsG27.map (fun g_ : Gp => g_.l))).length cD28) (e_move rfl) ?_
      refine s_slS 1 ((lenL (gsG27.map (fun g_ : Gp => g_.l))).length) ((lenL (gsG27.map (fun g_ : Gp => g_.l))).drop 1) Try.underlying38 Try.sizeOf3 rfl (Go.XK.Own.slr hoD28 (fun _ => rfl)) rfl (Bd.at_ rfl (by omega)) Bd.no (by omega) (by omega) (by first | rfl | simp) ?_
      intro As59 cs59 hs59
      have hBw : w.heap.size ≤ w4.heap.size := Below.size xw_w4
      have hdl_ : ((lenL (gsG27.map (fun g_ : Gp => g_.l))).drop 1).length + 1 = gsG27.length := by rw [List.length_drop]; omega
      refine Go.XK.s (v := .int .i64 (((lenL (gsG27.map (fun g_ : Gp => g_.l))).drop 1).length : Int)) (e_len Try.underlying38 rfl) ?_
      refine Go.XK.s (v := .int .i64 0) (e_move rfl) ?_
      refine sl_nil (nrm_k ?_)
      refine sc_block ?_
      refine sc_loop (fun m_ l_ w_ => ∃ (i : Nat) (ps : List Pl) (v12 : Value), m_ = ((lenL (gsG27.map (fun g_ : Gp => g_.l))).drop 1).length - i ∧ l_ = [(61, .int .i64 (i : Int)), (12, v12), (0, .slice A l.length c), (2, .slice Ao offs.length co), (3, .int .u8 which.toNat), (9, .slice AG27 gsG27.length cG27), (11, .slice AD28 (lenL (gsG27.map (fun g_ : Gp => g_.l))).length cD28), (59, .slice As59 ((lenL (gsG27.map (fun g_ : Gp => g_.l))).drop 1).length cs59), (60, .int .i64 (((lenL (gsG27.map (fun g_ : Gp => g_.l))).drop 1).length : Int))] ∧ Ext w w_ ∧ Ext w4 w_ ∧ Go.XK.Own w_ w.heap.size 22 1 encG (.slice AG27 gsG27.length cG27) gsG27 ∧ OwG w_ w.heap.size gsG27 ∧ Go.XK.Own w_ w.heap.size 3 1 encI (.slice AD28 ((lenL (gsG27.map (fun g_ : Gp => g_.l))).length) cD28) (lenL (gsG27.map (fun g_ : Gp => g_.l))) ∧ Go.XK.Own w_ w4.heap.size 53 2 encPl v12 ps ∧ (i ≤ ((lenL (gsG27.map (fun g_ : Gp => g_.l))).drop 1).length ∧ ps.length = i) ∧ PlcI (gsG27.map (fun g_ : Gp => g_.l)) ps) _ [(61, .int .i64 (0 : Int)), (12, (.slice none 0 0)), (0, .slice A l.length c), (2, .slice Ao offs.length co), (3, .int .u8 which.toNat), (9, .slice AG27 gsG27.length cG27), (11, .slice AD28 (lenL (gsG27.map (fun g_ : Gp => g_.l))).length cD28), (59, .slice As59 ((lenL (gsG27.map (fun g_ : Gp => g_.l))).drop 1).length cs59), (60, .int .i64 (((lenL (gsG27.map (fun g_ : Gp => g_.l))).drop 1).length : Int))] ⟨0, [], .slice none 0 0, rfl, rfl, xw_w4, (Ext.rfl' w4), hoG27, hogG27, hoD28, (Go.XK.Own.nil _ _ _ _ _), ⟨⟨by omega, rfl⟩, PlcI.nil _⟩⟩ (.cons rfl (.cons rfl (.cons rfl (.cons rfl (.cons rfl (.cons rfl (.cons rfl (.cons rfl (.cons rfl (.nil)))))))))) ?_
      rintro j6 _ w5 ⟨i, ps, v12, rfl, rfl, xw_w5, xw4_w5, hoG27, hogG27, hoD28, hoP, ⟨⟨hi, hpl⟩, hPI⟩⟩
      refine sc_seq ?_
      refine sc_reg ?_
      refine Go.XK.s (v := .bool (decide ((i : Int) < (((lenL (gsG27.map (fun g_ : Gp => g_.l))).drop 1).length : Int)))) (e_lt rfl rfl) ?_
      refine sl_nil (nrm_k ?_)
      refine sc_seq ?_
      refine sc_ifd rfl (fun c62 => ?_) (fun c62 => ?_)
      ·
        obtain ⟨n, hn⟩ : ∃ n, ((lenL (gsG27.map (fun g_ : Gp => g_.l))).drop 1)[i]? = some n := ⟨_, List.getElem?_eq_getElem (by omega)⟩
        have hn2 : (lenL (gsG27.map (fun g_ : Gp => g_.l)))[i + 1]? = some n := by rw [List.getElem?_drop, Nat.add_comm] at hn; exact hn
        obtain ⟨hnb, hn1⟩ := hfit.lens hn2
        rw [if_neg (by omega)] at hnb
        replace hn1 := hn1 (by omega)
        refine sc_skip (nrm_k ?_)
        refine sc_seq ?_
        refine sc_block ?_
        refine sc_seq ?_
        refine sc_reg ?_
        refine Go.XK.s (v := .int .i64 (i : Int)) (e_move rfl) ?_
        refine Go.XK.s (v := .pointer (some (el As59 1 (i : Int) 0))) (e_idxEl (e := n) Try.underlying38 Try.sizeOf3 rfl rfl (hs59.1.ext xw4_w5) hn (by omega) rfl) ?_
        refine Go.XK.s (v := .int .i64 n) (e_ldEl (xs := (lenL (gsG27.map (fun g_ : Gp => g_.l))).drop 1) (enc := encI) (e := n) rfl (hs59.1.ext xw4_w5) hn Try.isAgg3 rfl) ?_
        refine Go.XK.s (v := .int .i64 (i : Int)) (e_assign rfl) ?_
        refine Go.XK.s (v := .int .i64 n) (e_assign rfl) ?_
        refine sl_nil (nrm_k ?_)
        refine sc_seq ?_
        refine sc_seq ?_
        refine sc_reg ?_
        refine Go.XK.s (v := .int .i64 n) (e_move rfl) ?_
        refine Go.XK.s (v := .bool (decide (n < 1))) (e_lt rfl rfl) ?_
        refine Go.XK.s (v := .bool (decide (n < 1))) (e_move rfl) ?_
        refine sl_merge 3 71 (.bool ((decide (n < 1)) || (decide ((2048 : Int) < n)))) ?_ ?_
        · refine sl_case (t := 68) rfl (fun g15_2 => ?_) (fun g15_2 => ?_)
          ·
            refine sl_gskip rfl rfl g15_2 (by decide) ?_
            refine sl_gskip rfl rfl g15_2 (by decide) ?_
            refine Go.XK.s (v := .bool true) (e_pickT rfl g15_2 rfl) ?_
            exact sl_nil (fun a ha => ⟨rfl, ha.sub (.cons (by rw [g15_2]; rfl) (sub_self_cons (sub_self_cons (sub_self_cons (Sub.refl _) rfl) rfl) rfl))⟩)
          ·
            refine sl_gev (v := .int .i64 n) rfl rfl g15_2 (e_move rfl) rfl (by decide) ?_
            refine sl_gev (v := .bool (decide ((2048 : Int) < n))) rfl rfl g15_2 (e_gt rfl rfl) rfl (by decide) ?_
            refine Go.XK.s (v := .bool (decide ((2048 : Int) < n))) (e_pickF rfl g15_2 rfl) ?_
            exact sl_nil (fun a ha => ⟨rfl, ha.sub (.cons (by rw [g15_2]; rfl) (sub_self_cons (sub_self_cons (sub_self_cons (Sub.refl _) rfl) rfl) rfl))⟩)
        refine sl_nil (nrm_k ?_)
        refine sc_no rfl (by simp only [Bool.or_eq_false_iff, decide_eq_false_iff_not]; omega) ?_
        refine sc_skip (nrm_k ?_)
        refine sc_seq ?_
        refine sc_reg ?_
        refine Go.XK.s (v := .int .i64 (i : Int)) (e_move rfl) ?_
        refine Go.XK.s (v := .int .i64 ((3 : Int) + (i : Int))) (e_add rfl rfl (by omega)) ?_
        refine Go.XK.s (v := .agg #[.int .i64 ((3 : Int) + (i : Int)), .int .i64 0]) (e_build (vs := [(0, .int .i64 ((3 : Int) + (i : Int)))]) rfl (by kernel_rfl)) ?_
        refine s_alloc (cs := [.int .i64 0, .int .i64 0]) Try.zeroValue53 rfl ?_
        intro b15 w7 hb15 he15 hs15 hx15
        have no_b15_hoG27 : Value.ownBlock (.slice AG27 gsG27.length cG27) ≠ some b15 := fun h_ => by have h2_ := (Go.XK.Own.lt hoG27 _ h_).2; omega
        have no_b15_hoD28 : Value.ownBlock (.slice AD28 ((lenL (gsG27.map (fun g_ : Gp => g_.l))).length) cD28) ≠ some b15 := fun h_ => by have h2_ := (Go.XK.Own.lt hoD28 _ h_).2; omega
        have no_b15_hoP : Value.ownBlock v12 ≠ some b15 := fun h_ => by have h2_ := (Go.XK.Own.lt hoP _ h_).2; omega
        have ge_b15 : w.heap.size ≤ b15 := by have h_ := (Below.size xw_w5); omega
        have gew4_b15 : w4.heap.size ≤ b15 := by have h_ := (Below.size xw4_w5); omega
        have xw_w7 : Ext w w7 := Ext.tr xw_w5 hx15
        have xw4_w7 : Ext w4 w7 := Ext.tr xw4_w5 hx15
        replace hoG27 := hoG27.ext hx15
        replace hogG27 := hogG27.ext hx15
        replace hoD28 := hoD28.ext hx15
        replace hoP := hoP.ext hx15
        refine su_blkV [.int .i64 ((3 : Int) + (i : Int)), .int .i64 0] [.int .i64 ((3 : Int) + (i : Int)), .int .i64 0] rfl rfl hb15 rfl Try.sizeOf53 (Nat.le_of_ble_eq_true rfl) rfl rfl ?_
        intro w8 hn_ hm_w8 hs_w8
        have ho_ := hb15
        replace hb15 := hn_
        clear hn_
        replace hoG27 := hoG27.mut hm_w8 no_b15_hoG27
        replace hogG27 := hogG27.mut hm_w8 ho_ (by decide)
        replace hoD28 := hoD28.mut hm_w8 no_b15_hoD28
        replace hoP := hoP.mut hm_w8 no_b15_hoP
        have xw_w8 : Ext w w8 := below_mut xw_w7 (Below.size xw_w7) hm_w8 ge_b15
        have xw4_w8 : Ext w4 w8 := below_mut xw4_w7 (Below.size xw4_w7) hm_w8 gew4_b15
        refine sl_nil (nrm_k ?_)
        refine sc_seq ?_
        refine sc_seq ?_
        rcases Classical.em ((i : Int) < (offs.length : Int)) with g9 | g9
        ·
          obtain ⟨o, hof⟩ : ∃ o, offs[i]? = some o := ⟨_, List.getElem?_eq_getElem (by omega)⟩
          refine sc_reg ?_
          refine Go.XK.s (v := .int .i64 (i : Int)) (e_move rfl) ?_
          refine Go.XK.s (v := .slice Ao offs.length co) (e_move rfl) ?_
          refine Go.XK.s (v := .int .i64 (offs.length : Int)) (e_len Try.underlying38 rfl) ?_
          refine Go.XK.s (v := .bool (decide ((i : Int) < (offs.length : Int)))) (e_lt rfl rfl) ?_
          refine Go.XK.s (v := .bool (decide ((i : Int) < (offs.length : Int)))) (e_move rfl) ?_
          refine sl_gev (v := .slice Ao offs.length co) rfl rfl (decide_eq_true g9) (e_move rfl) rfl (by decide) ?_
          refine sl_gev (v := .int .i64 (i : Int)) rfl rfl (decide_eq_true g9) (e_move rfl) rfl (by decide) ?_
          refine sl_gev (v := .pointer (some (el Ao 1 (i : Int) 0))) rfl rfl (decide_eq_true g9) (e_idxEl (e := o) Try.underlying38 Try.sizeOf3 rfl rfl (hof0.1.ext xw_w8) hof (by omega) rfl) rfl (by decide) ?_
          refine sl_gev (v := .int .i64 o) rfl rfl (decide_eq_true g9) (e_ldEl (xs := offs) (enc := encI) (e := o) rfl (hof0.1.ext xw_w8) hof Try.isAgg3 rfl) rfl (by decide) ?_
          refine sl_gev (v := .bool (decide ((0 : Int) ≤ o))) rfl rfl (decide_eq_true g9) (e_ge rfl rfl) rfl (by decide) ?_
          refine Go.XK.s (v := .bool (decide ((0 : Int) ≤ o))) (e_pickT rfl (decide_eq_true g9) rfl) ?_
          refine Go.XK.s (v := .bool (decide ((0 : Int) ≤ o))) (e_move rfl) ?_
          refine sl_merge 8 94 (.bool ((decide ((0 : Int) ≤ o)) && (decide (o ≤ (2048 : Int) - n)))) ?_ ?_
          · refine sl_case (t := 86) rfl (fun g18_11 => ?_) (fun g18_11 => ?_)
            ·
              refine sl_gev (v := .slice Ao offs.length co) rfl rfl g18_11 (e_move rfl) rfl (by decide) ?_
              refine sl_gev (v := .int .i64 (i : Int)) rfl rfl g18_11 (e_move rfl) rfl (by decide) ?_
              refine sl_gev (v := .pointer (some (el Ao 1 (i : Int) 0))) rfl rfl g18_11 (e_idxEl (e := o) Try.underlying38 Try.sizeOf3 rfl rfl (hof0.1.ext xw_w8) hof (by omega) rfl) rfl (by decide) ?_
              refine sl_gev (v := .int .i64 o) rfl rfl g18_11 (e_ldEl (xs := offs) (enc := encI) (e := o) rfl (hof0.1.ext xw_w8) hof Try.isAgg3 rfl) rfl (by decide) ?_
              refine sl_gev (v := .int .i64 n) rfl rfl g18_11 (e_move rfl) rfl (by decide) ?_
              refine sl_gev (v := .int .i64 ((2048 : Int) - n)) rfl rfl g18_11 (e_sub rfl rfl (by omega)) rfl (by decide) ?_
              refine sl_gev (v := .bool (decide (o ≤ (2048 : Int) - n))) rfl rfl g18_11 (e_le rfl rfl) rfl (by decide) ?_
              refine Go.XK.s (v := .bool (decide (o ≤ (2048 : Int) - n))) (e_pickT rfl g18_11 rfl) ?_
              exact sl_nil (fun a ha => ⟨rfl, ha.sub (.cons (by rw [g18_11]; rfl) (sub_self_cons (sub_self_cons (sub_self_cons (sub_self_cons (sub_self_cons (sub_self_cons (sub_self_cons (sub_self_cons (Sub.refl _) rfl) rfl) rfl) rfl) rfl) rfl) rfl) rfl))⟩)
            ·
              refine sl_gskip rfl rfl g18_11 (by decide) ?_
              refine sl_gskip rfl rfl g18_11 (by decide) ?_
              refine sl_gskip rfl rfl g18_11 (by decide) ?_
              refine sl_gskip rfl rfl g18_11 (by decide) ?_
              refine sl_gskip rfl rfl g18_11 (by decide) ?_
              refine sl_gskip rfl rfl g18_11 (by decide) ?_
              refine sl_gskip rfl rfl g18_11 (by decide) ?_
              refine Go.XK.s (v := .bool false) (e_pickF rfl g18_11 rfl) ?_
              exact sl_nil (fun a ha => ⟨rfl, ha.sub (.cons (by rw [g18_11]; rfl) (sub_self_cons (sub_self_cons (sub_self_cons (sub_self_cons (sub_self_cons (sub_self_cons (sub_self_cons (sub_self_cons (Sub.refl _) rfl) rfl) rfl) rfl) rfl) rfl) rfl) rfl))⟩)
          refine sl_nil (nrm_k ?_)
          refine sc_if rfl (fun c94 => ?_) (fun c94 => ?_)
          ·
            simp only [Bool.and_eq_true, decide_eq_true_eq] at c94
            refine sc_reg ?_
            refine Go.XK.s (v := .slice Ao offs.length co) (e_move rfl) ?_
            refine Go.XK.s (v := .int .i64 (i : Int)) (e_move rfl) ?_
            refine Go.XK.s (v := .pointer (some (el Ao 1 (i : Int) 0))) (e_idxEl (e := o) Try.underlying38 Try.sizeOf3 rfl rfl (hof0.1.ext xw_w8) hof (by omega) rfl) ?_
            refine Go.XK.s (v := .int .i64 o) (e_ldEl (xs := offs) (enc := encI) (e := o) rfl (hof0.1.ext xw_w8) hof Try.isAgg3 rfl) ?_
            refine Go.XK.s (v := .pointer (some ⟨b15, 1, none⟩)) (e_fieldB (sz := 1) Try.underlying53 rfl Try.sizeOf3 (by decide) rfl rfl) ?_
            refine su_blkV [.int .i64 o] [.int .i64 ((3 : Int) + (i : Int)), .int .i64 o] rfl rfl hb15 rfl Try.sizeOf3 (Nat.le_of_ble_eq_true rfl) rfl rfl ?_
            intro w10 hn_ hm_w10 hs_w10
            have ho_ := hb15
            replace hb15 := hn_
            clear hn_
            replace hoG27 := hoG27.mut hm_w10 no_b15_hoG27
            replace hogG27 := hogG27.mut hm_w10 ho_ (by decide)
            replace hoD28 := hoD28.mut hm_w10 no_b15_hoD28
            replace hoP := hoP.mut hm_w10 no_b15_hoP
            have xw_w10 : Ext w w10 := below_mut xw_w8 (Below.size xw_w8) hm_w10 ge_b15
            have xw4_w10 : Ext w4 w10 := below_mut xw4_w8 (Below.size xw4_w8) hm_w10 gew4_b15
            refine sl_nil (nrm_k ?_)
            refine sc_reg ?_
            refine Go.XK.s (v := v12) (e_move rfl) ?_
            refine Go.XK.s (v := .agg #[.int .i64 ((3 : Int) + (i : Int)), .int .i64 o]) (e_load rfl (hb15.loadA Try.isAgg53 Try.sizeOf53 rfl)) ?_
            refine s_bslice (vs := [(0, .agg #[.int .i64 ((3 : Int) + (i : Int)), .int .i64 o])]) (e := 53) rfl [.int .i64 ((3 : Int) + (i : Int)), .int .i64 o] (by kernel_rfl) ?_
            intro b102 w11 hb102 he102 hs102 hx102
            have ne_b102_b15 : b102 ≠ b15 := by have h_ := hb15.lt; omega
            have no_b102_hoG27 : Value.ownBlock (.slice AG27 gsG27.length cG27) ≠ some b102 := fun h_ => by have h2_ := (Go.XK.Own.lt hoG27 _ h_).2; omega
            have no_b102_hoD28 : Value.ownBlock (.slice AD28 ((lenL (gsG27.map (fun g_ : Gp => g_.l))).length) cD28) ≠ some b102 := fun h_ => by have h2_ := (Go.XK.Own.lt hoD28 _ h_).2; omega
            have no_b102_hoP : Value.ownBlock v12 ≠ some b102 := fun h_ => by have h2_ := (Go.XK.Own.lt hoP _ h_).2; omega
            have ge_b102 : w.heap.size ≤ b102 := by have h_ := (Below.size xw_w10); omega
            have gew4_b102 : w4.heap.size ≤ b102 := by have h_ := (Below.size xw4_w10); omega
            have xw_w11 : Ext w w11 := Ext.tr xw_w10 hx102
            have xw4_w11 : Ext w4 w11 := Ext.tr xw4_w10 hx102
            replace hb15 := hb15.ext hx102
            replace hoG27 := hoG27.ext hx102
            replace hogG27 := hogG27.ext hx102
            replace hoD28 := hoD28.ext hx102
            replace hoP := hoP.ext hx102
            refine s_appendLit2 (w0 := w4) (z := .agg #[.int .i64 0, .int .i64 0]) (kk := 2) (bytes := 16) rfl rfl Try.underlying51 (by kernel_rfl) rfl (by decide) (fun _ => rfl) one_encPl [⟨(3 : Int) + (i : Int), o⟩] hoP xw4_w11 hb102 rfl rfl (by first | omega | (simp only [maxLen]; omega)) (by first | omega | (simp only [maxLen]; omega)) ?_
            intro v103 w12 ho103 xw_w12 hg103 hat103
            replace hb15 := hb15.grown hg103 no_b15_hoP
            replace hb102 := hb102.grown hg103 no_b102_hoP
            replace hoG27 := Go.XK.Own.other hoG27 hoP hg103 (by decide)
            replace hogG27 := OwG.other hogG27 hoP hg103 (by decide)
            replace hoD28 := Go.XK.Own.other hoD28 hoP hg103 (by decide)
            have yw_w12 : Ext w w12 := Ext.grown xw_w11 (Own.low hoP hBw) hg103
            refine Go.XK.s (v := v103) (e_assign rfl) ?_
            refine sl_nil (nrm_k ?_)
            refine sc_reg ?_
            refine Go.XK.s (v := .int .i64 ((i : Int) + 1)) (e_add rfl rfl (by omega)) ?_
            refine Go.XK.s (v := .int .i64 ((i : Int) + 1)) (e_move rfl) ?_
            refine sl_nil ?_
            exact nrm_loopq rfl _ _ (by omega) ⟨i + 1, ps ++ [⟨(3 : Int) + (i : Int), o⟩], v103, rfl, rfl, yw_w12, xw_w12, hoG27, hogG27, hoD28, ho103, ⟨⟨by omega, by rw [List.length_append]; simp; omega⟩, hPI.snoc hpl hn2 rfl (by first | exact Int.le_refl 0 | exact c94.1) hn1 (by first | (show (0 : Int) + n ≤ 2048; omega) | (show o + n ≤ 2048; omega))⟩⟩ (.cons rfl (.cons rfl (.cons rfl (.cons rfl (.cons rfl (.cons rfl (.cons rfl (.cons rfl (.cons rfl (.nil))))))))))
          ·
            refine sc_skip (nrm_k ?_)
            refine sc_reg ?_
            refine Go.XK.s (v := v12) (e_move rfl) ?_
            refine Go.XK.s (v := .agg #[.int .i64 ((3 : Int) + (i : Int)), .int .i64 0]) (e_load rfl (hb15.loadA Try.isAgg53 Try.sizeOf53 rfl)) ?_
            refine s_bslice (vs := [(0, .agg #[.int .i64 ((3 : Int) + (i : Int)), .int .i64 0])]) (e := 53) rfl [.int .i64 ((3 : Int) + (i : Int)), .int .i64 0] (by kernel_rfl) ?_
            intro b102 w13 hb102 he102 hs102 hx102
            have ne_b102_b15 : b102 ≠ b15 := by have h_ := hb15.lt; omega
            have no_b102_hoG27 : Value.ownBlock (.slice AG27 gsG27.length cG27) ≠ some b102 := fun h_ => by have h2_ := (Go.XK.Own.lt hoG27 _ h_).2; omega
            have no_b102_hoD28 : Value.ownBlock (.slice AD28 ((lenL (gsG27.map (fun g_ : Gp => g_.l))).length) cD28) ≠ some b102 := fun h_ => by have h2_ := (Go.XK.Own.lt hoD28 _ h_).2; omega
            have no_b102_hoP : Value.ownBlock v12 ≠ some b102 := fun h_ => by have h2_ := (Go.XK.Own.lt hoP _ h_).2; omega
            have ge_b102 : w.heap.size ≤ b102 := by have h_ := (Below.size xw_w8); omega
            have gew4_b102 : w4.heap.size ≤ b102 := by have h_ := (Below.size xw4_w8); omega
            have xw_w13 : Ext w w13 := Ext.tr xw_w8 hx102
            have xw4_w13 : Ext w4 w13 := Ext.tr xw4_w8 hx102
            replace hb15 := hb15.ext hx102
            replace hoG27 := hoG27.ext hx102
            replace hogG27 := hogG27.ext hx102
            replace hoD28 := hoD28.ext hx102
            replace hoP := hoP.ext hx102
            refine s_appendLit2 (w0 := w4) (z := .agg #[.int .i64 0, .int .i64 0]) (kk := 2) (bytes := 16) rfl rfl Try.underlying51 (by kernel_rfl) rfl (by decide) (fun _ => rfl) one_encPl [⟨(3 : Int) + (i : Int), 0⟩] hoP xw4_w13 hb102 rfl rfl (by first | omega | (simp only [maxLen]; omega)) (by first | omega | (simp only [maxLen]; omega)) ?_
            intro v103 w14 ho103 xw_w14 hg103 hat103
            replace hb15 := hb15.grown hg103 no_b15_hoP
            replace hb102 := hb102.grown hg103 no_b102_hoP
            replace hoG27 := Go.XK.Own.other hoG27 hoP hg103 (by decide)
            replace hogG27 := OwG.other hogG27 hoP hg103 (by decide)
            replace hoD28 := Go.XK.Own.other hoD28 hoP hg103 (by decide)
            have yw_w14 : Ext w w14 := Ext.grown xw_w13 (Own.low hoP hBw) hg103
            refine Go.XK.s (v := v103) (e_assign rfl) ?_
            refine sl_nil (nrm_k ?_)
            refine sc_reg ?_
            refine Go.XK.s (v := .int .i64 ((i : Int) + 1)) (e_add rfl rfl (by omega)) ?_
            refine Go.XK.s (v := .int .i64 ((i : Int) + 1)) (e_move rfl) ?_
            refine sl_nil ?_
            exact nrm_loopq rfl _ _ (by omega) ⟨i + 1, ps ++ [⟨(3 : Int) + (i : Int), 0⟩], v103, rfl, rfl, yw_w14, xw_w14, hoG27, hogG27, hoD28, ho103, ⟨⟨by omega, by rw [List.length_append]; simp; omega⟩, hPI.snoc hpl hn2 rfl (by first | exact Int.le_refl 0 | exact c94.1) hn1 (by first | (show (0 : Int) + n ≤ 2048; omega) | (show o + n ≤ 2048; omega))⟩⟩ (.cons rfl (.cons rfl (.cons rfl (.cons rfl (.cons rfl (.cons rfl (.cons rfl (.cons rfl (.cons rfl (.nil))))))))))
        ·
          refine sc_reg ?_
          refine Go.XK.s (v := .int .i64 (i : Int)) (e_move rfl) ?_
          refine Go.XK.s (v := .slice Ao offs.length co) (e_move rfl) ?_
          refine Go.XK.s (v := .int .i64 (offs.length : Int)) (e_len Try.underlying38 rfl) ?_
          refine Go.XK.s (v := .bool (decide ((i : Int) < (offs.length : Int)))) (e_lt rfl rfl) ?_
          refine Go.XK.s (v := .bool (decide ((i : Int) < (offs.length : Int)))) (e_move rfl) ?_
          refine sl_gskip rfl rfl (decide_eq_false g9) (by decide) ?_
          refine sl_gskip rfl rfl (decide_eq_false g9) (by decide) ?_
          refine sl_gskip rfl rfl (decide_eq_false g9) (by decide) ?_
          refine sl_gskip rfl rfl (decide_eq_false g9) (by decide) ?_
          refine sl_gskip rfl rfl (decide_eq_false g9) (by decide) ?_
          refine Go.XK.s (v := .bool false) (e_pickF rfl (decide_eq_false g9) rfl) ?_
          refine Go.XK.s (v := .bool false) (e_move rfl) ?_
          refine sl_gskip rfl rfl rfl (by decide) ?_
          refine sl_gskip rfl rfl rfl (by decide) ?_
          refine sl_gskip rfl rfl rfl (by decide) ?_
          refine sl_gskip rfl rfl rfl (by decide) ?_
          refine sl_gskip rfl rfl rfl (by decide) ?_
          refine sl_gskip rfl rfl rfl (by decide) ?_
          refine sl_gskip rfl rfl rfl (by decide) ?_
          refine Go.XK.s (v := .bool false) (e_pickF rfl rfl rfl) ?_
          refine sl_nil (nrm_k ?_)
          refine sc_no rfl rfl ?_
          refine sc_skip (nrm_k ?_)
          refine sc_reg ?_
          refine Go.XK.s (v := v12) (e_move rfl) ?_
          refine Go.XK.s (v := .agg #[.int .i64 ((3 : Int) + (i : Int)), .int .i64 0]) (e_load rfl (hb15.loadA Try.isAgg53 Try.sizeOf53 rfl)) ?_
          refine s_bslice (vs := [(0, .agg #[.int .i64 ((3 : Int) + (i : Int)), .int .i64 0])]) (e := 53) rfl [.int .i64 ((3 : Int) + (i : Int)), .int .i64 0] (by kernel_rfl) ?_
          intro b102 w15 hb102 he102 hs102 hx102
          have ne_b102_b15 : b102 ≠ b15 := by have h_ := hb15.lt; omega
          have no_b102_hoG27 : Value.ownBlock (.slice AG27 gsG27.length cG27) ≠ some b102 := fun h_ => by have h2_ := (Go.XK.Own.lt hoG27 _ h_).2; omega
          have no_b102_hoD28 : Value.ownBlock (.slice AD28 ((lenL (gsG27.map (fun g_ : Gp => g_.l))).length) cD28) ≠ some b102 := fun h_ => by have h2_ := (Go.XK.Own.lt hoD28 _ h_).2; omega
          have no_b102_hoP : Value.ownBlock v12 ≠ some b102 := fun h_ => by have h2_ := (Go.XK.Own.lt hoP _ h_).2; omega
          have ge_b102 : w.heap.size ≤ b102 := by have h_ := (Below.size xw_w8); omega
          have gew4_b102 : w4.heap.size ≤ b102 := by have h_ := (Below.size xw4_w8); omega
          have xw_w15 : Ext w w15 := Ext.tr xw_w8 hx102
          have xw4_w15 : Ext w4 w15 := Ext.tr xw4_w8 hx102
          replace hb15 := hb15.ext hx102
          replace hoG27 := hoG27.ext hx102
          replace hogG27 := hogG27.ext hx102
          replace hoD28 := hoD28.ext hx102
          replace hoP := hoP.ext hx102
          refine s_appendLit2 (w0 := w4) (z := .agg #[.int .i64 0, .int .i64 0]) (kk := 2) (bytes := 16) rfl rfl Try.underlying51 (by kernel_rfl) rfl (by decide) (fun _ => rfl) one_encPl [⟨(3 : Int) + (i : Int), 0⟩] hoP xw4_w15 hb102 rfl rfl (by first | omega | (simp only [maxLen]; omega)) (by first | omega | (simp only [maxLen]; omega)) ?_
          intro v103 w16 ho103 xw_w16 hg103 hat103
          replace hb15 := hb15.grown hg103 no_b15_hoP
          replace hb102 := hb102.grown hg103 no_b102_hoP
          replace hoG27 := Go.XK.Own.other hoG27 hoP hg103 (by decide)
          replace hogG27 := OwG.other hogG27 hoP hg103 (by decide)
          replace hoD28 := Go.XK.Own.other hoD28 hoP hg103 (by decide)
          have yw_w16 : Ext w w16 := Ext.grown xw_w15 (Own.low hoP hBw) hg103
          refine Go.XK.s (v := v103) (e_assign rfl) ?_
          refine sl_nil (nrm_k ?_)
          refine sc_reg ?_
          refine Go.XK.s (v := .int .i64 ((i : Int) + 1)) (e_add rfl rfl (by omega)) ?_
          refine Go.XK.s (v := .int .i64 ((i : Int) + 1)) (e_move rfl) ?_
          refine sl_nil ?_
          exact nrm_loopq rfl _ _ (by omega) ⟨i + 1, ps ++ [⟨(3 : Int) + (i : Int), 0⟩], v103, rfl, rfl, yw_w16, xw_w16, hoG27, hogG27, hoD28, ho103, ⟨⟨by omega, by rw [List.length_append]; simp; omega⟩, hPI.snoc hpl hn2 rfl (by first | exact Int.le_refl 0 | exact c94.1) hn1 (by first | (show (0 : Int) + n ≤ 2048; omega) | (show o + n ≤ 2048; omega))⟩⟩ (.cons rfl (.cons rfl (.cons rfl (.cons rfl (.cons rfl (.cons rfl (.cons rfl (.cons rfl (.cons rfl (.nil))))))))))
      ·
        have hpl1 : ps.length + 1 = gsG27.length := by omega
        have hP : Plc (gsG27.map (fun g_ : Gp => g_.l)) ps := ⟨by rw [List.length_map]; exact hpl1, hPI⟩
        have hu0 := out_len hfit hc0 ps hn0
        replace hoP := Own.low hoP hBw
        obtain ⟨AZ, cZ, eZ_, hlcZ, hcmZ, _⟩ := Go.XK.Own.shape hoP (fun _ => rfl)
        subst eZ_
        refine sc_exit rfl (nrm_k ?_)
        refine sc_seq ?_
        refine sc_reg ?_
        refine Go.XK.s (v := .slice AG27 gsG27.length cG27) (e_move rfl) ?_
        refine Go.XK.s (v := .slice AZ ps.length cZ) (e_move rfl) ?_
        refine sl_call ent33 rfl rfl (join_j _ _ _ _ _ _ _ _ w5 (Go.XK.Own.slr hoG27 (fun _ => rfl)) (OwG.inn hogG27) (Go.XK.Own.slr hoP (fun _ => rfl)) hfit hc0 hP h64 hbg hsl2) (by decide) ?_
        rintro _ w17 ⟨vD29, rfl, hoD29, hw17⟩
        replace hoD29 := Own.low hoD29 (Below.size xw_w5)
        have xw_w17 : Ext w w17 := Ext.tr xw_w5 hw17
        replace hoG27 := hoG27.ext hw17
        replace hogG27 := hogG27.ext hw17
        replace hoD28 := hoD28.ext hw17
        replace hoP := hoP.ext hw17
        obtain ⟨AD29, cD29, eD29_, hlcD29, hcmD29, _⟩ := Go.XK.Own.shape hoD29 (fun _ => rfl)
        subst eD29_
        refine Go.XK.s (v := .tuple #[.slice AD29 (outsJ gsG27 ps).length cD29, .int .i64 0]) (e_move rfl) ?_
        refine Go.XK.s (v := .slice AD29 (outsJ gsG27 ps).length cD29) (e_extract (vs := [.slice AD29 (outsJ gsG27 ps).length cD29, .int .i64 0]) rfl rfl) ?_
        refine Go.XK.s (v := .int .i64 0) (e_extract (vs := [.slice AD29 (outsJ gsG27 ps).length cD29, .int .i64 0]) rfl rfl) ?_
        refine Go.XK.s (v := .slice AD29 (outsJ gsG27 ps).length cD29) (e_assign rfl) ?_
        refine Go.XK.s (v := .int .i64 0) (e_assign rfl) ?_
        refine sl_nil (nrm_k ?_)
        refine sc_seq ?_
        refine sc_seq ?_
        refine sc_reg ?_
        refine Go.XK.s (v := .int .i64 0) (e_move rfl) ?_
        refine Go.XK.s (v := .bool (decide ((0 : Int) ≠ 0))) (e_ne rfl rfl) ?_
        refine Go.XK.s (v := .bool (decide ((0 : Int) ≠ 0))) (e_move rfl) ?_
        refine sl_gev (v := .slice AD29 (outsJ gsG27 ps).length cD29) rfl rfl (by decide) (e_move rfl) rfl (by decide) ?_
        refine sl_gev (v := .int .i64 ((outsJ gsG27 ps).length : Int)) rfl rfl (by decide) (e_lenOwn Try.underlying48 rfl hoD29 (fun _ => rfl)) rfl (by decide) ?_
        refine sl_gev (v := .slice AG27 gsG27.length cG27) rfl rfl (by decide) (e_move rfl) rfl (by decide) ?_
        refine sl_gev (v := .int .i64 (gsG27.length : Int)) rfl rfl (by decide) (e_lenOwn Try.underlying33 rfl hoG27 (fun _ => rfl)) rfl (by decide) ?_
        refine sl_gev (v := .bool (decide (((outsJ gsG27 ps).length : Int) ≠ (gsG27.length : Int)))) rfl rfl (by decide) (e_ne rfl rfl) rfl (by decide) ?_
        refine Go.XK.s (v := .bool (decide (((outsJ gsG27 ps).length : Int) ≠ (gsG27.length : Int)))) (e_pickF rfl (by decide) rfl) ?_
        refine sl_nil (nrm_k ?_)
        refine sc_no rfl (by exact decide_eq_false (by rw [outs_len]; simp)) ?_
        refine sc_skip (nrm_k ?_)
        refine sc_seq ?_
        obtain ⟨N, hN⟩ : ∃ N : Nat, N = 3 + ps.length := ⟨_, rfl⟩
        refine sc_reg ?_
        refine Go.XK.s (v := .slice AZ ps.length cZ) (e_move rfl) ?_
        refine Go.XK.s (v := .int .i64 (ps.length : Int)) (e_lenOwn Try.underlying51 rfl hoP (fun _ => rfl)) ?_
        refine Go.XK.s (v := .int .i64 (N : Int)) (Ev.eqv (by rw [hN]; congr 1) (e_add rfl rfl (by omega))) ?_
        refine s_make1 (m := N) (z := .string (B [])) (bytes := 16) rfl rfl Try.underlying56 (by kernel_rfl) rfl (by omega) (by omega) ?_
        intro b123 w18 hb123 he123 hs123 hx123
        have no_b123_hoG27 : Value.ownBlock (.slice AG27 gsG27.length cG27) ≠ some b123 := fun h_ => by have h2_ := (Go.XK.Own.lt hoG27 _ h_).2; omega
        have no_b123_hoD28 : Value.ownBlock (.slice AD28 ((lenL (gsG27.map (fun g_ : Gp => g_.l))).length) cD28) ≠ some b123 := fun h_ => by have h2_ := (Go.XK.Own.lt hoD28 _ h_).2; omega
        have no_b123_hoP : Value.ownBlock (.slice AZ ps.length cZ) ≠ some b123 := fun h_ => by have h2_ := (Go.XK.Own.lt hoP _ h_).2; omega
        have no_b123_hoD29 : Value.ownBlock (.slice AD29 ((outsJ gsG27 ps).length) cD29) ≠ some b123 := fun h_ => by have h2_ := (Go.XK.Own.lt hoD29 _ h_).2; omega
        have ge_b123 : w.heap.size ≤ b123 := by have h_ := (Below.size xw_w17); omega
        have xw_w18 : Ext w w18 := Ext.tr xw_w17 hx123
        replace hoG27 := hoG27.ext hx123
        replace hogG27 := hogG27.ext hx123
        replace hoD28 := hoD28.ext hx123
        replace hoP := hoP.ext hx123
        replace hoD29 := hoD29.ext hx123
        have ho123 : Go.XK.Own w18 w.heap.size 9 1 encS (.slice (some ⟨b123, 0, none⟩) N N) (List.replicate N []) := by
          have h_ := Go.XK.Own.ofBlk (base := w.heap.size) (enc := encS) (kk := 1) (xs := List.replicate N []) (by rw [rep_flat _ encS (fun _ => rfl)]; exact hb123) ge_b123 (fun _ => rfl) (by rw [List.length_replicate]; simp only [maxLen]; omega)
          rw [List.length_replicate] at h_
          exact h_
        have dj_ho123_hoD29 : Dj (.slice (some ⟨b123, 0, none⟩) N N) (.slice AD29 ((outsJ gsG27 ps).length) cD29) := Dj.at_ no_b123_hoD29
        refine Go.XK.s (v := .slice (some ⟨b123, 0, none⟩) N N) (e_assign rfl) ?_
        refine sl_nil (nrm_k ?_)
        refine sc_seq ?_
        refine sc_seq ?_
        refine sc_reg ?_
        refine Go.XK.s (v := .slice AZ ps.length cZ) (e_move rfl) ?_
        refine Go.XK.s (v := .int .i64 (ps.length : Int)) (e_lenOwn Try.underlying51 rfl hoP (fun _ => rfl)) ?_
        refine Go.XK.s (v := .int .i64 0) (e_move rfl) ?_
        refine sl_nil (nrm_k ?_)
        refine sc_block ?_
        refine sc_loop (fun m_ l_ w_ => ∃ (i : Nat) (im : List (List UInt8)) (vI : Value), m_ = ps.length - i ∧ l_ = [(126, .int .i64 (i : Int)), (17, vI), (0, .slice A l.length c), (3, .int .u8 which.toNat), (9, .slice AG27 gsG27.length cG27), (11, .slice AD28 (lenL (gsG27.map (fun g_ : Gp => g_.l))).length cD28), (12, .slice AZ ps.length cZ), (16, .slice AD29 (outsJ gsG27 ps).length cD29), (124, .slice AZ ps.length cZ), (125, .int .i64 (ps.length : Int))] ∧ Ext w w_ ∧ Go.XK.Own w_ w.heap.size 22 1 encG (.slice AG27 gsG27.length cG27) gsG27 ∧ OwG w_ w.heap.size gsG27 ∧ Go.XK.Own w_ w.heap.size 3 1 encI (.slice AD28 ((lenL (gsG27.map (fun g_ : Gp => g_.l))).length) cD28) (lenL (gsG27.map (fun g_ : Gp => g_.l))) ∧ Go.XK.Own w_ w.heap.size 53 2 encPl (.slice AZ ps.length cZ) ps ∧ Go.XK.Own w_ w.heap.size 9 1 encS (.slice AD29 ((outsJ gsG27 ps).length) cD29) (outsJ gsG27 ps) ∧ Go.XK.Own w_ w.heap.size 9 1 encS vI im ∧ Dj (.slice AD29 ((outsJ gsG27 ps).length) cD29) vI ∧ (i ≤ ps.length ∧ im.length = N) ∧ (∀ j, j < i → BlkJ (gsG27.map (fun g_ : Gp => g_.l)) ps im j)) _ [(126, .int .i64 (0 : Int)), (17, (.slice (some ⟨b123, 0, none⟩) N N)), (0, .slice A l.length c), (3, .int .u8 which.toNat), (9, .slice AG27 gsG27.length cG27), (11, .slice AD28 (lenL (gsG27.map (fun g_ : Gp => g_.l))).length cD28), (12, .slice AZ ps.length cZ), (16, .slice AD29 (outsJ gsG27 ps).length cD29), (124, .slice AZ ps.length cZ), (125, .int .i64 (ps.length : Int))] ⟨0, List.replicate N [], .slice (some ⟨b123, 0, none⟩) N N, rfl, rfl, xw_w18, hoG27, hogG27, hoD28, hoP, hoD29, ho123, (Dj.symm dj_ho123_hoD29), ⟨⟨by omega, by simp⟩, fun j h_ => by omega⟩⟩ (.cons rfl (.cons rfl (.cons rfl (.cons rfl (.cons rfl (.cons rfl (.cons rfl (.cons rfl (.cons rfl (.cons rfl (.nil))))))))))) ?_
        rintro j20 _ w19 ⟨i, im, vI, rfl, rfl, xw_w19, hoG27, hogG27, hoD28, hoP, hoD29, hoI, dj_hoD29_hoI, ⟨⟨hi, hil⟩, hBL⟩⟩
        refine sc_seq ?_
        refine sc_reg ?_
        refine Go.XK.s (v := .bool (decide ((i : Int) < (ps.length : Int)))) (e_lt rfl rfl) ?_
        refine sl_nil (nrm_k ?_)
        refine sc_seq ?_
        refine sc_ifd rfl (fun c127 => ?_) (fun c127 => ?_)
        ·
          obtain ⟨p, hpp⟩ : ∃ p, ps[i]? = some p := ⟨_, List.getElem?_eq_getElem (by omega)⟩
          obtain ⟨n, hn⟩ : ∃ n, (lenL (gsG27.map (fun g_ : Gp => g_.l)))[i + 1]? = some n := ⟨_, List.getElem?_eq_getElem (by omega)⟩
          obtain ⟨p1, p2, p3, p4⟩ := hPI i p n hpp hn
          have hun := out_len hfit hc0 ps hn
          have hti : ((i : Int) + 1).toNat = i + 1 := by omega
          have hnq : (lenL (gsG27.map (fun g_ : Gp => g_.l)))[((i : Int) + 1).toNat]? = some n := by rw [hti]; exact hn
          have huq : (outsJ gsG27 ps)[((i : Int) + 1).toNat]? = some (outJ (gsG27.map (fun g_ : Gp => g_.l)) ps (i + 1)) := by rw [hti]; exact outs_get (by omega)
          obtain ⟨e0, he0⟩ : ∃ e0, im[p.b.toNat]? = some e0 := ⟨_, List.getElem?_eq_getElem (by omega)⟩
          refine sc_skip (nrm_k ?_)
          refine sc_seq ?_
          refine sc_block ?_
          refine sc_seq ?_
          refine sc_reg ?_
          refine Go.XK.s (v := .int .i64 (i : Int)) (e_move rfl) ?_
          refine Go.XK.s (v := .pointer (some (el (ownA (.slice AZ ps.length cZ)) 2 (i : Int) 0))) (e_idxOwn (x0 := p) Try.underlying51 Try.sizeOf53 rfl rfl hoP (fun _ => rfl) hpp (by omega)) ?_
          refine Go.XK.s (v := .agg #[.int .i64 p.b, .int .i64 p.o]) (e_ldElA (xs := ps) (enc := encPl) (e := p) rfl (Go.XK.Own.rd hoP (fun _ => rfl)) hpp Try.isAgg53 Try.sizeOf53 rfl) ?_
          refine s_alloc (cs := [.int .i64 0, .int .i64 0]) Try.zeroValue53 rfl ?_
          intro b19 w21 hb19 he19 hs19 hx19
          have no_b19_hoG27 : Value.ownBlock (.slice AG27 gsG27.length cG27) ≠ some b19 := fun h_ => by have h2_ := (Go.XK.Own.lt hoG27 _ h_).2; omega
          have no_b19_hoD28 : Value.ownBlock (.slice AD28 ((lenL (gsG27.map (fun g_ : Gp => g_.l))).length) cD28) ≠ some b19 := fun h_ => by have h2_ := (Go.XK.Own.lt hoD28 _ h_).2; omega
          have no_b19_hoP : Value.ownBlock (.slice AZ ps.length cZ) ≠ some b19 := fun h_ => by have h2_ := (Go.XK.Own.lt hoP _ h_).2; omega
          have no_b19_hoD29 : Value.ownBlock (.slice AD29 ((outsJ gsG27 ps).length) cD29) ≠ some b19 := fun h_ => by have h2_ := (Go.XK.Own.lt hoD29 _ h_).2; omega
          have no_b19_hoI : Value.ownBlock vI ≠ some b19 := fun h_ => by have h2_ := (Go.XK.Own.lt hoI _ h_).2; omega
          have ge_b19 : w.heap.size ≤ b19 := by have h_ := (Below.size xw_w19); omega
          have xw_w21 : Ext w w21 := Ext.tr xw_w19 hx19
          replace hoG27 := hoG27.ext hx19
          replace hogG27 := hogG27.ext hx19
          replace hoD28 := hoD28.ext hx19
          replace hoP := hoP.ext hx19
          replace hoD29 := hoD29.ext hx19
          replace hoI := hoI.ext hx19
          refine Go.XK.s (v := .int .i64 (i : Int)) (e_assign rfl) ?_
          refine su_blkV [.int .i64 p.b, .int .i64 p.o] [.int .i64 p.b, .int .i64 p.o] rfl rfl hb19 rfl Try.sizeOf53 (Nat.le_of_ble_eq_true rfl) rfl rfl ?_
          intro w22 hn_ hm_w22 hs_w22
          have ho_ := hb19
          replace hb19 := hn_
          clear hn_
          replace hoG27 := hoG27.mut hm_w22 no_b19_hoG27
          replace hogG27 := hogG27.mut hm_w22 ho_ (by decide)
          replace hoD28 := hoD28.mut hm_w22 no_b19_hoD28
          replace hoP := hoP.mut hm_w22 no_b19_hoP
          replace hoD29 := hoD29.mut hm_w22 no_b19_hoD29
          replace hoI := hoI.mut hm_w22 no_b19_hoI
          have xw_w22 : Ext w w22 := below_mut xw_w21 (Below.size xw_w21) hm_w22 ge_b19
          refine sl_nil (nrm_k ?_)
          refine sc_seq ?_
          refine sc_seq ?_
          refine sc_free [(18, .int .i64 (i : Int)), (19, .pointer (some ⟨b19, 0, none⟩)), (130, .agg #[.int .i64 p.b, .int .i64 p.o]), (129, .pointer (some (el (ownA (.slice AZ ps.length cZ)) 2 (i : Int) 0))), (128, .int .i64 (i : Int)), (127, .bool (decide ((i : Int) < (ps.length : Int)))), (126, .int .i64 (i : Int)), (17, vI), (0, .slice A l.length c), (3, .int .u8 which.toNat), (9, .slice AG27 gsG27.length cG27), (11, .slice AD28 (lenL (gsG27.map (fun g_ : Gp => g_.l))).length cD28), (12, .slice AZ ps.length cZ), (16, .slice AD29 (outsJ gsG27 ps).length cD29), (124, .slice AZ ps.length cZ), (125, .int .i64 (ps.length : Int))] [131, 132, 133, 134, 135, 136, 137, 138, 139, 140, 141, 142] [(Is (.slice AD29 (outsJ gsG27 ps).length cD29)), (Is (.int .i64 (i : Int))), (Is (.int .i64 ((i : Int) + 1))), (Is (.pointer (some (el (ownA (.slice AD29 (outsJ gsG27 ps).length cD29)) 1 ((i : Int) + 1) 0)))), (Is (.string (B (outJ (gsG27.map (fun g_ : Gp => g_.l)) ps (i + 1))))), (Is (.int .i64 ((outJ (gsG27.map (fun g_ : Gp => g_.l)) ps (i + 1)).length : Int))), (Is (.slice AD28 (lenL (gsG27.map (fun g_ : Gp => g_.l))).length cD28)), (Is (.int .i64 (i : Int))), (Is (.int .i64 ((i : Int) + 1))), (Is (.pointer (some (el (ownA (.slice AD28 (lenL (gsG27.map (fun g_ : Gp => g_.l))).length cD28)) 1 ((i : Int) + 1) 0)))), (Is (.int .i64 n)), (Is (.bool (decide (((outJ (gsG27.map (fun g_ : Gp => g_.l)) ps (i + 1)).length : Int) ≠ n))))] [] (by kernel_rfl) (Sub.refl _) (by kernel_rfl) (by kernel_rfl) (by kernel_rfl) rfl (by kernel_rfl) (ds_ext (Stays.spec (.is _ (.is _ (.is _ (.is _ (.is _ (.is _ (.is _ (.is _ (.is _ (.is _ (.is _ (.is _ (.nil))))))))))))))) ⟨?_, ?_, ?_, ?_, ?_, ?_, ?_, ?_, ?_, ?_, ?_, ?_, trivial⟩ ?_
          · intro Q act_ wI hxI ha hp
            have xw_wI : Ext w wI := Ext.tr xw_w22 hxI
            replace hb19 := hb19.ext hxI
            replace hoG27 := hoG27.ext hxI
            replace hogG27 := hogG27.ext hxI
            replace hoD28 := hoD28.ext hxI
            replace hoP := hoP.ext hxI
            replace hoD29 := hoD29.ext hxI
            replace hoI := hoI.ext hxI
            exact h_evA (v := .slice AD29 (outsJ gsG27 ps).length cD29) ha rfl (e_move rfl) rfl rfl (Ext.rfl' _)
          · intro Q act_ wI hxI ha hp
            have xw_wI : Ext w wI := Ext.tr xw_w22 hxI
            replace hb19 := hb19.ext hxI
            replace hoG27 := hoG27.ext hxI
            replace hogG27 := hogG27.ext hxI
            replace hoD28 := hoD28.ext hxI
            replace hoP := hoP.ext hxI
            replace hoD29 := hoD29.ext hxI
            replace hoI := hoI.ext hxI
            exact h_evA (v := .int .i64 (i : Int)) ha rfl (e_move rfl) rfl rfl (Ext.rfl' _)
          · intro Q act_ wI hxI ha hp
            have xw_wI : Ext w wI := Ext.tr xw_w22 hxI
            replace hb19 := hb19.ext hxI
            replace hoG27 := hoG27.ext hxI
            replace hogG27 := hogG27.ext hxI
            replace hoD28 := hoD28.ext hxI
            replace hoP := hoP.ext hxI
            replace hoD29 := hoD29.ext hxI
            replace hoI := hoI.ext hxI
            have ha := ha.add (show act_.tmps.getD 132 undef = .int .i64 (i : Int) from hp 1 (by kernel_rfl) (by decide))
            exact h_evA (v := .int .i64 ((i : Int) + 1)) ha rfl (e_add rfl rfl (by omega)) rfl rfl (Ext.rfl' _)
          · intro Q act_ wI hxI ha hp
            have xw_wI : Ext w wI := Ext.tr xw_w22 hxI
            replace hb19 := hb19.ext hxI
            replace hoG27 := hoG27.ext hxI
            replace hogG27 := hogG27.ext hxI
            replace hoD28 := hoD28.ext hxI
            replace hoP := hoP.ext hxI
            replace hoD29 := hoD29.ext hxI
            replace hoI := hoI.ext hxI
            have ha := ha.add (show act_.tmps.getD 131 undef = .slice AD29 (outsJ gsG27 ps).length cD29 from hp 0 (by kernel_rfl) (by decide))
            have ha := ha.add (show act_.tmps.getD 133 undef = .int .i64 ((i : Int) + 1) from hp 2 (by kernel_rfl) (by decide))
            exact h_evA (v := .pointer (some (el (ownA (.slice AD29 (outsJ gsG27 ps).length cD29)) 1 ((i : Int) + 1) 0))) ha rfl (e_idxOwn (x0 := (outJ (gsG27.map (fun g_ : Gp => g_.l)) ps (i + 1))) Try.underlying48 Try.sizeOf9 rfl rfl hoD29 (fun _ => rfl) huq (by omega)) rfl rfl (Ext.rfl' _)
          · intro Q act_ wI hxI ha hp
            have xw_wI : Ext w wI := Ext.tr xw_w22 hxI
            replace hb19 := hb19.ext hxI
            replace hoG27 := hoG27.ext hxI
            replace hogG27 := hogG27.ext hxI
            replace hoD28 := hoD28.ext hxI
            replace hoP := hoP.ext hxI
            replace hoD29 := hoD29.ext hxI
            replace hoI := hoI.ext hxI
            have ha := ha.add (show act_.tmps.getD 134 undef = .pointer (some (el (ownA (.slice AD29 (outsJ gsG27 ps).length cD29)) 1 ((i : Int) + 1) 0)) from hp 3 (by kernel_rfl) (by decide))
            exact h_evA (v := .string (B (outJ (gsG27.map (fun g_ : Gp => g_.l)) ps (i + 1)))) ha rfl (e_ldEl (xs := outsJ gsG27 ps) (enc := encS) (e := (outJ (gsG27.map (fun g_ : Gp => g_.l)) ps (i + 1))) rfl (Go.XK.Own.rd hoD29 (fun _ => rfl)) huq Try.isAgg9 rfl) rfl rfl (Ext.rfl' _)
          · intro Q act_ wI hxI ha hp
            have xw_wI : Ext w wI := Ext.tr xw_w22 hxI
            replace hb19 := hb19.ext hxI
            replace hoG27 := hoG27.ext hxI
            replace hogG27 := hogG27.ext hxI
            replace hoD28 := hoD28.ext hxI
            replace hoP := hoP.ext hxI
            replace hoD29 := hoD29.ext hxI
            replace hoI := hoI.ext hxI
            have ha := ha.add (show act_.tmps.getD 135 undef = .string (B (outJ (gsG27.map (fun g_ : Gp => g_.l)) ps (i + 1))) from hp 4 (by kernel_rfl) (by decide))
            exact h_evA (v := .int .i64 ((outJ (gsG27.map (fun g_ : Gp => g_.l)) ps (i + 1)).length : Int)) ha rfl (e_slen Try.underlying9 rfl) rfl rfl (Ext.rfl' _)
          · intro Q act_ wI hxI ha hp
            have xw_wI : Ext w wI := Ext.tr xw_w22 hxI
            replace hb19 := hb19.ext hxI
            replace hoG27 := hoG27.ext hxI
            replace hogG27 := hogG27.ext hxI
            replace hoD28 := hoD28.ext hxI
            replace hoP := hoP.ext hxI
            replace hoD29 := hoD29.ext hxI
            replace hoI := hoI.ext hxI
            exact h_evA (v := .slice AD28 (lenL (gsG27.map (fun g_ : Gp => g_.l))).length cD28) ha rfl (e_move rfl) rfl rfl (Ext.rfl' _)
          · intro Q act_ wI hxI ha hp
            have xw_wI : Ext w wI := Ext.tr xw_w22 hxI
            replace hb19 := hb19.ext hxI
            replace hoG27 := hoG27.ext hxI
            replace hogG27 := hogG27.ext hxI
            replace hoD28 := hoD28.ext hxI
            replace hoP := hoP.ext hxI
            replace hoD29 := hoD29.ext hxI
            replace hoI := hoI.ext hxI
            exact h_evA (v := .int .i64 (i : Int)) ha rfl (e_move rfl) rfl rfl (Ext.rfl' _)
          · intro Q act_ wI hxI ha hp
            have xw_wI : Ext w wI := Ext.tr xw_w22 hxI
            replace hb19 := hb19.ext hxI
            replace hoG27 := hoG27.ext hxI
            replace hogG27 := hogG27.ext hxI
            replace hoD28 := hoD28.ext hxI
            replace hoP := hoP.ext hxI
            replace hoD29 := hoD29.ext hxI
            replace hoI := hoI.ext hxI
            have ha := ha.add (show act_.tmps.getD 138 undef = .int .i64 (i : Int) from hp 7 (by kernel_rfl) (by decide))
            exact h_evA (v := .int .i64 ((i : Int) + 1)) ha rfl (e_add rfl rfl (by omega)) rfl rfl (Ext.rfl' _)
          · intro Q act_ wI hxI ha hp
            have xw_wI : Ext w wI := Ext.tr xw_w22 hxI
            replace hb19 := hb19.ext hxI
            replace hoG27 := hoG27.ext hxI
            replace hogG27 := hogG27.ext hxI
            replace hoD28 := hoD28.ext hxI
            replace hoP := hoP.ext hxI
            replace hoD29 := hoD29.ext hxI
            replace hoI := hoI.ext hxI
            have ha := ha.add (show act_.tmps.getD 137 undef = .slice AD28 (lenL (gsG27.map (fun g_ : Gp => g_.l))).length cD28 from hp 6 (by kernel_rfl) (by decide))
            have ha := ha.add (show act_.tmps.getD 139 undef = .int .i64 ((i : Int) + 1) from hp 8 (by kernel_rfl) (by decide))
            exact h_evA (v := .pointer (some (el (ownA (.slice AD28 (lenL (gsG27.map (fun g_ : Gp => g_.l))).length cD28)) 1 ((i : Int) + 1) 0))) ha rfl (e_idxOwn (x0 := n) Try.underlying38 Try.sizeOf3 rfl rfl hoD28 (fun _ => rfl) hnq (by omega)) rfl rfl (Ext.rfl' _)
          · intro Q act_ wI hxI ha hp
            have xw_wI : Ext w wI := Ext.tr xw_w22 hxI
            replace hb19 := hb19.ext hxI
            replace hoG27 := hoG27.ext hxI
            replace hogG27 := hogG27.ext hxI
            replace hoD28 := hoD28.ext hxI
            replace hoP := hoP.ext hxI
            replace hoD29 := hoD29.ext hxI
            replace hoI := hoI.ext hxI
            have ha := ha.add (show act_.tmps.getD 140 undef = .pointer (some (el (ownA (.slice AD28 (lenL (gsG27.map (fun g_ : Gp => g_.l))).length cD28)) 1 ((i : Int) + 1) 0)) from hp 9 (by kernel_rfl) (by decide))
            exact h_evA (v := .int .i64 n) ha rfl (e_ldEl (xs := lenL (gsG27.map (fun g_ : Gp => g_.l))) (enc := encI) (e := n) rfl (Go.XK.Own.rd hoD28 (fun _ => rfl)) hnq Try.isAgg3 rfl) rfl rfl (Ext.rfl' _)
          · intro Q act_ wI hxI ha hp
            have xw_wI : Ext w wI := Ext.tr xw_w22 hxI
            replace hb19 := hb19.ext hxI
            replace hoG27 := hoG27.ext hxI
            replace hogG27 := hogG27.ext hxI
            replace hoD28 := hoD28.ext hxI
            replace hoP := hoP.ext hxI
            replace hoD29 := hoD29.ext hxI
            replace hoI := hoI.ext hxI
            have ha := ha.add (show act_.tmps.getD 136 undef = .int .i64 ((outJ (gsG27.map (fun g_ : Gp => g_.l)) ps (i + 1)).length : Int) from hp 5 (by kernel_rfl) (by decide))
            have ha := ha.add (show act_.tmps.getD 141 undef = .int .i64 n from hp 10 (by kernel_rfl) (by decide))
            exact h_evA (v := .bool (decide (((outJ (gsG27.map (fun g_ : Gp => g_.l)) ps (i + 1)).length : Int) ≠ n))) ha rfl (e_ne rfl rfl) rfl rfl (Ext.rfl' _)
          intro vs_ w23 hx_w23 hvs act_ ha hv
          have xw_w23 : Ext w w23 := Ext.tr xw_w22 hx_w23
          replace hb19 := hb19.ext hx_w23
          replace hoG27 := hoG27.ext hx_w23
          replace hogG27 := hogG27.ext hx_w23
          replace hoD28 := hoD28.ext hx_w23
          replace hoP := hoP.ext hx_w23
          replace hoD29 := hoD29.ext hx_w23
          replace hoI := hoI.ext hx_w23
          have ha := ha.add ((hv 11 (by decide)).trans (show vs_ 11 = .bool (decide (((outJ (gsG27.map (fun g_ : Gp => g_.l)) ps (i + 1)).length : Int) ≠ n)) from hvs 11 (by decide)))
          refine st_go ha ?_
          clear ha hv hvs
          refine st_nil (nrm_k ?_)
          refine sc_no rfl (by exact decide_eq_false (by omega)) ?_
          refine sc_skip (nrm_k ?_)
          refine sc_free [(142, .bool (decide (((outJ (gsG27.map (fun g_ : Gp => g_.l)) ps (i + 1)).length : Int) ≠ n))), (18, .int .i64 (i : Int)), (19, .pointer (some ⟨b19, 0, none⟩)), (130, .agg #[.int .i64 p.b, .int .i64 p.o]), (129, .pointer (some (el (ownA (.slice AZ ps.length cZ)) 2 (i : Int) 0))), (128, .int .i64 (i : Int)), (127, .bool (decide ((i : Int) < (ps.length : Int)))), (126, .int .i64 (i : Int)), (17, vI), (0, .slice A l.length c), (3, .int .u8 which.toNat), (9, .slice AG27 gsG27.length cG27), (11, .slice AD28 (lenL (gsG27.map (fun g_ : Gp => g_.l))).length cD28), (12, .slice AZ ps.length cZ), (16, .slice AD29 (outsJ gsG27 ps).length cD29), (124, .slice AZ ps.length cZ), (125, .int .i64 (ps.length : Int))] [143, 144, 145, 146, 147, 148, 149, 150, 151, 152, 153, 154, 155, 156, 157, 158, 159, 160, 161, 162, 163, 164, 165, 166, 167] [(Is (vI)), (Is (.pointer (some ⟨b19, 0, none⟩))), (Is (.int .i64 p.b)), (Is (.pointer (some ⟨b19, 1, none⟩))), (Is (.int .i64 p.o)), (Is (.string (B (Lib.repeatL [33] p.o.toNat)))), (Is (.slice AD29 (outsJ gsG27 ps).length cD29)), (Is (.int .i64 (i : Int))), (Is (.int .i64 ((i : Int) + 1))), (Is (.pointer (some (el (ownA (.slice AD29 (outsJ gsG27 ps).length cD29)) 1 ((i : Int) + 1) 0)))), (Is (.string (B (outJ (gsG27.map (fun g_ : Gp => g_.l)) ps (i + 1))))), (Is (.string (B ((Lib.repeatL [33] p.o.toNat) ++ (outJ (gsG27.map (fun g_ : Gp => g_.l)) ps (i + 1)))))), (Is (.pointer (some ⟨b19, 1, none⟩))), (Is (.int .i64 p.o)), (Is (.int .i64 ((2048 : Int) - p.o))), (Is (.slice AD29 (outsJ gsG27 ps).length cD29)), (Is (.int .i64 (i : Int))), (Is (.int .i64 ((i : Int) + 1))), (Is (.pointer (some (el (ownA (.slice AD29 (outsJ gsG27 ps).length cD29)) 1 ((i : Int) + 1) 0)))), (Is (.string (B (outJ (gsG27.map (fun g_ : Gp => g_.l)) ps (i + 1))))), (Is (.int .i64 ((outJ (gsG27.map (fun g_ : Gp => g_.l)) ps (i + 1)).length : Int))), (Is (.int .i64 (((2048 : Int) - p.o) - ((outJ (gsG27.map (fun g_ : Gp => g_.l)) ps (i + 1)).length : Int)))), (Is (.string (B (Lib.repeatL [63] (((2048 : Int) - p.o) - ((outJ (gsG27.map (fun g_ : Gp => g_.l)) ps (i + 1)).length : Int)).toNat)))), (Is (.string (B (((Lib.repeatL [33] p.o.toNat) ++ (outJ (gsG27.map (fun g_ : Gp => g_.l)) ps (i + 1))) ++ (Lib.repeatL [63] (((2048 : Int) - p.o) - ((outJ (gsG27.map (fun g_ : Gp => g_.l)) ps (i + 1)).length : Int)).toNat))))), (Is (.pointer (some (el (ownA vI) 1 p.b 0))))] [25] (by kernel_rfl) (Sub.refl _) (by kernel_rfl) (by kernel_rfl) (by kernel_rfl) rfl (by kernel_rfl) (ds_ext (Stays.spec (.is _ (.is _ (.is _ (.is _ (.is _ (.is _ (.is _ (.is _ (.is _ (.is _ (.is _ (.is _ (.is _ (.is _ (.is _ (.is _ (.is _ (.is _ (.is _ (.is _ (.is _ (.is _ (.is _ (.is _ (.is _ (.nil)))))))))))))))))))))))))))) ⟨?_, ?_, ?_, ?_, ?_, ?_, ?_, ?_, ?_, ?_, ?_, ?_, ?_, ?_, ?_, ?_, ?_, ?_, ?_, ?_, ?_, ?_, ?_, ?_, ?_, trivial⟩ ?_
          · intro Q act_ wI hxI ha hp
            have xw_wI : Ext w wI := Ext.tr xw_w23 hxI
            replace hb19 := hb19.ext hxI
            replace hoG27 := hoG27.ext hxI
            replace hogG27 := hogG27.ext hxI
            replace hoD28 := hoD28.ext hxI
            replace hoP := hoP.ext hxI
            replace hoD29 := hoD29.ext hxI
            replace hoI := hoI.ext hxI
            exact h_evA (v := vI) ha rfl (e_move rfl) rfl rfl (Ext.rfl' _)
          · intro Q act_ wI hxI ha hp
            have xw_wI : Ext w wI := Ext.tr xw_w23 hxI
            replace hb19 := hb19.ext hxI
            replace hoG27 := hoG27.ext hxI
            replace hogG27 := hogG27.ext hxI
            replace hoD28 := hoD28.ext hxI
            replace hoP := hoP.ext hxI
            replace hoD29 := hoD29.ext hxI
            replace hoI := hoI.ext hxI
            exact h_evA (v := .pointer (some ⟨b19, 0, none⟩)) ha rfl (e_fieldB (sz := 1) Try.underlying53 rfl Try.sizeOf3 (by decide) rfl rfl) rfl rfl (Ext.rfl' _)
          · intro Q act_ wI hxI ha hp
            have xw_wI : Ext w wI := Ext.tr xw_w23 hxI
            replace hb19 := hb19.ext hxI
            replace hoG27 := hoG27.ext hxI
            replace hogG27 := hogG27.ext hxI
            replace hoD28 := hoD28.ext hxI
            replace hoP := hoP.ext hxI
            replace hoD29 := hoD29.ext hxI
            replace hoI := hoI.ext hxI
            have ha := ha.add (show act_.tmps.getD 144 undef = .pointer (some ⟨b19, 0, none⟩) from hp 1 (by kernel_rfl) (by decide))
            exact h_evA (v := .int .i64 p.b) ha rfl (e_load rfl (load1 Try.isAgg3 (hb19.cell (j := 0) rfl))) rfl rfl (Ext.rfl' _)
          · intro Q act_ wI hxI ha hp
            have xw_wI : Ext w wI := Ext.tr xw_w23 hxI
            replace hb19 := hb19.ext hxI
            replace hoG27 := hoG27.ext hxI
            replace hogG27 := hogG27.ext hxI
            replace hoD28 := hoD28.ext hxI
            replace hoP := hoP.ext hxI
            replace hoD29 := hoD29.ext hxI
            replace hoI := hoI.ext hxI
            exact h_evA (v := .pointer (some ⟨b19, 1, none⟩)) ha rfl (e_fieldB (sz := 1) Try.underlying53 rfl Try.sizeOf3 (by decide) rfl rfl) rfl rfl (Ext.rfl' _)
          · intro Q act_ wI hxI ha hp
            have xw_wI : Ext w wI := Ext.tr xw_w23 hxI
            replace hb19 := hb19.ext hxI
            replace hoG27 := hoG27.ext hxI
            replace hogG27 := hogG27.ext hxI
            replace hoD28 := hoD28.ext hxI
            replace hoP := hoP.ext hxI
            replace hoD29 := hoD29.ext hxI
            replace hoI := hoI.ext hxI
            have ha := ha.add (show act_.tmps.getD 146 undef = .pointer (some ⟨b19, 1, none⟩) from hp 3 (by kernel_rfl) (by decide))
            exact h_evA (v := .int .i64 p.o) ha rfl (e_load rfl (load1 Try.isAgg3 (hb19.cell (j := 1) rfl))) rfl rfl (Ext.rfl' _)
          · intro Q act_ wI hxI ha hp
            have xw_wI : Ext w wI := Ext.tr xw_w23 hxI
            replace hb19 := hb19.ext hxI
            replace hoG27 := hoG27.ext hxI
            replace hogG27 := hogG27.ext hxI
            replace hoD28 := hoD28.ext hxI
            replace hoP := hoP.ext hxI
            replace hoD29 := hoD29.ext hxI
            replace hoI := hoI.ext hxI
            have ha := ha.add (show act_.tmps.getD 147 undef = .int .i64 p.o from hp 4 (by kernel_rfl) (by decide))
            exact h_callA ha ent34 rfl rfl rfl (rep_i 33 p.o wI (by omega) (by omega)) rfl (by rintro _ w1 ⟨rfl, hR⟩; exact ⟨rfl, hR⟩)
          · intro Q act_ wI hxI ha hp
            have xw_wI : Ext w wI := Ext.tr xw_w23 hxI
            replace hb19 := hb19.ext hxI
            replace hoG27 := hoG27.ext hxI
            replace hogG27 := hogG27.ext hxI
            replace hoD28 := hoD28.ext hxI
            replace hoP := hoP.ext hxI
            replace hoD29 := hoD29.ext hxI
            replace hoI := hoI.ext hxI
            exact h_evA (v := .slice AD29 (outsJ gsG27 ps).length cD29) ha rfl (e_move rfl) rfl rfl (Ext.rfl' _)
          · intro Q act_ wI hxI ha hp
            have xw_wI : Ext w wI := Ext.tr xw_w23 hxI
            replace hb19 := hb19.ext hxI
            replace hoG27 := hoG27.ext hxI
            replace hogG27 := hogG27.ext hxI
            replace hoD28 := hoD28.ext hxI
            replace hoP := hoP.ext hxI
            replace hoD29 := hoD29.ext hxI
            replace hoI := hoI.ext hxI
            exact h_evA (v := .int .i64 (i : Int)) ha rfl (e_move rfl) rfl rfl (Ext.rfl' _)
          · intro Q act_ wI hxI ha hp
            have xw_wI : Ext w wI := Ext.tr xw_w23 hxI
            replace hb19 := hb19.ext hxI
            replace hoG27 := hoG27.ext hxI
            replace hogG27 := hogG27.ext hxI
            replace hoD28 := hoD28.ext hxI
            replace hoP := hoP.ext hxI
            replace hoD29 := hoD29.ext hxI
            replace hoI := hoI.ext hxI
            have ha := ha.add (show act_.tmps.getD 150 undef = .int .i64 (i : Int) from hp 7 (by kernel_rfl) (by decide))
            exact h_evA (v := .int .i64 ((i : Int) + 1)) ha rfl (e_add rfl rfl (by omega)) rfl rfl (Ext.rfl' _)
          · intro Q act_ wI hxI ha hp
            have xw_wI : Ext w wI := Ext.tr xw_w23 hxI
            replace hb19 := hb19.ext hxI
            replace hoG27 := hoG27.ext hxI
            replace hogG27 := hogG27.ext hxI
            replace hoD28 := hoD28.ext hxI
            replace hoP := hoP.ext hxI
            replace hoD29 := hoD29.ext hxI
            replace hoI := hoI.ext hxI
            have ha := ha.add (show act_.tmps.getD 149 undef = .slice AD29 (outsJ gsG27 ps).length cD29 from hp 6 (by kernel_rfl) (by decide))
            have ha := ha.add (show act_.tmps.getD 151 undef = .int .i64 ((i : Int) + 1) from hp 8 (by kernel_rfl) (by decide))
            exact h_evA (v := .pointer (some (el (ownA (.slice AD29 (outsJ gsG27 ps).length cD29)) 1 ((i : Int) + 1) 0))) ha rfl (e_idxOwn (x0 := (outJ (gsG27.map (fun g_ : Gp => g_.l)) ps (i + 1))) Try.underlying48 Try.sizeOf9 rfl rfl hoD29 (fun _ => rfl) huq (by omega)) rfl rfl (Ext.rfl' _)
          · intro Q act_ wI hxI ha hp
            have xw_wI : Ext w wI := Ext.tr xw_w23 hxI
            replace hb19 := hb19.ext hxI
            replace hoG27 := hoG27.ext hxI
            replace hogG27 := hogG27.ext hxI
            replace hoD28 := hoD28.ext hxI
            replace hoP := hoP.ext hxI
            replace hoD29 := hoD29.ext hxI
            replace hoI := hoI.ext hxI
            have ha := ha.add (show act_.tmps.getD 152 undef = .pointer (some (el (ownA (.slice AD29 (outsJ gsG27 ps).length cD29)) 1 ((i : Int) + 1) 0)) from hp 9 (by kernel_rfl) (by decide))
            exact h_evA (v := .string (B (outJ (gsG27.map (fun g_ : Gp => g_.l)) ps (i + 1)))) ha rfl (e_ldEl (xs := outsJ gsG27 ps) (enc := encS) (e := (outJ (gsG27.map (fun g_ : Gp => g_.l)) ps (i + 1))) rfl (Go.XK.Own.rd hoD29 (fun _ => rfl)) huq Try.isAgg9 rfl) rfl rfl (Ext.rfl' _)
          · intro Q act_ wI hxI ha hp
            have xw_wI : Ext w wI := Ext.tr xw_w23 hxI
            replace hb19 := hb19.ext hxI
            replace hoG27 := hoG27.ext hxI
            replace hogG27 := hogG27.ext hxI
            replace hoD28 := hoD28.ext hxI
            replace hoP := hoP.ext hxI
            replace hoD29 := hoD29.ext hxI
            replace hoI := hoI.ext hxI
            have ha := ha.add (show act_.tmps.getD 148 undef = .string (B (Lib.repeatL [33] p.o.toNat)) from hp 5 (by kernel_rfl) (by decide))
            have ha := ha.add (show act_.tmps.getD 153 undef = .string (B (outJ (gsG27.map (fun g_ : Gp => g_.l)) ps (i + 1))) from hp 10 (by kernel_rfl) (by decide))
            exact h_evA (v := .string (B ((Lib.repeatL [33] p.o.toNat) ++ (outJ (gsG27.map (fun g_ : Gp => g_.l)) ps (i + 1))))) ha rfl (e_sadd rfl rfl (by first | omega | (simp only [maxLen, List.length_append, repL1_length]; omega))) rfl rfl (Ext.rfl' _)
          · intro Q act_ wI hxI ha hp
            have xw_wI : Ext w wI := Ext.tr xw_w23 hxI
            replace hb19 := hb19.ext hxI
            replace hoG27 := hoG27.ext hxI
            replace hogG27 := hogG27.ext hxI
            replace hoD28 := hoD28.ext hxI
            replace hoP := hoP.ext hxI
            replace hoD29 := hoD29.ext hxI
            replace hoI := hoI.ext hxI
            exact h_evA (v := .pointer (some ⟨b19, 1, none⟩)) ha rfl (e_fieldB (sz := 1) Try.underlying53 rfl Try.sizeOf3 (by decide) rfl rfl) rfl rfl (Ext.rfl' _)
          · intro Q act_ wI hxI ha hp
            have xw_wI : Ext w wI := Ext.tr xw_w23 hxI
            replace hb19 := hb19.ext hxI
            replace hoG27 := hoG27.ext hxI
            replace hogG27 := hogG27.ext hxI
            replace hoD28 := hoD28.ext hxI
            replace hoP := hoP.ext hxI
            replace hoD29 := hoD29.ext hxI
            replace hoI := hoI.ext hxI
            have ha := ha.add (show act_.tmps.getD 155 undef = .pointer (some ⟨b19, 1, none⟩) from hp 12 (by kernel_rfl) (by decide))
            exact h_evA (v := .int .i64 p.o) ha rfl (e_load rfl (load1 Try.isAgg3 (hb19.cell (j := 1) rfl))) rfl rfl (Ext.rfl' _)
          · intro Q act_ wI hxI ha hp
            have xw_wI : Ext w wI := Ext.tr xw_w23 hxI
            replace hb19 := hb19.ext hxI
            replace hoG27 := hoG27.ext hxI
            replace hogG27 := hogG27.ext hxI
            replace hoD28 := hoD28.ext hxI
            replace hoP := hoP.ext hxI
            replace hoD29 := hoD29.ext hxI
            replace hoI := hoI.ext hxI
            have ha := ha.add (show act_.tmps.getD 156 undef = .int .i64 p.o from hp 13 (by kernel_rfl) (by decide))
            exact h_evA (v := .int .i64 ((2048 : Int) - p.o)) ha rfl (e_sub rfl rfl (by omega)) rfl rfl (Ext.rfl' _)
          · intro Q act_ wI hxI ha hp
            have xw_wI : Ext w wI := Ext.tr xw_w23 hxI
            replace hb19 := hb19.ext hxI
            replace hoG27 := hoG27.ext hxI
            replace hogG27 := hogG27.ext hxI
            replace hoD28 := hoD28.ext hxI
            replace hoP := hoP.ext hxI
            replace hoD29 := hoD29.ext hxI
            replace hoI := hoI.ext hxI
            exact h_evA (v := .slice AD29 (outsJ gsG27 ps).length cD29) ha rfl (e_move rfl) rfl rfl (Ext.rfl' _)
          · intro Q act_ wI hxI ha hp
            have xw_wI : Ext w wI := Ext.tr xw_w23 hxI
            replace hb19 := hb19.ext hxI
            replace hoG27 := hoG27.ext hxI
            replace hogG27 := hogG27.ext hxI
            replace hoD28 := hoD28.ext hxI
            replace hoP := hoP.ext hxI
            replace hoD29 := hoD29.ext hxI
            replace hoI := hoI.ext hxI
            exact h_evA (v := .int .i64 (i : Int)) ha rfl (e_move rfl) rfl rfl (Ext.rfl' _)
          · intro Q act_ wI hxI ha hp
            have xw_wI : Ext w wI := Ext.tr xw_w23 hxI
            replace hb19 := hb19.ext hxI
            replace hoG27 := hoG27.ext hxI
            replace hogG27 := hogG27.ext hxI
            replace hoD28 := hoD28.ext hxI
            replace hoP := hoP.ext hxI
            replace hoD29 := hoD29.ext hxI
            replace hoI := hoI.ext hxI
            have ha := ha.add (show act_.tmps.getD 159 undef = .int .i64 (i : Int) from hp 16 (by kernel_rfl) (by decide))
            exact h_evA (v := .int .i64 ((i : Int) + 1)) ha rfl (e_add rfl rfl (by omega)) rfl rfl (Ext.rfl' _)
          · intro Q act_ wI hxI ha hp
            have xw_wI : Ext w wI := Ext.tr xw_w23 hxI
            replace hb19 := hb19.ext hxI
            replace hoG27 := hoG27.ext hxI
            replace hogG27 := hogG27.ext hxI
            replace hoD28 := hoD28.ext hxI
            replace hoP := hoP.ext hxI
            replace hoD29 := hoD29.ext hxI
            replace hoI := hoI.ext hxI
            have ha := ha.add (show act_.tmps.getD 158 undef = .slice AD29 (outsJ gsG27 ps).length cD29 from hp 15 (by kernel_rfl) (by decide))
            have ha := ha.add (show act_.tmps.getD 160 undef = .int .i64 ((i : Int) + 1) from hp 17 (by kernel_rfl) (by decide))
            exact h_evA (v := .pointer (some (el (ownA (.slice AD29 (outsJ gsG27 ps).length cD29)) 1 ((i : Int) + 1) 0))) ha rfl (e_idxOwn (x0 := (outJ (gsG27.map (fun g_ : Gp => g_.l)) ps (i + 1))) Try.underlying48 Try.sizeOf9 rfl rfl hoD29 (fun _ => rfl) huq (by omega)) rfl rfl (Ext.rfl' _)
          · intro Q act_ wI hxI ha hp
            have xw_wI : Ext w wI := Ext.tr xw_w23 hxI
            replace hb19 := hb19.ext hxI
            replace hoG27 := hoG27.ext hxI
            replace hogG27 := hogG27.ext hxI
            replace hoD28 := hoD28.ext hxI
            replace hoP := hoP.ext hxI
            replace hoD29 := hoD29.ext hxI
            replace hoI := hoI.ext hxI
            have ha := ha.add (show act_.tmps.getD 161 undef = .pointer (some (el (ownA (.slice AD29 (outsJ gsG27 ps).length cD29)) 1 ((i : Int) + 1) 0)) from hp 18 (by kernel_rfl) (by decide))
            exact h_evA (v := .string (B (outJ (gsG27.map (fun g_ : Gp => g_.l)) ps (i + 1)))) ha rfl (e_ldEl (xs := outsJ gsG27 ps) (enc := encS) (e := (outJ (gsG27.map (fun g_ : Gp => g_.l)) ps (i + 1))) rfl (Go.XK.Own.rd hoD29 (fun _ => rfl)) huq Try.isAgg9 rfl) rfl rfl (Ext.rfl' _)
          · intro Q act_ wI hxI ha hp
            have xw_wI : Ext w wI := Ext.tr xw_w23 hxI
            replace hb19 := hb19.ext hxI
            replace hoG27 := hoG27.ext hxI
            replace hogG27 := hogG27.ext hxI
            replace hoD28 := hoD28.ext hxI
            replace hoP := hoP.ext hxI
            replace hoD29 := hoD29.ext hxI
            replace hoI := hoI.ext hxI
            have ha := ha.add (show act_.tmps.getD 162 undef = .string (B (outJ (gsG27.map (fun g_ : Gp => g_.l)) ps (i + 1))) from hp 19 (by kernel_rfl) (by decide))
            exact h_evA (v := .int .i64 ((outJ (gsG27.map (fun g_ : Gp => g_.l)) ps (i + 1)).length : Int)) ha rfl (e_slen Try.underlying9 rfl) rfl rfl (Ext.rfl' _)
          · intro Q act_ wI hxI ha hp
            have xw_wI : Ext w wI := Ext.tr xw_w23 hxI
            replace hb19 := hb19.ext hxI
            replace hoG27 := hoG27.ext hxI
            replace hogG27 := hogG27.ext hxI
            replace hoD28 := hoD28.ext hxI
            replace hoP := hoP.ext hxI
            replace hoD29 := hoD29.ext hxI
            replace hoI := hoI.ext hxI
            have ha := ha.add (show act_.tmps.getD 157 undef = .int .i64 ((2048 : Int) - p.o) from hp 14 (by kernel_rfl) (by decide))
            have ha := ha.add (show act_.tmps.getD 163 undef = .int .i64 ((outJ (gsG27.map (fun g_ : Gp => g_.l)) ps (i + 1)).length : Int) from hp 20 (by kernel_rfl) (by decide))
            exact h_evA (v := .int .i64 (((2048 : Int) - p.o) - ((outJ (gsG27.map (fun g_ : Gp => g_.l)) ps (i + 1)).length : Int))) ha rfl (e_sub rfl rfl (by omega)) rfl rfl (Ext.rfl' _)
          · intro Q act_ wI hxI ha hp
            have xw_wI : Ext w wI := Ext.tr xw_w23 hxI
            replace hb19 := hb19.ext hxI
            replace hoG27 := hoG27.ext hxI
            replace hogG27 := hogG27.ext hxI
            replace hoD28 := hoD28.ext hxI
            replace hoP := hoP.ext hxI
            replace hoD29 := hoD29.ext hxI
            replace hoI := hoI.ext hxI
            have ha := ha.add (show act_.tmps.getD 164 undef = .int .i64 (((2048 : Int) - p.o) - ((outJ (gsG27.map (fun g_ : Gp => g_.l)) ps (i + 1)).length : Int)) from hp 21 (by kernel_rfl) (by decide))
            exact h_callA ha ent34 rfl rfl rfl (rep_i 63 (((2048 : Int) - p.o) - ((outJ (gsG27.map (fun g_ : Gp => g_.l)) ps (i + 1)).length : Int)) wI (by omega) (by omega)) rfl (by rintro _ w1 ⟨rfl, hR⟩; exact ⟨rfl, hR⟩)
          · intro Q act_ wI hxI ha hp
            have xw_wI : Ext w wI := Ext.tr xw_w23 hxI
            replace hb19 := hb19.ext hxI
            replace hoG27 := hoG27.ext hxI
            replace hogG27 := hogG27.ext hxI
            replace hoD28 := hoD28.ext hxI
            replace hoP := hoP.ext hxI
            replace hoD29 := hoD29.ext hxI
            replace hoI := hoI.ext hxI
            have ha := ha.add (show act_.tmps.getD 154 undef = .string (B ((Lib.repeatL [33] p.o.toNat) ++ (outJ (gsG27.map (fun g_ : Gp => g_.l)) ps (i + 1)))) from hp 11 (by kernel_rfl) (by decide))
            have ha := ha.add (show act_.tmps.getD 165 undef = .string (B (Lib.repeatL [63] (((2048 : Int) - p.o) - ((outJ (gsG27.map (fun g_ : Gp => g_.l)) ps (i + 1)).length : Int)).toNat)) from hp 22 (by kernel_rfl) (by decide))
            exact h_evA (v := .string (B (((Lib.repeatL [33] p.o.toNat) ++ (outJ (gsG27.map (fun g_ : Gp => g_.l)) ps (i + 1))) ++ (Lib.repeatL [63] (((2048 : Int) - p.o) - ((outJ (gsG27.map (fun g_ : Gp => g_.l)) ps (i + 1)).length : Int)).toNat)))) ha rfl (e_sadd rfl rfl (by first | omega | (simp only [maxLen, List.length_append, repL1_length]; omega))) rfl rfl (Ext.rfl' _)
          · intro Q act_ wI hxI ha hp
            have xw_wI : Ext w wI := Ext.tr xw_w23 hxI
            replace hb19 := hb19.ext hxI
            replace hoG27 := hoG27.ext hxI
            replace hogG27 := hogG27.ext hxI
            replace hoD28 := hoD28.ext hxI
            replace hoP := hoP.ext hxI
            replace hoD29 := hoD29.ext hxI
            replace hoI := hoI.ext hxI
            have ha := ha.add (show act_.tmps.getD 143 undef = vI from hp 0 (by kernel_rfl) (by decide))
            have ha := ha.add (show act_.tmps.getD 145 undef = .int .i64 p.b from hp 2 (by kernel_rfl) (by decide))
            exact h_evA (v := .pointer (some (el (ownA vI) 1 p.b 0))) ha rfl (e_idxOwn (x0 := e0) Try.underlying56 Try.sizeOf9 rfl rfl hoI (fun _ => rfl) he0 (by omega)) rfl rfl (Ext.rfl' _)
          intro vs_ w24 hx_w24 hvs act_ ha hv
          have xw_w24 : Ext w w24 := Ext.tr xw_w23 hx_w24
          replace hb19 := hb19.ext hx_w24
          replace hoG27 := hoG27.ext hx_w24
          replace hogG27 := hogG27.ext hx_w24
          replace hoD28 := hoD28.ext hx_w24
          replace hoP := hoP.ext hx_w24
          replace hoD29 := hoD29.ext hx_w24
          replace hoI := hoI.ext hx_w24
          have ha := ha.add ((hv 23 (by decide)).trans (show vs_ 23 = .string (B (((Lib.repeatL [33] p.o.toNat) ++ (outJ (gsG27.map (fun g_ : Gp => g_.l)) ps (i + 1))) ++ (Lib.repeatL [63] (((2048 : Int) - p.o) - ((outJ (gsG27.map (fun g_ : Gp => g_.l)) ps (i + 1)).length : Int)).toNat))) from hvs 23 (by decide)))
          have ha := ha.add ((hv 24 (by decide)).trans (show vs_ 24 = .pointer (some (el (ownA vI) 1 p.b 0)) from hvs 24 (by decide)))
          refine st_go ha ?_
          clear ha hv hvs
          refine st_ownSet (w0 := w) (x0 := e0) (v := vI) (((Lib.repeatL [33] p.o.toNat) ++ (outJ (gsG27.map (fun g_ : Gp => g_.l)) ps (i + 1))) ++ (Lib.repeatL [63] (((2048 : Int) - p.o) - ((outJ (gsG27.map (fun g_ : Gp => g_.l)) ps (i + 1)).length : Int)).toNat)) rfl rfl rfl hoI xw_w24 (fun _ => rfl) he0 (by decide) rfl rfl Try.sizeOf9 rfl ?_
          intro w25 hn_ xw_w25 hg_w25
          have ho_ := hoI
          replace hb19 := hb19.grown hg_w25 (Own.ne ho_ hb19 (by decide))
          replace hoG27 := Go.XK.Own.other hoG27 ho_ hg_w25 (by decide)
          replace hogG27 := OwG.other hogG27 ho_ hg_w25 (by decide)
          replace hoD28 := Go.XK.Own.other hoD28 ho_ hg_w25 (by decide)
          replace hoP := Go.XK.Own.other hoP ho_ hg_w25 (by decide)
          replace hoD29 := Own.dj hoD29 (Dj.symm dj_hoD29_hoI) hg_w25
          replace hoI := hn_
          clear hn_ ho_
          refine st_nil (nrm_k ?_)
          refine sc_reg ?_
          refine Go.XK.s (v := .int .i64 ((i : Int) + 1)) (e_add rfl rfl (by omega)) ?_
          refine Go.XK.s (v := .int .i64 ((i : Int) + 1)) (e_move rfl) ?_
          refine sl_nil ?_
          exact nrm_loopq rfl _ _ (by omega) ⟨i + 1, im.set p.b.toNat (((Lib.repeatL [33] p.o.toNat) ++ (outJ (gsG27.map (fun g_ : Gp => g_.l)) ps (i + 1))) ++ (Lib.repeatL [63] (((2048 : Int) - p.o) - ((outJ (gsG27.map (fun g_ : Gp => g_.l)) ps (i + 1)).length : Int)).toNat)), vI, rfl, rfl, xw_w25, hoG27, hogG27, hoD28, hoP, hoD29, hoI, dj_hoD29_hoI, ⟨⟨by omega, by rw [List.length_set]; exact hil⟩, blk_set hBL hpp p1 p2 hun p4 (by omega)⟩⟩ (.cons rfl (.cons rfl (.cons rfl (.cons rfl (.cons rfl (.cons rfl (.cons rfl (.cons rfl (.cons rfl (.cons rfl (.nil)))))))))))
        ·
          have hie : i = ps.length := by omega
          rw [hie] at hBL
          refine sc_exit rfl (nrm_k ?_)
          refine sc_seq ?_
          obtain ⟨AI, cI, eI_, hlcI, hcmI, _⟩ := Go.XK.Own.shape hoI (fun _ => rfl)
          subst eI_
          refine sc_reg ?_
          refine Go.XK.s (v := .slice AI im.length cI) (e_move rfl) ?_
          refine Go.XK.s (v := .slice AD29 (outsJ gsG27 ps).length cD29) (e_move rfl) ?_
          refine Go.XK.s (v := .pointer (some (el (ownA (.slice AD29 (outsJ gsG27 ps).length cD29)) 1 0 0))) (e_idxOwn (x0 := (outJ (gsG27.map (fun g_ : Gp => g_.l)) ps 0)) Try.underlying48 Try.sizeOf9 rfl rfl hoD29 (fun _ => rfl) (outs_get hgp) (by omega)) ?_
          refine Go.XK.s (v := .string (B (outJ (gsG27.map (fun g_ : Gp => g_.l)) ps 0))) (e_ldEl (xs := outsJ gsG27 ps) (enc := encS) (e := (outJ (gsG27.map (fun g_ : Gp => g_.l)) ps 0)) rfl (Go.XK.Own.rd hoD29 (fun _ => rfl)) (outs_get hgp) Try.isAgg9 rfl) ?_
          refine sl_call ent35 rfl rfl (walk_j _ _ _ _ _ _ _ w19 (Go.XK.Own.slr hoI (fun _ => rfl)) hfit hc0 hlk hP h64 (img_all hBL hpl1) (by omega) (by omega)) (by decide) ?_
          rintro _ w26 ⟨vD30, rfl, hoD30, hw26⟩
          replace hoD30 := Own.low hoD30 (Below.size xw_w19)
          have xw_w26 : Ext w w26 := Ext.tr xw_w19 hw26
          replace hoG27 := hoG27.ext hw26
          replace hogG27 := hogG27.ext hw26
          replace hoD28 := hoD28.ext hw26
          replace hoP := hoP.ext hw26
          replace hoD29 := hoD29.ext hw26
          replace hoI := hoI.ext hw26
          obtain ⟨AD30, cD30, eD30_, hlcD30, hcmD30, _⟩ := Go.XK.Own.shape hoD30 (fun _ => rfl)
          subst eD30_
          refine Go.XK.s (v := .tuple #[.slice AD30 l.length cD30, .int .i64 0, .int .i64 0]) (e_move rfl) ?_
          refine Go.XK.s (v := .slice AD30 l.length cD30) (e_extract (vs := [.slice AD30 l.length cD30, .int .i64 0, .int .i64 0]) rfl rfl) ?_
          refine Go.XK.s (v := .int .i64 0) (e_extract (vs := [.slice AD30 l.length cD30, .int .i64 0, .int .i64 0]) rfl rfl) ?_
          refine Go.XK.s (v := .int .i64 0) (e_extract (vs := [.slice AD30 l.length cD30, .int .i64 0, .int .i64 0]) rfl rfl) ?_
          refine Go.XK.s (v := .slice AD30 l.length cD30) (e_assign rfl) ?_
          refine Go.XK.s (v := .int .i64 0) (e_assign rfl) ?_
          refine Go.XK.s (v := .int .i64 0) (e_assign rfl) ?_
          refine sl_nil (nrm_k ?_)
          refine sc_seq ?_
          refine sc_seq ?_
          refine sc_free [(10, .int .i64 0), (21, .int .i64 0), (20, .slice AD30 l.length cD30), (177, .int .i64 0), (176, .int .i64 0), (175, .slice AD30 l.length cD30), (169, .tuple #[.slice AD30 l.length cD30, .int .i64 0, .int .i64 0]), (174, .tuple #[.slice AD30 l.length cD30, .int .i64 0, .int .i64 0]), (173, .string (B (outJ (gsG27.map (fun g_ : Gp => g_.l)) ps 0))), (172, .pointer (some (el (ownA (.slice AD29 (outsJ gsG27 ps).length cD29)) 1 0 0))), (171, .slice AD29 (outsJ gsG27 ps).length cD29), (170, .slice AI im.length cI), (17, .slice AI im.length cI), (127, .bool (decide ((i : Int) < (ps.length : Int)))), (126, .int .i64 (i : Int)), (0, .slice A l.length c), (3, .int .u8 which.toNat), (9, .slice AG27 gsG27.length cG27), (11, .slice AD28 (lenL (gsG27.map (fun g_ : Gp => g_.l))).length cD28), (12, .slice AZ ps.length cZ), (16, .slice AD29 (outsJ gsG27 ps).length cD29), (124, .slice AZ ps.length cZ), (125, .int .i64 (ps.length : Int))] [178, 179, 180, 181, 182, 183, 184, 185, 186, 187, 188, 189, 190, 191, 192, 193, 194, 195, 196, 197, 198, 199] [(Is (.int .i64 0)), (Is (.bool (decide ((0 : Int) ≠ 0)))), (Is (.bool (decide ((0 : Int) ≠ 0)))), (Is (.int .i64 0)), (Is (.bool (decide ((0 : Int) ≠ 0)))), (Is (.bool (decide ((0 : Int) ≠ 0)))), (Is (.bool (decide ((0 : Int) ≠ 0)))), (Is (.slice AD30 l.length cD30)), (Is (.slice A l.length c)), (Is (.bool (decide (l = l)))), (Is (.bool (!(decide (l = l))))), (Is (.bool (!(decide (l = l))))), (Is (.bool (!(decide (l = l))))), (Is (.slice AD29 (outsJ gsG27 ps).length cD29)), (Is (.pointer (some (el (ownA (.slice AD29 (outsJ gsG27 ps).length cD29)) 1 0 0)))), (Is (.string (B (outJ (gsG27.map (fun g_ : Gp => g_.l)) ps 0)))), (Is (.int .i64 ((outJ (gsG27.map (fun g_ : Gp => g_.l)) ps 0).length : Int))), (Is (.slice AD28 (lenL (gsG27.map (fun g_ : Gp => g_.l))).length cD28)), (Is (.pointer (some (el (ownA (.slice AD28 (lenL (gsG27.map (fun g_ : Gp => g_.l))).length cD28)) 1 0 0)))), (Is (.int .i64 n0)), (Is (.bool (decide (((outJ (gsG27.map (fun g_ : Gp => g_.l)) ps 0).length : Int) ≠ n0)))), (Is (.bool (decide (((outJ (gsG27.map (fun g_ : Gp => g_.l)) ps 0).length : Int) ≠ n0))))] [] (by kernel_rfl) ((.cons rfl (.cons rfl (.cons rfl (.cons rfl (.cons rfl (.cons rfl (.cons rfl (.cons rfl (.cons rfl (.cons rfl (.cons rfl (.cons rfl (.cons rfl (.cons rfl (.cons rfl (.cons rfl (.cons rfl (.cons rfl (.cons rfl (.cons rfl (.cons rfl (.cons rfl (.cons rfl .nil)))))))))))))))))))))))) (by kernel_rfl) (by kernel_rfl) (by kernel_rfl) rfl (by kernel_rfl) (ds_ext (Stays.spec (.is _ (.is _ (.is _ (.is _ (.is _ (.is _ (.is _ (.is _ (.is _ (.is _ (.is _ (.is _ (.is _ (.is _ (.is _ (.is _ (.is _ (.is _ (.is _ (.is _ (.is _ (.is _ (.nil))))))))))))))))))))))))) ⟨?_, ?_, ?_, ?_, ?_, ?_, ?_, ?_, ?_, ?_, ?_, ?_, ?_, ?_, ?_, ?_, ?_, ?_, ?_, ?_, ?_, ?_, trivial⟩ ?_
          · intro Q act_ wI hxI ha hp
            have xw_wI : Ext w wI := Ext.tr xw_w26 hxI
            replace hoG27 := hoG27.ext hxI
            replace hogG27 := hogG27.ext hxI
            replace hoD28 := hoD28.ext hxI
            replace hoP := hoP.ext hxI
            replace hoD29 := hoD29.ext hxI
            replace hoI := hoI.ext hxI
            replace hoD30 := hoD30.ext hxI
            exact h_evA (v := .int .i64 0) ha rfl (e_move rfl) rfl rfl (Ext.rfl' _)
          · intro Q act_ wI hxI ha hp
            have xw_wI : Ext w wI := Ext.tr xw_w26 hxI
            replace hoG27 := hoG27.ext hxI
            replace hogG27 := hogG27.ext hxI
            replace hoD28 := hoD28.ext hxI
            replace hoP := hoP.ext hxI
            replace hoD29 := hoD29.ext hxI
            replace hoI := hoI.ext hxI
            replace hoD30 := hoD30.ext hxI
            have ha := ha.add (show act_.tmps.getD 178 undef = .int .i64 0 from hp 0 (by kernel_rfl) (by decide))
            exact h_evA (v := .bool (decide ((0 : Int) ≠ 0))) ha rfl (e_ne rfl rfl) rfl rfl (Ext.rfl' _)
          · intro Q act_ wI hxI ha hp
            have xw_wI : Ext w wI := Ext.tr xw_w26 hxI
            replace hoG27 := hoG27.ext hxI
            replace hogG27 := hogG27.ext hxI
            replace hoD28 := hoD28.ext hxI
            replace hoP := hoP.ext hxI
            replace hoD29 := hoD29.ext hxI
            replace hoI := hoI.ext hxI
            replace hoD30 := hoD30.ext hxI
            have ha := ha.add (show act_.tmps.getD 179 undef = .bool (decide ((0 : Int) ≠ 0)) from hp 1 (by kernel_rfl) (by decide))
            exact h_evA (v := .bool (decide ((0 : Int) ≠ 0))) ha rfl (e_move rfl) rfl rfl (Ext.rfl' _)
          · intro Q act_ wI hxI ha hp
            have xw_wI : Ext w wI := Ext.tr xw_w26 hxI
            replace hoG27 := hoG27.ext hxI
            replace hogG27 := hogG27.ext hxI
            replace hoD28 := hoD28.ext hxI
            replace hoP := hoP.ext hxI
            replace hoD29 := hoD29.ext hxI
            replace hoI := hoI.ext hxI
            replace hoD30 := hoD30.ext hxI
            have ha := ha.add (show act_.tmps.getD 180 undef = .bool (decide ((0 : Int) ≠ 0)) from hp 2 (by kernel_rfl) (by decide))
            exact h_gevA (v := .int .i64 0) ha rfl rfl rfl (by decide) (e_move rfl) rfl rfl (Ext.rfl' _)
          · intro Q act_ wI hxI ha hp
            have xw_wI : Ext w wI := Ext.tr xw_w26 hxI
            replace hoG27 := hoG27.ext hxI
            replace hogG27 := hogG27.ext hxI
            replace hoD28 := hoD28.ext hxI
            replace hoP := hoP.ext hxI
            replace hoD29 := hoD29.ext hxI
            replace hoI := hoI.ext hxI
            replace hoD30 := hoD30.ext hxI
            have ha := ha.add (show act_.tmps.getD 180 undef = .bool (decide ((0 : Int) ≠ 0)) from hp 2 (by kernel_rfl) (by decide))
            have ha := ha.add (show act_.tmps.getD 181 undef = .int .i64 0 from hp 3 (by kernel_rfl) (by decide))
            exact h_gevA (v := .bool (decide ((0 : Int) ≠ 0))) ha rfl rfl rfl (by decide) (e_ne rfl rfl) rfl rfl (Ext.rfl' _)
          · intro Q act_ wI hxI ha hp
            have xw_wI : Ext w wI := Ext.tr xw_w26 hxI
            replace hoG27 := hoG27.ext hxI
            replace hogG27 := hogG27.ext hxI
            replace hoD28 := hoD28.ext hxI
            replace hoP := hoP.ext hxI
            replace hoD29 := hoD29.ext hxI
            replace hoI := hoI.ext hxI
            replace hoD30 := hoD30.ext hxI
            have ha := ha.add (show act_.tmps.getD 180 undef = .bool (decide ((0 : Int) ≠ 0)) from hp 2 (by kernel_rfl) (by decide))
            have ha := ha.add (show act_.tmps.getD 182 undef = .bool (decide ((0 : Int) ≠ 0)) from hp 4 (by kernel_rfl) (by decide))
            exact h_evA (v := .bool (decide ((0 : Int) ≠ 0))) ha rfl (e_pickF rfl (by decide) rfl) rfl rfl (Ext.rfl' _)
          · intro Q act_ wI hxI ha hp
            have xw_wI : Ext w wI := Ext.tr xw_w26 hxI
            replace hoG27 := hoG27.ext hxI
            replace hogG27 := hogG27.ext hxI
            replace hoD28 := hoD28.ext hxI
            replace hoP := hoP.ext hxI
            replace hoD29 := hoD29.ext hxI
            replace hoI := hoI.ext hxI
            replace hoD30 := hoD30.ext hxI
            have ha := ha.add (show act_.tmps.getD 183 undef = .bool (decide ((0 : Int) ≠ 0)) from hp 5 (by kernel_rfl) (by decide))
            exact h_evA (v := .bool (decide ((0 : Int) ≠ 0))) ha rfl (e_move rfl) rfl rfl (Ext.rfl' _)
          · intro Q act_ wI hxI ha hp
            have xw_wI : Ext w wI := Ext.tr xw_w26 hxI
            replace hoG27 := hoG27.ext hxI
            replace hogG27 := hogG27.ext hxI
            replace hoD28 := hoD28.ext hxI
            replace hoP := hoP.ext hxI
            replace hoD29 := hoD29.ext hxI
            replace hoI := hoI.ext hxI
            replace hoD30 := hoD30.ext hxI
            have ha := ha.add (show act_.tmps.getD 184 undef = .bool (decide ((0 : Int) ≠ 0)) from hp 6 (by kernel_rfl) (by decide))
            exact h_gevA (v := .slice AD30 l.length cD30) ha rfl rfl rfl (by decide) (e_move rfl) rfl rfl (Ext.rfl' _)
          · intro Q act_ wI hxI ha hp
            have xw_wI : Ext w wI := Ext.tr xw_w26 hxI
            replace hoG27 := hoG27.ext hxI
            replace hogG27 := hogG27.ext hxI
            replace hoD28 := hoD28.ext hxI
            replace hoP := hoP.ext hxI
            replace hoD29 := hoD29.ext hxI
            replace hoI := hoI.ext hxI
            replace hoD30 := hoD30.ext hxI
            have ha := ha.add (show act_.tmps.getD 184 undef = .bool (decide ((0 : Int) ≠ 0)) from hp 6 (by kernel_rfl) (by decide))
            exact h_gevA (v := .slice A l.length c) ha rfl rfl rfl (by decide) (e_move rfl) rfl rfl (Ext.rfl' _)
          · intro Q act_ wI hxI ha hp
            have xw_wI : Ext w wI := Ext.tr xw_w26 hxI
            replace hoG27 := hoG27.ext hxI
            replace hogG27 := hogG27.ext hxI
            replace hoD28 := hoD28.ext hxI
            replace hoP := hoP.ext hxI
            replace hoD29 := hoD29.ext hxI
            replace hoI := hoI.ext hxI
            replace hoD30 := hoD30.ext hxI
            have ha := ha.add (show act_.tmps.getD 184 undef = .bool (decide ((0 : Int) ≠ 0)) from hp 6 (by kernel_rfl) (by decide))
            have ha := ha.add (show act_.tmps.getD 185 undef = .slice AD30 l.length cD30 from hp 7 (by kernel_rfl) (by decide))
            have ha := ha.add (show act_.tmps.getD 186 undef = .slice A l.length c from hp 8 (by kernel_rfl) (by decide))
            exact h_gcallA ha ent17 rfl rfl rfl (by decide) rfl rfl (same_c _ _ _ _ _ _ wI (Go.XK.Own.slr hoD30 (fun _ => rfl)) (hl.ext xw_wI)) rfl (by rintro _ w1 ⟨rfl, hR⟩; exact ⟨rfl, hR⟩)
          · intro Q act_ wI hxI ha hp
            have xw_wI : Ext w wI := Ext.tr xw_w26 hxI
            replace hoG27 := hoG27.ext hxI
            replace hogG27 := hogG27.ext hxI
            replace hoD28 := hoD28.ext hxI
            replace hoP := hoP.ext hxI
            replace hoD29 := hoD29.ext hxI
            replace hoI := hoI.ext hxI
            replace hoD30 := hoD30.ext hxI
            have ha := ha.add (show act_.tmps.getD 184 undef = .bool (decide ((0 : Int) ≠ 0)) from hp 6 (by kernel_rfl) (by decide))
            have ha := ha.add (show act_.tmps.getD 187 undef = .bool (decide (l = l)) from hp 9 (by kernel_rfl) (by decide))
            exact h_gevA (v := .bool (!(decide (l = l)))) ha rfl rfl rfl (by decide) (e_not rfl) rfl rfl (Ext.rfl' _)
          · intro Q act_ wI hxI ha hp
            have xw_wI : Ext w wI := Ext.tr xw_w26 hxI
            replace hoG27 := hoG27.ext hxI
            replace hogG27 := hogG27.ext hxI
            replace hoD28 := hoD28.ext hxI
            replace hoP := hoP.ext hxI
            replace hoD29 := hoD29.ext hxI
            replace hoI := hoI.ext hxI
            replace hoD30 := hoD30.ext hxI
            have ha := ha.add (show act_.tmps.getD 184 undef = .bool (decide ((0 : Int) ≠ 0)) from hp 6 (by kernel_rfl) (by decide))
            have ha := ha.add (show act_.tmps.getD 188 undef = .bool (!(decide (l = l))) from hp 10 (by kernel_rfl) (by decide))
            exact h_evA (v := .bool (!(decide (l = l)))) ha rfl (e_pickF rfl (by decide) rfl) rfl rfl (Ext.rfl' _)
          · intro Q act_ wI hxI ha hp
            have xw_wI : Ext w wI := Ext.tr xw_w26 hxI
            replace hoG27 := hoG27.ext hxI
            replace hogG27 := hogG27.ext hxI
            replace hoD28 := hoD28.ext hxI
            replace hoP := hoP.ext hxI
            replace hoD29 := hoD29.ext hxI
            replace hoI := hoI.ext hxI
            replace hoD30 := hoD30.ext hxI
            have ha := ha.add (show act_.tmps.getD 189 undef = .bool (!(decide (l = l))) from hp 11 (by kernel_rfl) (by decide))
            exact h_evA (v := .bool (!(decide (l = l)))) ha rfl (e_move rfl) rfl rfl (Ext.rfl' _)
          · intro Q act_ wI hxI ha hp
            have xw_wI : Ext w wI := Ext.tr xw_w26 hxI
            replace hoG27 := hoG27.ext hxI
            replace hogG27 := hogG27.ext hxI
            replace hoD28 := hoD28.ext hxI
            replace hoP := hoP.ext hxI
            replace hoD29 := hoD29.ext hxI
            replace hoI := hoI.ext hxI
            replace hoD30 := hoD30.ext hxI
            have ha := ha.add (show act_.tmps.getD 190 undef = .bool (!(decide (l = l))) from hp 12 (by kernel_rfl) (by decide))
            exact h_gevA (v := .slice AD29 (outsJ gsG27 ps).length cD29) ha rfl rfl rfl (by rw [(decide_eq_true rfl)]; rfl) (e_move rfl) rfl rfl (Ext.rfl' _)
          · intro Q act_ wI hxI ha hp
            have xw_wI : Ext w wI := Ext.tr xw_w26 hxI
            replace hoG27 := hoG27.ext hxI
            replace hogG27 := hogG27.ext hxI
            replace hoD28 := hoD28.ext hxI
            replace hoP := hoP.ext hxI
            replace hoD29 := hoD29.ext hxI
            replace hoI := hoI.ext hxI
            replace hoD30 := hoD30.ext hxI
            have ha := ha.add (show act_.tmps.getD 190 undef = .bool (!(decide (l = l))) from hp 12 (by kernel_rfl) (by decide))
            have ha := ha.add (show act_.tmps.getD 191 undef = .slice AD29 (outsJ gsG27 ps).length cD29 from hp 13 (by kernel_rfl) (by decide))
            exact h_gevA (v := .pointer (some (el (ownA (.slice AD29 (outsJ gsG27 ps).length cD29)) 1 0 0))) ha rfl rfl rfl (by rw [(decide_eq_true rfl)]; rfl) (e_idxOwn (x0 := (outJ (gsG27.map (fun g_ : Gp => g_.l)) ps 0)) Try.underlying48 Try.sizeOf9 rfl rfl hoD29 (fun _ => rfl) (outs_get hgp) (by omega)) rfl rfl (Ext.rfl' _)
          · intro Q act_ wI hxI ha hp
            have xw_wI : Ext w wI := Ext.tr xw_w26 hxI
            replace hoG27 := hoG27.ext hxI
            replace hogG27 := hogG27.ext hxI
            replace hoD28 := hoD28.ext hxI
            replace hoP := hoP.ext hxI
            replace hoD29 := hoD29.ext hxI
            replace hoI := hoI.ext hxI
            replace hoD30 := hoD30.ext hxI
            have ha := ha.add (show act_.tmps.getD 190 undef = .bool (!(decide (l = l))) from hp 12 (by kernel_rfl) (by decide))
            have ha := ha.add (show act_.tmps.getD 192 undef = .pointer (some (el (ownA (.slice AD29 (outsJ gsG27 ps).length cD29)) 1 0 0)) from hp 14 (by kernel_rfl) (by decide))
            exact h_gevA (v := .string (B (outJ (gsG27.map (fun g_ : Gp => g_.l)) ps 0))) ha rfl rfl rfl (by rw [(decide_eq_true rfl)]; rfl) (e_ldEl (xs := outsJ gsG27 ps) (enc := encS) (e := (outJ (gsG27.map (fun g_ : Gp => g_.l)) ps 0)) rfl (Go.XK.Own.rd hoD29 (fun _ => rfl)) (outs_get hgp) Try.isAgg9 rfl) rfl rfl (Ext.rfl' _)
          · intro Q act_ wI hxI ha hp
            have xw_wI : Ext w wI := Ext.tr xw_w26 hxI
            replace hoG27 := hoG27.ext hxI
            replace hogG27 := hogG27.ext hxI
            replace hoD28 := hoD28.ext hxI
            replace hoP := hoP.ext hxI
            replace hoD29 := hoD29.ext hxI
            replace hoI := hoI.ext hxI
            replace hoD30 := hoD30.ext hxI
            have ha := ha.add (show act_.tmps.getD 190 undef = .bool (!(decide (l = l))) from hp 12 (by kernel_rfl) (by decide))
            have ha := ha.add (show act_.tmps.getD 193 undef = .string (B (outJ (gsG27.map (fun g_ : Gp => g_.l)) ps 0)) from hp 15 (by kernel_rfl) (by decide))
            exact h_gevA (v := .int .i64 ((outJ (gsG27.map (fun g_ : Gp => g_.l)) ps 0).length : Int)) ha rfl rfl rfl (by rw [(decide_eq_true rfl)]; rfl) (e_slen Try.underlying9 rfl) rfl rfl (Ext.rfl' _)
          · intro Q act_ wI hxI ha hp
            have xw_wI : Ext w wI := Ext.tr xw_w26 hxI
            replace hoG27 := hoG27.ext hxI
            replace hogG27 := hogG27.ext hxI
            replace hoD28 := hoD28.ext hxI
            replace hoP := hoP.ext hxI
            replace hoD29 := hoD29.ext hxI
            replace hoI := hoI.ext hxI
            replace hoD30 := hoD30.ext hxI
            have ha := ha.add (show act_.tmps.getD 190 undef = .bool (!(decide (l = l))) from hp 12 (by kernel_rfl) (by decide))
            exact h_gevA (v := .slice AD28 (lenL (gsG27.map (fun g_ : Gp => g_.l))).length cD28) ha rfl rfl rfl (by rw [(decide_eq_true rfl)]; rfl) (e_move rfl) rfl rfl (Ext.rfl' _)
          · intro Q act_ wI hxI ha hp
            have xw_wI : Ext w wI := Ext.tr xw_w26 hxI
            replace hoG27 := hoG27.ext hxI
            replace hogG27 := hogG27.ext hxI
            replace hoD28 := hoD28.ext hxI
            replace hoP := hoP.ext hxI
            replace hoD29 := hoD29.ext hxI
            replace hoI := hoI.ext hxI
            replace hoD30 := hoD30.ext hxI
            have ha := ha.add (show act_.tmps.getD 190 undef = .bool (!(decide (l = l))) from hp 12 (by kernel_rfl) (by decide))
            have ha := ha.add (show act_.tmps.getD 195 undef = .slice AD28 (lenL (gsG27.map (fun g_ : Gp => g_.l))).length cD28 from hp 17 (by kernel_rfl) (by decide))
            exact h_gevA (v := .pointer (some (el (ownA (.slice AD28 (lenL (gsG27.map (fun g_ : Gp => g_.l))).length cD28)) 1 0 0))) ha rfl rfl rfl (by rw [(decide_eq_true rfl)]; rfl) (e_idxOwn (x0 := n0) Try.underlying38 Try.sizeOf3 rfl rfl hoD28 (fun _ => rfl) hn0 (by omega)) rfl rfl (Ext.rfl' _)
          · intro Q act_ wI hxI ha hp
            have xw_wI : Ext w wI := Ext.tr xw_w26 hxI
            replace hoG27 := hoG27.ext hxI
            replace hogG27 := hogG27.ext hxI
            replace hoD28 := hoD28.ext hxI
            replace hoP := hoP.ext hxI
            replace hoD29 := hoD29.ext hxI
            replace hoI := hoI.ext hxI
            replace hoD30 := hoD30.ext hxI
            have ha := ha.add (show act_.tmps.getD 190 undef = .bool (!(decide (l = l))) from hp 12 (by kernel_rfl) (by decide))
            have ha := ha.add (show act_.tmps.getD 196 undef = .pointer (some (el (ownA (.slice AD28 (lenL (gsG27.map (fun g_ : Gp => g_.l))).length cD28)) 1 0 0)) from hp 18 (by kernel_rfl) (by decide))
            exact h_gevA (v := .int .i64 n0) ha rfl rfl rfl (by rw [(decide_eq_true rfl)]; rfl) (e_ldEl (xs := lenL (gsG27.map (fun g_ : Gp => g_.l))) (enc := encI) (e := n0) rfl (Go.XK.Own.rd hoD28 (fun _ => rfl)) hn0 Try.isAgg3 rfl) rfl rfl (Ext.rfl' _)
          · intro Q act_ wI hxI ha hp
            have xw_wI : Ext w wI := Ext.tr xw_w26 hxI
            replace hoG27 := hoG27.ext hxI
            replace hogG27 := hogG27.ext hxI
            replace hoD28 := hoD28.ext hxI
            replace hoP := hoP.ext hxI
            replace hoD29 := hoD29.ext hxI
            replace hoI := hoI.ext hxI
            replace hoD30 := hoD30.ext hxI
            have ha := ha.add (show act_.tmps.getD 190 undef = .bool (!(decide (l = l))) from hp 12 (by kernel_rfl) (by decide))
            have ha := ha.add (show act_.tmps.getD 194 undef = .int .i64 ((outJ (gsG27.map (fun g_ : Gp => g_.l)) ps 0).length : Int) from hp 16 (by kernel_rfl) (by decide))
            have ha := ha.add (show act_.tmps.getD 197 undef = .int .i64 n0 from hp 19 (by kernel_rfl) (by decide))
            exact h_gevA (v := .bool (decide (((outJ (gsG27.map (fun g_ : Gp => g_.l)) ps 0).length : Int) ≠ n0))) ha rfl rfl rfl (by rw [(decide_eq_true rfl)]; rfl) (e_ne rfl rfl) rfl rfl (Ext.rfl' _)
          · intro Q act_ wI hxI ha hp
            have xw_wI : Ext w wI := Ext.tr xw_w26 hxI
            replace hoG27 := hoG27.ext hxI
            replace hogG27 := hogG27.ext hxI
            replace hoD28 := hoD28.ext hxI
            replace hoP := hoP.ext hxI
            replace hoD29 := hoD29.ext hxI
            replace hoI := hoI.ext hxI
            replace hoD30 := hoD30.ext hxI
            have ha := ha.add (show act_.tmps.getD 190 undef = .bool (!(decide (l = l))) from hp 12 (by kernel_rfl) (by decide))
            have ha := ha.add (show act_.tmps.getD 198 undef = .bool (decide (((outJ (gsG27.map (fun g_ : Gp => g_.l)) ps 0).length : Int) ≠ n0)) from hp 20 (by kernel_rfl) (by decide))
            exact h_evA (v := .bool (decide (((outJ (gsG27.map (fun g_ : Gp => g_.l)) ps 0).length : Int) ≠ n0))) ha rfl (e_pickF rfl (by rw [(decide_eq_true rfl)]; rfl) rfl) rfl rfl (Ext.rfl' _)
          intro vs_ w27 hx_w27 hvs act_ ha hv
          have xw_w27 : Ext w w27 := Ext.tr xw_w26 hx_w27
          replace hoG27 := hoG27.ext hx_w27
          replace hogG27 := hogG27.ext hx_w27
          replace hoD28 := hoD28.ext hx_w27
          replace hoP := hoP.ext hx_w27
          replace hoD29 := hoD29.ext hx_w27
          replace hoI := hoI.ext hx_w27
          replace hoD30 := hoD30.ext hx_w27
          have ha := ha.add ((hv 21 (by decide)).trans (show vs_ 21 = .bool (decide (((outJ (gsG27.map (fun g_ : Gp => g_.l)) ps 0).length : Int) ≠ n0)) from hvs 21 (by decide)))
          refine st_go ha ?_
          clear ha hv hvs
          refine st_nil (nrm_k ?_)
          refine sc_no rfl (by exact decide_eq_false (by omega)) ?_
          refine sc_skip (nrm_k ?_)
          refine sc_seq ?_
          refine sc_seq ?_
          refine sc_reg ?_
          refine Go.XK.s (v := .slice AZ ps.length cZ) (e_move rfl) ?_
          refine Go.XK.s (v := .int .i64 (ps.length : Int)) (e_lenOwn Try.underlying51 rfl hoP (fun _ => rfl)) ?_
          refine Go.XK.s (v := .bool (decide ((ps.length : Int) = 0))) (e_eq rfl rfl) ?_
          refine sl_nil (nrm_k ?_)
          refine sc_ifd rfl (fun c202 => ?_) (fun c202 => ?_)
          ·
            refine sc_seq ?_
            refine sc_reg ?_
            refine Go.XK.s (v := .bool true) (e_assign rfl) ?_
            refine sl_nil (nrm_k ?_)
            refine sc_retf rfl (ret1 Try.results6 (rvt rfl) ?_)
            exact ⟨rfl, xw_w27⟩
          ·
            obtain ⟨q, hqe⟩ : ∃ q : Nat, ((which.toNat : Int) % (ps.length : Int)) = (q : Int) := ⟨which.toNat % ps.length, by push_cast; rfl⟩
            have hqlt : q < ps.length := by
              have h_ := Int.emod_lt_of_pos (which.toNat : Int) (show (0 : Int) < (ps.length : Int) by omega)
              omega
            obtain ⟨p, hpp⟩ : ∃ p, ps[q]? = some p := ⟨_, List.getElem?_eq_getElem hqlt⟩
            have hpq : ps[((which.toNat : Int) % (ps.length : Int)).toNat]? = some p := by rw [hqe]; exact hpp
            obtain ⟨nq, hnq⟩ : ∃ nq, (lenL (gsG27.map (fun g_ : Gp => g_.l)))[q + 1]? = some nq := ⟨_, List.getElem?_eq_getElem (by omega)⟩
            have hpb1 := (hPI q p nq hpp hnq).1
            obtain ⟨e0, he0⟩ : ∃ e0, im[p.b.toNat]? = some e0 := ⟨_, List.getElem?_eq_getElem (by omega)⟩
            refine sc_skip (nrm_k ?_)
            refine sc_seq ?_
            refine sc_reg ?_
            refine Go.XK.s (v := .slice AZ ps.length cZ) (e_move rfl) ?_
            refine Go.XK.s (v := .int .u8 which.toNat) (e_move rfl) ?_
            refine Go.XK.s (v := .int .i64 (which.toNat : Int)) (e_u8int (c := which) Try.underlying5 Try.underlying3 (by decide) rfl) ?_
            refine Go.XK.s (v := .slice AZ ps.length cZ) (e_move rfl) ?_
            refine Go.XK.s (v := .int .i64 (ps.length : Int)) (e_lenOwn Try.underlying51 rfl hoP (fun _ => rfl)) ?_
            refine Go.XK.s (v := .int .i64 ((which.toNat : Int) % (ps.length : Int))) (e_rem rfl rfl (by omega) (by omega)) ?_
            refine Go.XK.s (v := .pointer (some (el (ownA (.slice AZ ps.length cZ)) 2 ((which.toNat : Int) % (ps.length : Int)) 0))) (e_idxOwn (x0 := p) Try.underlying51 Try.sizeOf53 rfl rfl hoP (fun _ => rfl) hpq (by omega)) ?_
            refine Go.XK.s (v := .agg #[.int .i64 p.b, .int .i64 p.o]) (e_ldElA (xs := ps) (enc := encPl) (e := p) rfl (Go.XK.Own.rd hoP (fun _ => rfl)) hpq Try.isAgg53 Try.sizeOf53 rfl) ?_
            refine s_alloc (cs := [.int .i64 0, .int .i64 0]) Try.zeroValue53 rfl ?_
            intro b22 w28 hb22 he22 hs22 hx22
            have no_b22_hoG27 : Value.ownBlock (.slice AG27 gsG27.length cG27) ≠ some b22 := fun h_ => by have h2_ := (Go.XK.Own.lt hoG27 _ h_).2; omega
            have no_b22_hoD28 : Value.ownBlock (.slice AD28 ((lenL (gsG27.map (fun g_ : Gp => g_.l))).length) cD28) ≠ some b22 := fun h_ => by have h2_ := (Go.XK.Own.lt hoD28 _ h_).2; omega
            have no_b22_hoP : Value.ownBlock (.slice AZ ps.length cZ) ≠ some b22 := fun h_ => by have h2_ := (Go.XK.Own.lt hoP _ h_).2; omega
            have no_b22_hoD29 : Value.ownBlock (.slice AD29 ((outsJ gsG27 ps).length) cD29) ≠ some b22 := fun h_ => by have h2_ := (Go.XK.Own.lt hoD29 _ h_).2; omega
            have no_b22_hoI : Value.ownBlock (.slice AI im.length cI) ≠ some b22 := fun h_ => by have h2_ := (Go.XK.Own.lt hoI _ h_).2; omega
            have no_b22_hoD30 : Value.ownBlock (.slice AD30 l.length cD30) ≠ some b22 := fun h_ => by have h2_ := (Go.XK.Own.lt hoD30 _ h_).2; omega
            have ge_b22 : w.heap.size ≤ b22 := by have h_ := (Below.size xw_w27); omega
            have xw_w28 : Ext w w28 := Ext.tr xw_w27 hx22
            replace hoG27 := hoG27.ext hx22
            replace hogG27 := hogG27.ext hx22
            replace hoD28 := hoD28.ext hx22
            replace hoP := hoP.ext hx22
            replace hoD29 := hoD29.ext hx22
            replace hoI := hoI.ext hx22
            replace hoD30 := hoD30.ext hx22
            refine su_blkV [.int .i64 p.b, .int .i64 p.o] [.int .i64 p.b, .int .i64 p.o] rfl rfl hb22 rfl Try.sizeOf53 (Nat.le_of_ble_eq_true rfl) rfl rfl ?_
            intro w29 hn_ hm_w29 hs_w29
            have ho_ := hb22
            replace hb22 := hn_
            clear hn_
            replace hoG27 := hoG27.mut hm_w29 no_b22_hoG27
            replace hogG27 := hogG27.mut hm_w29 ho_ (by decide)
            replace hoD28 := hoD28.mut hm_w29 no_b22_hoD28
            replace hoP := hoP.mut hm_w29 no_b22_hoP
            replace hoD29 := hoD29.mut hm_w29 no_b22_hoD29
            replace hoI := hoI.mut hm_w29 no_b22_hoI
            replace hoD30 := hoD30.mut hm_w29 no_b22_hoD30
            have xw_w29 : Ext w w29 := below_mut xw_w28 (Below.size xw_w28) hm_w29 ge_b22
            refine sl_nil (nrm_k ?_)
            refine sc_seq ?_
            refine sc_reg ?_
            refine Go.XK.s (v := .slice AI im.length cI) (e_move rfl) ?_
            refine Go.XK.s (v := .pointer (some ⟨b22, 0, none⟩)) (e_fieldB (sz := 1) Try.underlying53 rfl Try.sizeOf3 (by decide) rfl rfl) ?_
            refine Go.XK.s (v := .int .i64 p.b) (e_load rfl (load1 Try.isAgg3 (hb22.cell (j := 0) rfl))) ?_
            refine Go.XK.s (v := .pointer (some (el (ownA (.slice AI im.length cI)) 1 p.b 0))) (e_idxOwn (x0 := e0) Try.underlying56 Try.sizeOf9 rfl rfl hoI (fun _ => rfl) he0 (by omega)) ?_
            refine su_ownSet (w0 := w) (x0 := e0) (v := (.slice AI im.length cI)) [] rfl rfl hoI xw_w29 (fun _ => rfl) he0 (by decide) rfl rfl Try.sizeOf9 rfl ?_
            intro w30 hn_ xw_w30 hg_w30
            have ho_ := hoI
            replace hb22 := hb22.grown hg_w30 (Own.ne ho_ hb22 (by decide))
            replace hoG27 := Go.XK.Own.other hoG27 ho_ hg_w30 (by decide)
            replace hogG27 := OwG.other hogG27 ho_ hg_w30 (by decide)
            replace hoD28 := Go.XK.Own.other hoD28 ho_ hg_w30 (by decide)
            replace hoP := Go.XK.Own.other hoP ho_ hg_w30 (by decide)
            replace hoD29 := Own.dj hoD29 (Dj.symm dj_hoD29_hoI) hg_w30
            replace hoD30 := Go.XK.Own.other hoD30 ho_ hg_w30 (by decide)
            replace hoI := hn_
            clear hn_ ho_
            refine sl_nil (nrm_k ?_)
            refine sc_seq ?_
            refine sc_reg ?_
            refine Go.XK.s (v := .slice AI im.length cI) (e_move rfl) ?_
            refine Go.XK.s (v := .slice AD29 (outsJ gsG27 ps).length cD29) (e_move rfl) ?_
            refine Go.XK.s (v := .pointer (some (el (ownA (.slice AD29 (outsJ gsG27 ps).length cD29)) 1 0 0))) (e_idxOwn (x0 := (outJ (gsG27.map (fun g_ : Gp => g_.l)) ps 0)) Try.underlying48 Try.sizeOf9 rfl rfl hoD29 (fun _ => rfl) (outs_get hgp) (by omega)) ?_
            refine Go.XK.s (v := .string (B (outJ (gsG27.map (fun g_ : Gp => g_.l)) ps 0))) (e_ldEl (xs := outsJ gsG27 ps) (enc := encS) (e := (outJ (gsG27.map (fun g_ : Gp => g_.l)) ps 0)) rfl (Go.XK.Own.rd hoD29 (fun _ => rfl)) (outs_get hgp) Try.isAgg9 rfl) ?_
            refine sl_call ent35 rfl rfl (walk_j2 _ _ im q _ _ _ _ _ w30 (Go.XK.Own.slr hoI (fun _ => rfl)) hfit hc0 hlk hP h64 (img_cut hBL hpl1 hqlt hpb1 (hil.trans hN)) hqlt (by omega) (by omega)) (by decide) ?_
            rintro _ w31 ⟨vD31, rfl, hoD31, hw31⟩
            have dj_hoD31_hoD30 := Dj.new hoD31 hoD30
            replace hoD31 := Own.low hoD31 (Below.size xw_w30)
            have xw_w31 : Ext w w31 := Ext.tr xw_w30 hw31
            replace hb22 := hb22.ext hw31
            replace hoG27 := hoG27.ext hw31
            replace hogG27 := hogG27.ext hw31
            replace hoD28 := hoD28.ext hw31
            replace hoP := hoP.ext hw31
            replace hoD29 := hoD29.ext hw31
            replace hoD30 := hoD30.ext hw31
            replace hoI := hoI.ext hw31
            obtain ⟨AD31, cD31, eD31_, hlcD31, hcmD31, _⟩ := Go.XK.Own.shape hoD31 (fun _ => rfl)
            subst eD31_
            refine Go.XK.s (v := .tuple #[.slice AD31 ([] : List En).length cD31, .int .i64 (3 + (q : Int)), .int .i64 9]) (e_move rfl) ?_
            refine Go.XK.s (v := .slice AD31 ([] : List En).length cD31) (e_extract (vs := [.slice AD31 ([] : List En).length cD31, .int .i64 (3 + (q : Int)), .int .i64 9]) rfl rfl) ?_
            refine Go.XK.s (v := .int .i64 (3 + (q : Int))) (e_extract (vs := [.slice AD31 ([] : List En).length cD31, .int .i64 (3 + (q : Int)), .int .i64 9]) rfl rfl) ?_
            refine Go.XK.s (v := .int .i64 9) (e_extract (vs := [.slice AD31 ([] : List En).length cD31, .int .i64 (3 + (q : Int)), .int .i64 9]) rfl rfl) ?_
            refine Go.XK.s (v := .slice AD31 ([] : List En).length cD31) (e_assign rfl) ?_
            refine Go.XK.s (v := .int .i64 (3 + (q : Int))) (e_assign rfl) ?_
            refine Go.XK.s (v := .int .i64 9) (e_assign rfl) ?_
            refine sl_nil (nrm_k ?_)
            refine sc_seq ?_
            refine sc_reg ?_
            refine Go.XK.s (v := .int .i64 9) (e_move rfl) ?_
            refine Go.XK.s (v := .bool (decide ((9 : Int) = 9))) (e_eq rfl rfl) ?_
            refine Go.XK.s (v := .bool (decide ((9 : Int) = 9))) (e_move rfl) ?_
            refine sl_gev (v := .int .i64 (3 + (q : Int))) rfl rfl (by decide) (e_move rfl) rfl (by decide) ?_
            refine sl_gev (v := .pointer (some ⟨b22, 0, none⟩)) rfl rfl (by decide) (e_fieldB (sz := 1) Try.underlying53 rfl Try.sizeOf3 (by decide) rfl rfl) rfl (by decide) ?_
            refine sl_gev (v := .int .i64 p.b) rfl rfl (by decide) (e_load rfl (load1 Try.isAgg3 (hb22.cell (j := 0) rfl))) rfl (by decide) ?_
            refine sl_gev (v := .bool (decide (3 + (q : Int) = p.b))) rfl rfl (by decide) (e_eq rfl rfl) rfl (by decide) ?_
            refine Go.XK.s (v := .bool (decide (3 + (q : Int) = p.b))) (e_pickT rfl (by decide) rfl) ?_
            refine Go.XK.s (v := .bool (decide (3 + (q : Int) = p.b))) (e_move rfl) ?_
            refine sl_merge 4 236 (.bool ((decide (3 + (q : Int) = p.b)) && (decide ((([] : List En).length : Int) = 0)))) ?_ ?_
            · refine sl_case (t := 232) rfl (fun g41_8 => ?_) (fun g41_8 => ?_)
              ·
                refine sl_gev (v := .slice AD31 ([] : List En).length cD31) rfl rfl g41_8 (e_move rfl) rfl (by decide) ?_
                refine sl_gev (v := .int .i64 (([] : List En).length : Int)) rfl rfl g41_8 (e_lenOwn Try.underlying22 rfl hoD31 (fun _ => rfl)) rfl (by decide) ?_
                refine sl_gev (v := .bool (decide ((([] : List En).length : Int) = 0))) rfl rfl g41_8 (e_eq rfl rfl) rfl (by decide) ?_
                refine Go.XK.s (v := .bool (decide ((([] : List En).length : Int) = 0))) (e_pickT rfl g41_8 rfl) ?_
                exact sl_nil (fun a ha => ⟨rfl, ha.sub (.cons (by rw [g41_8]; rfl) (sub_self_cons (sub_self_cons (sub_self_cons (sub_self_cons (Sub.refl _) rfl) rfl) rfl) rfl))⟩)
              ·
                refine sl_gskip rfl rfl g41_8 (by decide) ?_
                refine sl_gskip rfl rfl g41_8 (by decide) ?_
                refine sl_gskip rfl rfl g41_8 (by decide) ?_
                refine Go.XK.s (v := .bool false) (e_pickF rfl g41_8 rfl) ?_
                exact sl_nil (fun a ha => ⟨rfl, ha.sub (.cons (by rw [g41_8]; rfl) (sub_self_cons (sub_self_cons (sub_self_cons (sub_self_cons (Sub.refl _) rfl) rfl) rfl) rfl))⟩)
            refine Go.XK.s (v := .bool ((decide (3 + (q : Int) = p.b)) && (decide ((([] : List En).length : Int) = 0)))) (e_assign rfl) ?_
            refine sl_nil (nrm_k ?_)
            refine sc_retf rfl (ret1 Try.results6 (rvt rfl) ?_)
            exact ⟨congrArg Value.bool (by simp [hpb1]), xw_w31⟩

end Go.Proofs.Ytnbclhbpjlpcoaa
