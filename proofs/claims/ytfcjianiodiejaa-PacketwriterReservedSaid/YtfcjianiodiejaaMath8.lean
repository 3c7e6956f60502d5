/- Chapter 52: appended blocks are found. My own text. -/
import Derived.Test.YtfcjianiodiejaaMath7
set_option linter.unusedVariables false
set_option linter.unusedSimpArgs false
namespace Go.Proofs.Ytfcjianiodiejaa
open Go.XK Go.RowKit
theorem setL_other : ∀ (base : Int) (ps : List Pn) (L : Img) (i : Nat), (∀ y ∈ ps, (y.p - base).toNat ≠ i) → (setL base ps L)[i]? = L[i]?
  | _, [], _, _, _ => rfl
  | base, x :: ps, L, i, h => by
    show (setL base ps (L.set _ _))[i]? = _
    rw [setL_other base ps _ i (fun y hy => h y (by simp [hy])), List.getElem?_set, if_neg (h x (by simp))]
theorem setL_get : ∀ (base : Int) (ps : List Pn) (L : Img), ps.Pairwise (fun x y => x.p < y.p) → (∀ x ∈ ps, base ≤ x.p ∧ (x.p - base).toNat < L.length) → ∀ x ∈ ps, (setL base ps L)[(x.p - base).toNat]? = some x.b
  | _, [], _, _, _, x, hx => by cases hx
  | base, y :: ps, L, hs, hb, x, hx => by
    show (setL base ps (L.set _ _))[_]? = _
    rw [List.pairwise_cons] at hs
    have hy := hb y (by simp)
    rcases List.mem_cons.1 hx with rfl | hx
    · rw [setL_other base ps _ _ (fun z hz => by have := hs.1 z hz; have := hb z (by simp [hz]); omega), List.getElem?_set, if_pos rfl, if_pos hy.2]
    · exact setL_get base ps _ hs.2 (fun z hz => by rw [List.length_set]; exact hb z (by simp [hz])) x hx
theorem setL_all : ∀ (base : Int) (ps : List Pn) (L : Img), (∀ x ∈ ps, x.b.length = 2048) → (∀ b ∈ L, b.length = 2048) → ∀ b ∈ setL base ps L, b.length = 2048
  | _, [], _, _, h => h
  | base, x :: ps, L, hp, h => setL_all base ps _ (fun y hy => hp y (by simp [hy])) (fun b hb => by
    rcases List.mem_or_eq_of_mem_set hb with hb | rfl
    · exact h b hb
    · exact hp x (by simp))
theorem zB_length : zB.length = 2048 := rep_c0 _ _
theorem okW_core {ws : List Wr} {base : Int} {L : Img} {K : Nat} (h : ws.map core = flC base L K) (hl : L.length = 8 * K) (h0 : 0 ≤ base) (hb : base + (L.length : Int) ≤ 4096) (ha : ∀ b ∈ L, b.length = 2048) : ws.all okW = true ∧ ws.length = K := by
  refine ⟨?_, by have := congrArg List.length h; simpa [flC] using this⟩
  rw [List.all_eq_true]
  intro x hx
  have hm : core x ∈ flC base L K := by rw [← h]; exact List.mem_map_of_mem hx
  simp only [flC, List.mem_map, List.mem_range, core, Prod.mk.injEq] at hm
  obtain ⟨j, hj, h1, h2, h3, h4⟩ := hm
  have hlen : x.bl.length = 8 := by rw [← h2]; simp; omega
  rw [okW, badW]
  have e1 : decide (x.p < 0) = false := decide_eq_false (by omega)
  have e2 : decide ((4096 : Int) < x.p) = false := decide_eq_false (by omega)
  have e3 : decide (4096 - x.p < (x.bl.length : Int)) = false := decide_eq_false (by omega)
  have e4 : x.bl.any badB = false := by
    rw [List.any_eq_false]
    intro b hbm
    have : b ∈ L := by rw [← h2] at hbm; exact List.mem_of_mem_take (List.mem_of_mem_drop hbm)
    simp [badB, ha b this]
  rw [e1, e2, e3, e4, ← h4]; rfl
/-- What a flush does to a writer that only appends. -/
theorem fl_ap {start base : Int} {ps : List Pn} {c : List UInt8} (h : Ap start base ps) (hc : c = [] ∨ c.length = 2048) (hn : base + 2 * (ps.length : Int) + 8 ≤ 4096) :
    ∃ (L : Img) (K : Nat) (base' : Int), flR c start base ps = (0, flC base L K, base', []) ∧ L.length = 8 * K ∧ base' = base + (L.length : Int) ∧ base' ≤ base + 2 * (ps.length : Int) + 8 ∧ Wf start base' [] ∧ (∀ b ∈ L, b.length = 2048) ∧ (∀ x ∈ ps, L[(x.p - base).toNat]? = some x.b) ∧
      (c ≠ [] → base ≤ ctlP start base ps ∧ L[(ctlP start base ps - base).toNat]? = some c) := by
  have hw := h.wf
  have hs0 := hw.s0
  have hsb := hw.sb
  have hb1 := hw.b1
  have hup := h.up
  have hopn : opnL ps = [] := by
    rw [opnL, List.map_eq_nil_iff, List.filter_eq_nil_iff]
    intro x hx
    have := (h.us x hx).2
    have hne : x.b ≠ [] := fun e => by rw [e] at this; simp at this
    simp [hne]
  have hc1 : (decide (c ≠ []) && decide ((c.length : Int) ≠ 2048)) = false := by
    rcases hc with rfl | hc
    · rfl
    · simp [hc]
  by_cases he : ps = [] ∧ c = []
  · obtain ⟨rfl, rfl⟩ := he
    refine ⟨[], 0, base, ?_, rfl, by simp, by simp; omega, hw, (fun b hb => by cases hb), (fun x hx => by cases hx), fun e => absurd rfl e⟩
    rw [flR, if_neg (by simp), if_neg (by simp [opnL]), if_pos (by simp)]; rfl
  · have hlp := lastP_wf hw
    have hlast : lastP base ps ≤ base + 2 * (ps.length : Int) := by
      by_cases hp : ps = []
      · subst hp; rw [lastP_nil rfl]; simp
      · rw [atP, if_neg hp] at hup; omega
    obtain ⟨hct1, hct2, hct3, hct4, hct5⟩ := ctl_facts hw
    have hctb : ctlP start base ps + 1 ≤ base + 2 * (ps.length : Int) + 8 := by
      rw [ctlP]; omega
    obtain ⟨K, hK⟩ : ∃ K : Nat, ctlP start base ps + 1 - base = ((8 * K : Nat) : Int) := ⟨((ctlP start base ps + 1 - base) / 8).toNat, by omega⟩
    have hKz : (ctlP start base ps + 1 - base).toNat = 8 * K := by omega
    have hKd : 8 * K / 8 = K := by omega
    have hL0 : (setL base ps (List.replicate (8 * K) zB)).length = 8 * K := by rw [setL_length, List.length_replicate]
    have hLl : (ctlL c (setL base ps (List.replicate (8 * K) zB))).length = 8 * K := by rw [ctlL_length, hL0]
    have hall : ∀ b ∈ setL base ps (List.replicate (8 * K) zB), b.length = 2048 := setL_all base ps _ (fun x hx => (h.us x hx).2) (fun b hb => by rw [(List.mem_replicate.1 hb).2]; exact zB_length)
    have hget : ∀ x ∈ ps, (setL base ps (List.replicate (8 * K) zB))[(x.p - base).toNat]? = some x.b := setL_get base ps _ hw.srt (fun x hx => by
      have h1 := hw.pp x hx
      have h2 := hct5 x hx
      rw [List.length_replicate]
      exact ⟨h1.1, by omega⟩)
    refine ⟨ctlL c (setL base ps (List.replicate (8 * K) zB)), K, ctlP start base ps + 1, ?_, hLl, by rw [hLl]; omega, by omega, ⟨hs0, by omega, by omega, (fun x hx => by cases hx), by simp, hct3, List.Pairwise.nil⟩, ?_, ?_, ?_⟩
    · rw [flR, hc1, hopn, if_neg (by decide), if_neg (by decide), if_neg, if_neg (by omega), hKz, hKd]
      intro hh
      simp only [Bool.and_eq_true, decide_eq_true_eq] at hh
      exact he ⟨List.eq_nil_of_length_eq_zero (by omega), hh.2⟩
    · intro b hb
      rw [ctlL] at hb
      split at hb
      · exact hall b hb
      · rename_i hcne
        rcases List.mem_or_eq_of_mem_set hb with hb | rfl
        · exact hall b hb
        · rcases hc with hc | hc
          · exact absurd hc hcne
          · exact hc
    · intro x hx
      rw [ctlL]
      split
      · exact hget x hx
      · rw [List.getElem?_set, if_neg, hget x hx]
        intro e
        rw [hL0] at e
        have h1 := hw.pp x hx
        have hu := (usbl_iff hs0 (by omega)).1 (h.us x hx).1
        have hm8 := hw.m8
        omega
    · intro hcne
      refine ⟨by omega, ?_⟩
      rw [ctlL, if_neg hcne, List.getElem?_set, hL0, if_pos (by omega), if_pos (by omega)]
/-- The blocks of the addresses stand in the image. -/
structure FI (start base : Int) (im : Img) (at_ : List Int) (bl : List (List UInt8)) : Prop where
  il : (im.length : Int) ≤ base
  ok : im.all okE = true
  len : at_.length = bl.length
  fd : ∀ (i : Nat) (a : Int) (b : List UInt8), at_[i]? = some a → bl[i]? = some b → 0 ≤ a ∧ im[a.toNat]? = some b
  us : ∀ a ∈ at_, usbl start a = true ∧ a < base
  srt : at_.Pairwise (· < ·)
theorem FI.nil (start : Int) {base : Int} (h : 0 ≤ base) : FI start base [] [] [] := ⟨by simpa using h, rfl, rfl, (fun i a b h => by simp at h), (fun a h => by cases h), List.Pairwise.nil⟩
theorem recI_old {base : Int} {L im : Img} {i : Nat} {x : List UInt8} (h : im[i]? = some x) : (recI base L im)[i]? = some x := by
  have hlt := (List.getElem?_eq_some_iff.1 h).1
  rw [recI]
  split
  · exact h
  · rw [List.append_assoc, List.getElem?_append_left hlt]; exact h
theorem recI_new {base : Int} {L im : Img} {j : Nat} {x : List UInt8} (hb : (im.length : Int) ≤ base) (h : L[j]? = some x) : (recI base L im)[base.toNat + j]? = some x := by
  have hne : L ≠ [] := fun e => by rw [e] at h; simp at h
  rw [recI, if_neg hne, List.getElem?_append_right (by simp; omega)]
  have e : base.toNat + j - (im ++ List.replicate (base.toNat - im.length) ([] : List UInt8)).length = j := by simp; omega
  rw [e]; exact h
theorem recI_ok {base : Int} {L im : Img} (h : im.all okE = true) (hl : ∀ b ∈ L, b.length = 2048) : (recI base L im).all okE = true := by
  rw [List.all_eq_true] at h ⊢
  intro x hx
  rw [recI] at hx
  split at hx
  · exact h x hx
  · rcases List.mem_append.1 hx with hx | hx
    · rcases List.mem_append.1 hx with hx | hx
      · exact h x hx
      · rw [(List.mem_replicate.1 hx).2]; rfl
    · simp [okE, hl x hx]
theorem recI_le {base : Int} {L im : Img} (h : (im.length : Int) ≤ base) : ((recI base L im).length : Int) ≤ base + (L.length : Int) := by
  by_cases hL : L = []
  · rw [recI, if_pos hL]; omega
  · rw [recI_length hL h]; omega
theorem fi_next {start base : Int} {im : Img} {at_ : List Int} {bl : List (List UInt8)} {ps : List Pn} {L : Img} (h : FI start base im at_ bl) (ha : Ap start base ps) (hl : ∀ b ∈ L, b.length = 2048) (hg : ∀ x ∈ ps, L[(x.p - base).toNat]? = some x.b) :
    FI start (base + (L.length : Int)) (recI base L im) (at_ ++ ps.map (·.p)) (bl ++ ps.map (·.b)) := by
  have hw := ha.wf
  have hlt : ∀ x ∈ ps, (x.p - base).toNat < L.length := fun x hx => (List.getElem?_eq_some_iff.1 (hg x hx)).1
  refine ⟨recI_le h.il, recI_ok h.ok hl, by simp [h.len], ?_, ?_, ?_⟩
  · intro i a b hi hb
    rcases Nat.lt_or_ge i at_.length with h1 | h1
    · rw [List.getElem?_append_left h1] at hi
      rw [List.getElem?_append_left (by rw [← h.len]; exact h1)] at hb
      have := h.fd i a b hi hb
      exact ⟨this.1, recI_old this.2⟩
    · rw [List.getElem?_append_right h1, List.getElem?_map] at hi
      rw [List.getElem?_append_right (by rw [← h.len]; exact h1), List.getElem?_map, ← h.len] at hb
      cases hx : ps[i - at_.length]? with
      | none => rw [hx] at hi; cases hi
      | some x =>
        rw [hx] at hi hb
        obtain rfl := Option.some.inj hi
        obtain rfl := Option.some.inj hb
        have hm := List.mem_of_getElem? hx
        have hp := hw.pp x hm
        have hs0 := hw.s0
        have hsb := hw.sb
        have := recI_new h.il (hg x hm)
        rw [show base.toNat + (x.p - base).toNat = x.p.toNat from by omega] at this
        exact ⟨by show 0 ≤ x.p; omega, this⟩
  · intro a ha2
    rcases List.mem_append.1 ha2 with ha2 | ha2
    · have := h.us a ha2; exact ⟨this.1, by omega⟩
    · obtain ⟨x, hx, rfl⟩ := List.mem_map.1 ha2
      have := hlt x hx
      have := hw.pp x hx
      exact ⟨(ha.us x hx).1, by omega⟩
  · rw [List.pairwise_append]
    refine ⟨h.srt, List.pairwise_map.2 hw.srt, fun a ha2 b hb => ?_⟩
    obtain ⟨x, hx, rfl⟩ := List.mem_map.1 hb
    have := (h.us a ha2).2
    have := hw.pp x hx
    omega
/-- A flush that is recorded. -/
theorem fl_rec {start base : Int} {im : Img} {at_ : List Int} {bl : List (List UInt8)} {L : Img} {K : Nat} {ws : List Wr} (h : FI start base im at_ bl) (h0 : 0 ≤ base) (hcs : ws.map core = flC base L K) (hl : L.length = 8 * K) (hb : base + (L.length : Int) ≤ 4096) (ha : ∀ b ∈ L, b.length = 2048) :
    onceR im ws = true ∧ cutR im ws ((stL ws).length : Int) = (recI base L im, 0) ∧ (stL ws).length ≤ 4096 := by
  obtain ⟨hok, hK⟩ := okW_core hcs hl h0 hb ha
  have hst := stL_flush hcs hl
  have hil := h.il
  have hv : valid im ws = true := by
    simp only [valid, h.ok, hok, Bool.and_self, Bool.and_true, Bool.not_eq_true', Bool.or_eq_false_iff, decide_eq_false_iff_not]
    exact ⟨by omega, by omega⟩
  refine ⟨by rw [onceR, hv, hst, once_rec L base im hil hb]; rfl, ?_, by rw [hst, stB_length]; omega⟩
  rw [rec_ok hv, hst, run_rec _ base L im rfl hil hb]
end Go.Proofs.Ytfcjianiodiejaa
