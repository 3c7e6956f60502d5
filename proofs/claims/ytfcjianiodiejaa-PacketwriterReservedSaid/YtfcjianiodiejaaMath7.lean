/- Chapter 52: what a flush records. My own text. -/
import Derived.Test.YtfcjianiodiejaaMath3
import Derived.Test.YtfcjianiodiejaaMath5
set_option linter.unusedVariables false
set_option linter.unusedSimpArgs false
namespace Go.Proofs.Ytfcjianiodiejaa
open Go.XK Go.RowKit
theorem stB_app (a : Int) (x y : List (List UInt8)) : stB a (x ++ y) = stB a x ++ stB (a + (x.length : Int)) y := by
  simp only [stB, List.mapIdx_append]
  congr 1
  apply List.ext_getElem?
  intro i
  rw [List.getElem?_mapIdx, List.getElem?_mapIdx]
  cases y[i]? with
  | none => rfl
  | some b => simp only [Option.map_some]; congr 2; congr 1; omega
theorem stB_cons (a : Int) (b : List UInt8) (y : List (List UInt8)) : stB a (b :: y) = ⟨wr64 a, b, false⟩ :: stB (a + 1) y := by
  have h := stB_app a [b] y
  simpa [stB] using h
def stC (c : Int × List (List UInt8) × Bool × Bool) : List Stp := stB c.1 c.2.1 ++ if c.2.2.2 then [⟨0, [], true⟩] else []
theorem stL_core (ws : List Wr) : stL ws = (ws.map core).flatMap stC := by
  rw [stL, List.flatMap_map]; rfl
theorem stC_flC : ∀ (K : Nat) (base : Int) (L : Img) (t : Nat → Bool), 8 * K ≤ L.length → ((List.range K).map fun j => (base + ((8 * j : Nat) : Int), (L.take (8 * j + 8)).drop (8 * j), t j, false)).flatMap stC = stB base (L.take (8 * K))
  | 0, base, L, t, _ => by simp [stB]
  | K + 1, base, L, t, h => by
    rw [List.range_succ, List.map_append, List.flatMap_append, stC_flC K base L t (by omega)]
    have e : L.take (8 * (K + 1)) = L.take (8 * K) ++ (L.take (8 * K + 8)).drop (8 * K) := by
      rw [show 8 * (K + 1) = 8 * K + 8 from by omega]
      have := (List.take_append_drop (8 * K) (L.take (8 * K + 8))).symm
      rw [List.take_take, show min (8 * K) (8 * K + 8) = 8 * K from by omega] at this
      exact this
    rw [e, stB_app, List.length_take, show min (8 * K) L.length = 8 * K from by omega]
    simp [stC]
theorem stL_flush {ws : List Wr} {base : Int} {L : Img} {K : Nat} (h : ws.map core = flC base L K) (hl : L.length = 8 * K) : stL ws = stB base L := by
  rw [stL_core, h, flC, stC_flC K base L _ (by omega), List.take_of_length_le (by omega)]
theorem putI_far {X : Img} {p : Int} {b : List UInt8} (h : (X.length : Int) ≤ p) : putI X p b = X ++ List.replicate (p.toNat - X.length) [] ++ [b] := by
  have e : p.toNat + 1 - X.length = (p.toNat - X.length) + 1 := by omega
  rw [putI, e, List.replicate_succ', ← List.append_assoc, List.set_append_right _ _ (by simp; omega)]
  have e2 : p.toNat - (X ++ List.replicate (p.toNat - X.length) []).length = 0 := by simp; omega
  rw [e2]; rfl
/-- An image with blocks recorded from base on. -/
def recI (base : Int) (L im : Img) : Img := if L = [] then im else im ++ List.replicate (base.toNat - im.length) [] ++ L
theorem recI_length {base : Int} {L im : Img} (hL : L ≠ []) (h : (im.length : Int) ≤ base) : (recI base L im).length = base.toNat + L.length := by
  rw [recI, if_neg hL]; simp; omega
theorem run_rec : ∀ (n : Nat) (base : Int) (L im : Img), L.length = n → (im.length : Int) ≤ base → base + (L.length : Int) ≤ 4096 → runL (stB base L) im = recI base L im
  | 0, base, L, im, hn, h, _ => by
    rw [List.eq_nil_of_length_eq_zero hn]; simp [stB, runL, recI]
  | n + 1, base, L, im, hn, h, hb => by
    obtain ⟨L0, b, rfl⟩ : ∃ L0 b, L = L0 ++ [b] := ⟨L.dropLast, L.getLast (fun e => by rw [e] at hn; simp at hn), (List.dropLast_concat_getLast _).symm⟩
    have hl0 : L0.length = n := by simpa using hn
    rw [List.length_append] at hb
    simp only [List.length_singleton] at hb
    rw [stB_app, show stB (base + (L0.length : Int)) [b] = [⟨wr64 (base + (L0.length : Int)), b, false⟩] from by simp [stB], runL_snoc, run_rec n base L0 im hl0 h (by omega), putS, if_neg (by simp)]
    show putI (recI base L0 im) (wr64 (base + (L0.length : Int))) b = _
    rw [wr64_id (by omega) (by omega)]
    by_cases hL : L0 = []
    · subst hL
      rw [recI, if_pos rfl, putI_far (by simpa using h), recI, if_neg (by simp)]
      simp
    · rw [putI_far (by rw [recI_length hL h]; omega), recI_length hL h, show (base + (L0.length : Int)).toNat - (base.toNat + L0.length) = 0 from by omega, recI, if_neg hL, recI, if_neg (by simp)]
      simp
theorem once_rec : ∀ (L : Img) (base : Int) (im : Img), (im.length : Int) ≤ base → base + (L.length : Int) ≤ 4096 → onceL (stB base L) im = true
  | [], base, im, _, _ => by simp [stB, onceL]
  | b :: L, base, im, h, hb => by
    simp only [List.length_cons] at hb
    have e : wr64 base = base := wr64_id (by omega) (by omega)
    have hd : decide (base < (im.length : Int)) = false := decide_eq_false (by omega)
    rw [stB_cons, e, onceL, if_neg (by simp), if_neg (by show ¬ ((decide (base < (im.length : Int)) && _) = true); rw [hd]; simp)]
    exact once_rec L (base + 1) (putI im base b) (by rw [putI_length]; omega) (by omega)

/-! ### Addresses that are assigned -/
theorem usbl_iff {start a : Int} (h0 : 0 ≤ start) (h1 : start ≤ a) : usbl start a = true ↔ (a - start) % 8 ≠ 7 := by
  simp [usbl, h0, h1]
theorem asg_some : ∀ (n : Nat) (start a : Int), 0 ≤ start → start ≤ a → a + 2 * (n : Int) + 8 ≤ 4096 → ∃ l, asgA start a n = some l ∧ l.length = n ∧ (∀ x ∈ l, a ≤ x ∧ x < a + 2 * (n : Int) ∧ usbl start x = true) ∧ l.Pairwise (· < ·)
  | 0, start, a, _, _, _ => ⟨[], asg_zero, rfl, (fun x hx => by cases hx), List.Pairwise.nil⟩
  | n + 1, start, a, h0, h1, h2 => by
    by_cases hu : usbl start a = true
    · obtain ⟨l, hl, hn, hm, hp⟩ := asg_some n start (a + 1) h0 (by omega) (by omega)
      refine ⟨a :: l, by rw [asg_yes (by omega) (by omega) hu, hl]; rfl, by simp [hn], fun x hx => ?_, List.Pairwise.cons (fun x hx => by have := hm x hx; omega) hp⟩
      rcases List.mem_cons.1 hx with rfl | hx
      · exact ⟨by omega, by omega, hu⟩
      · have := hm x hx; exact ⟨by omega, by omega, this.2.2⟩
    · have h7 : (a - start) % 8 = 7 := by
        rcases Classical.em ((a - start) % 8 = 7) with h | h
        · exact h
        · exact absurd ((usbl_iff h0 h1).2 h) hu
      have hu2 : usbl start (a + 1) = true := (usbl_iff h0 (by omega)).2 (by omega)
      obtain ⟨l, hl, hn, hm, hp⟩ := asg_some n start (a + 2) h0 (by omega) (by omega)
      refine ⟨(a + 1) :: l, by rw [asg_no (by omega) (by omega) (by simpa using hu), asg_yes (by omega) (by omega) hu2, show a + 1 + 1 = a + 2 from by omega, hl]; rfl, by simp [hn], fun x hx => ?_, List.Pairwise.cons (fun x hx => by have := hm x hx; omega) hp⟩
      rcases List.mem_cons.1 hx with rfl | hx
      · exact ⟨by omega, by omega, hu2⟩
      · have := hm x hx; exact ⟨by omega, by omega, this.2.2⟩
theorem appP_p {l : List Int} {bs : List (List UInt8)} (h : l.length = bs.length) : (appP l bs).map (·.p) = l := by
  rw [appP, List.map_zipWith]
  apply List.ext_getElem?
  intro i
  simp only [List.getElem?_zipWith]
  by_cases hi : i < l.length
  · rw [List.getElem?_eq_getElem hi, List.getElem?_eq_getElem (by omega)]
  · rw [List.getElem?_eq_none (by omega)]
theorem appP_b {l : List Int} {bs : List (List UInt8)} (h : l.length = bs.length) : (appP l bs).map (·.b) = bs := by
  rw [appP, List.map_zipWith]
  apply List.ext_getElem?
  intro i
  simp only [List.getElem?_zipWith]
  by_cases hi : i < l.length
  · rw [List.getElem?_eq_getElem hi, List.getElem?_eq_getElem (by omega)]
  · rw [List.getElem?_eq_none (by omega), List.getElem?_eq_none (by omega)]
/-- What a writer that only appends has: its pending addresses, all filled and usable, within bounds. -/
structure Ap (start base : Int) (ps : List Pn) : Prop where
  wf : Wf start base ps
  us : ∀ x ∈ ps, usbl start x.p = true ∧ x.b.length = 2048
  up : atP base ps ≤ base + 2 * (ps.length : Int)
theorem Ap.nil {start base : Int} (h : Wf start base []) : Ap start base [] := ⟨h, (fun x hx => by cases hx), by rw [atP, if_pos rfl]; simp⟩
theorem lastP_append {base : Int} {ps qs : List Pn} {x : Pn} (h : qs.getLast? = some x) : lastP base (ps ++ qs) = x.p := by
  rw [lastP, List.getLast?_append, h]; rfl
theorem ap_append {start base : Int} {ps : List Pn} {bs : List (List UInt8)} (h : Ap start base ps) (hb : ∀ b ∈ bs, b.length = 2048) (hn : base + 2 * ((ps.length : Int) + (bs.length : Int)) + 8 ≤ 4096) :
    ∃ l, apR bs start base ps = (0, l, ps ++ appP l bs) ∧ l.length = bs.length ∧ Ap start base (ps ++ appP l bs) := by
  have hw := h.wf
  have haw := atP_wf hw
  have hup := h.up
  have hs0 := hw.s0
  have hsb := hw.sb
  obtain ⟨l, hl, hln, hm, hp⟩ := asg_some bs.length start (atP base ps) hw.s0 (Int.le_trans hw.sb haw.1) (by omega)
  have hbad : bs.any badB = false := by
    rw [List.any_eq_false]
    intro b hb2
    simp [badB, hb b hb2]
  refine ⟨l, apR_some hbad hl, hln, ?_⟩
  have hmem : ∀ y ∈ appP l bs, y.p ∈ l ∧ y.b ∈ bs := fun y hy => by
    constructor
    · rw [← appP_p hln]; exact List.mem_map_of_mem hy
    · rw [← appP_b hln]; exact List.mem_map_of_mem hy
  have hlen : (ps ++ appP l bs).length = ps.length + bs.length := by rw [List.length_append, appP_length hln, hln]
  have hold : ∀ x ∈ ps, x.p < atP base ps := fun x hx => by
    have h1 := lastP_max hw x hx
    rw [atP, if_neg (fun e => by rw [e] at hx; cases hx)]; omega
  refine ⟨⟨hw.s0, hw.sb, hw.b1, fun x hx => ?_, by rw [hlen]; omega, hw.m8, ?_⟩, fun x hx => ?_, ?_⟩
  · rcases List.mem_append.1 hx with hx | hx
    · exact hw.pp x hx
    · have := hm x.p (hmem x hx).1; exact ⟨by omega, by omega⟩
  · rw [List.pairwise_append]
    refine ⟨hw.srt, ?_, fun x hx y hy => ?_⟩
    · exact List.pairwise_map.1 (show ((appP l bs).map (·.p)).Pairwise (· < ·) by rw [appP_p hln]; exact hp)
    · have h1 := hold x hx
      have h2 := hm y.p (hmem y hy).1
      omega
  · rcases List.mem_append.1 hx with hx | hx
    · exact h.us x hx
    · exact ⟨(hm x.p (hmem x hx).1).2.2, hb x.b (hmem x hx).2⟩
  · rw [hlen]
    rcases Nat.eq_zero_or_pos bs.length with h0 | h0
    · have hb0 : bs = [] := List.eq_nil_of_length_eq_zero h0
      subst hb0
      rw [show appP l [] = [] from by simp [appP], List.append_nil]
      simp; exact hup
    · obtain ⟨x, hx⟩ : ∃ x, (appP l bs).getLast? = some x := by
        rw [List.getLast?_eq_getElem?]
        exact ⟨_, List.getElem?_eq_getElem (by rw [appP_length hln]; omega)⟩
      rw [atP, if_neg (fun e => by rw [List.append_eq_nil_iff] at e; rw [e.2] at hx; cases hx), lastP_append hx]
      have := hm x.p (hmem x (List.mem_of_getLast? hx)).1
      omega
end Go.Proofs.Ytfcjianiodiejaa
