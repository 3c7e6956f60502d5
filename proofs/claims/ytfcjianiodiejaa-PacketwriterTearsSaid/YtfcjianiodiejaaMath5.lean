/- Chapter 52: what a power loss keeps; two lists one after the other. My own text. -/
import Derived.Test.YtfcjianiodiejaaMath2
set_option linter.unusedVariables false
set_option linter.unusedSimpArgs false
namespace Go.Proofs.Ytfcjianiodiejaa
open Go.XK Go.RowKit
theorem putI_get? {im : Img} {p : Int} {b : List UInt8} {i : Nat} {x : List UInt8} (h : im[i]? = some x) (hne : i ≠ p.toNat) : (putI im p b)[i]? = some x := by
  have hlt := (List.getElem?_eq_some_iff.1 h).1
  rw [putI, List.getElem?_set, if_neg (fun e => hne e.symm), List.getElem?_append_left hlt]; exact h
theorem keep_put {im : Img} {p : Int} {b x : List UInt8} {i : Nat} (h0 : 0 ≤ p) (h : im[i]? = some x) (hx : x ≠ []) (hno : (decide (p < (im.length : Int)) && decide (im.getD p.toNat [] ≠ [])) = false) : (putI im p b)[i]? = some x := by
  refine putI_get? h (fun e => ?_)
  subst e
  have hlt := (List.getElem?_eq_some_iff.1 h).1
  rw [List.getD_eq_getElem?_getD, h, decide_eq_true (show p < (im.length : Int) by omega)] at hno
  simp at hno
  exact hx hno
theorem keepsL : ∀ (L : List Stp) (n : Nat) (im : Img), (∀ s ∈ L, s.cl = false → 0 ≤ s.p) → onceL L im = true → im.length ≤ (cutL L n im).length ∧ ∀ (i : Nat) (x : List UInt8), im[i]? = some x → x ≠ [] → (cutL L n im)[i]? = some x
  | [], n, im, _, _ => ⟨Nat.le_refl _, fun i x h _ => h⟩
  | s :: r, n, im, hp, h => by
    cases hc : s.cl with
    | true =>
      rw [once_close hc] at h
      have ih := fun n => keepsL r n im (fun t ht => hp t (by simp [ht])) h
      cases n with
      | zero => rw [cutL, tear, if_pos hc]; exact ⟨Nat.le_refl _, fun i x h _ => h⟩
      | succ n => rw [cutL, putS, if_pos hc]; exact ih n
    | false =>
      cases hb : (decide (s.p < (im.length : Int)) && decide (im.getD s.p.toNat [] ≠ [])) with
      | true => rw [once_bad hc hb] at h; cases h
      | false =>
        rw [once_ok hc hb] at h
        have h0 := hp s (by simp) hc
        cases n with
        | zero => rw [cutL, tear, if_neg (by simp [hc])]; exact ⟨by rw [putI_length]; omega, fun i x hi hx => keep_put h0 hi hx hb⟩
        | succ n =>
          rw [cutL, putS, if_neg (by simp [hc])]
          have ih := keepsL r n (putI im s.p s.b) (fun t ht => hp t (by simp [ht])) h
          refine ⟨Nat.le_trans (by rw [putI_length]; omega) ih.1, fun i x hi hx => ih.2 i x (keep_put h0 hi hx hb) hx⟩
theorem once_spec {im : Img} {ws : List Wr} (h : onceR im ws = true) : valid im ws = true ∧ onceL (stL ws) im = true := by
  rw [onceR, Bool.and_eq_true] at h; exact h
theorem cutR_ok {im : Img} {ws : List Wr} {z : Int} (hv : valid im ws = true) (h0 : 0 ≤ z) (h1 : z ≤ ((stL ws).length : Int)) : cutR im ws z = (cutL (stL ws) z.toNat im, 0) := by
  rw [cutR, if_neg (by rw [hv]; decide), if_neg (by omega)]
theorem cutR_range {im : Img} {ws : List Wr} {z : Int} (hv : valid im ws = true) (h : z < 0 ∨ ((stL ws).length : Int) < z) : cutR im ws z = ([], 2) := by
  rw [cutR, if_neg (by rw [hv]; decide), if_pos h]
theorem keeps_all {im : Img} {ws : List Wr} {z : Int} (h : onceR im ws = true) (h0 : 0 ≤ z) (h1 : z ≤ ((stL ws).length : Int)) : ∃ o, cutR im ws z = (o, 0) ∧ im.length ≤ o.length ∧ ∀ (i : Nat) (x : List UInt8), im[i]? = some x → x ≠ [] → o[i]? = some x := by
  obtain ⟨hv, ho⟩ := once_spec h
  have hk := keepsL (stL ws) z.toNat im (fun s hs hc => (okL_mem (valid_spec hv).2.2.2 hs hc).1) ho
  exact ⟨_, cutR_ok hv h0 h1, hk.1, hk.2⟩
theorem keep_no {x y : List UInt8} (h : x ≠ [] → y = x) : (decide (x ≠ []) && decide (y ≠ x)) = false := by
  by_cases hx : x = []
  · simp [hx]
  · simp [hx, h hx]

/-! ### One after the other -/
theorem cutL_app : ∀ (A B : List Stp) (n : Nat) (im : Img), cutL (A ++ B) (A.length + n) im = cutL B n (runL A im)
  | [], B, n, im => by simp [runL]
  | s :: A, B, n, im => by
    show cutL (s :: (A ++ B)) ((A.length + 1) + n) im = _
    rw [show (A.length + 1) + n = (A.length + n) + 1 from by omega, cutL, cutL_app A B n]; rfl
theorem cutL_all (A : List Stp) (im : Img) : cutL A A.length im = runL A im := by
  have h := cutL_app A [] 0 im
  simpa [cutL] using h
theorem runL_app (A B : List Stp) (im : Img) : runL (A ++ B) im = runL B (runL A im) := by simp [runL]
theorem stL_app (a b : List Wr) : stL (a ++ b) = stL a ++ stL b := by simp [stL]
theorem okE_put {im : Img} {p : Int} {b : List UInt8} (h : im.all okE = true) (hb : b.length = 2048) : (putI im p b).all okE = true := by
  rw [List.all_eq_true] at h ⊢
  intro x hx
  rw [putI] at hx
  rcases List.mem_or_eq_of_mem_set hx with hx | rfl
  · rcases List.mem_append.1 hx with hx | hx
    · exact h x hx
    · rw [(List.mem_replicate.1 hx).2]; rfl
  · simp [okE, hb]
theorem okE_run : ∀ (L : List Stp) (im : Img), (∀ s ∈ L, s.cl = false → s.b.length = 2048) → im.all okE = true → (runL L im).all okE = true
  | [], im, _, h => h
  | s :: r, im, hs, h => okE_run r (putS s im) (fun t ht => hs t (by simp [ht])) (by
    unfold putS
    split
    · exact h
    · rename_i hc; exact okE_put h (hs s (by simp) (by simpa using hc)))
theorem valid_run {im : Img} {a b : List Wr} (ha : valid im a = true) (hb : valid im b = true) : valid (runL (stL a) im) b = true := by
  obtain ⟨h1, h2, h3, h4⟩ := valid_spec ha
  obtain ⟨_, k2, _, k4⟩ := valid_spec hb
  have hl := runL_length (stL a) im (fun s hs hc => (okL_mem h4 hs hc).2.1) h1
  have he := okE_run (stL a) im (fun s hs hc => (okL_mem h4 hs hc).2.2) h3
  simp only [valid, he, k4, Bool.and_self, Bool.and_true, Bool.not_eq_true', Bool.or_eq_false_iff, decide_eq_false_iff_not]
  exact ⟨by omega, by omega⟩
theorem valid_app {im : Img} {a b : List Wr} (ha : valid im a = true) (hb : valid im b = true) (hl : a.length + b.length ≤ 1024) : valid im (a ++ b) = true := by
  obtain ⟨h1, h2, h3, h4⟩ := valid_spec ha
  obtain ⟨_, k2, _, k4⟩ := valid_spec hb
  simp only [valid, h3, List.all_append, h4, k4, Bool.and_self, Bool.and_true, Bool.not_eq_true', Bool.or_eq_false_iff, decide_eq_false_iff_not, List.length_append]
  exact ⟨by omega, by omega⟩
theorem rec_ok {im : Img} {ws : List Wr} (hv : valid im ws = true) : cutR im ws ((stL ws).length : Int) = (runL (stL ws) im, 0) := by
  rw [cutR_ok hv (by omega) (by omega), Int.toNat_natCast, cutL_all]
theorem join_cut {im : Img} {a b : List Wr} {z : Int} (ha : valid im a = true) (hb : valid im b = true) (hl : a.length + b.length ≤ 1024) (h0 : 0 ≤ z) (h1 : z ≤ ((stL b).length : Int)) : cutR im (a ++ b) (((stL a).length : Int) + z) = (cutL (stL b) z.toNat (runL (stL a) im), 0) := by
  rw [cutR_ok (valid_app ha hb hl) (by omega) (by rw [stL_app, List.length_append]; omega), stL_app, show (((stL a).length : Int) + z).toNat = (stL a).length + z.toNat from by omega, cutL_app]
theorem Inn.app {w : World} {a b : List Wr} (ha : Inn w a) (hb : Inn w b) : Inn w (a ++ b) := fun x hx => by
  rcases List.mem_append.1 hx with hx | hx
  · exact ha x hx
  · exact hb x hx
end Go.Proofs.Ytfcjianiodiejaa
