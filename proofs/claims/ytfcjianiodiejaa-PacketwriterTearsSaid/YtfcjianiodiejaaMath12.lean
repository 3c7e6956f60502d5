/- Chapter 52: what a power loss leaves, address by address. My own text. -/
import Derived.Test.YtfcjianiodiejaaMath6
import Derived.Test.YtfcjianiodiejaaXKp
set_option linter.unusedVariables false
set_option linter.unusedSimpArgs false
namespace Go.Proofs.Ytfcjianiodiejaa
open Go.XK Go.RowKit
/-- The string that a map's element is. -/
def strV (b : List UInt8) : Value := .string (B b)
/-- The addresses of the map f: what the image o has there; elsewhere it is the image im. -/
structure WI (im o : Img) (f : Int → Option Value) : Prop where
  len : im.length ≤ o.length
  inn : ∀ p v, f p = some v → 0 ≤ p ∧ p < (o.length : Int) ∧ ∃ b, v = strV b
  at_ : ∀ (j : Nat) (s : List UInt8), o[j]? = some s → (∀ b, f (j : Int) = some (strV b) → s = b) ∧ (f (j : Int) = none → s = im.getD j [])
theorem strV_inj {a b : List UInt8} (h : strV a = strV b) : a = b := B_inj (by unfold strV at h; injection h)
theorem WI.start (im : Img) : WI im im (fun _ => none) := ⟨Nat.le_refl _, (fun p v h => by cases h), fun j s h => ⟨(fun b h => by cases h), fun _ => by rw [List.getD_eq_getElem?_getD, h]; rfl⟩⟩
theorem WI.put {im o : Img} {f : Int → Option Value} (h : WI im o f) {p : Int} (hp : 0 ≤ p) (b : List UInt8) : WI im (putI o p b) (updM f p (strV b)) := by
  refine ⟨by rw [putI_length]; have := h.len; omega, fun q v hq => ?_, fun j s hj => ?_⟩
  · rw [putI_length]
    unfold updM at hq
    split at hq
    · rename_i e; subst e; injection hq with hq; exact ⟨hp, by omega, b, hq.symm⟩
    · obtain ⟨h1, h2, h3⟩ := h.inn q v hq; exact ⟨h1, by omega, h3⟩
  · have hlt := (List.getElem?_eq_some_iff.1 hj).1
    have hg := putI_get o p b j
    rw [List.getD_eq_getElem?_getD, hj] at hg
    have hg : s = if j = p.toNat then b else o.getD j [] := hg
    unfold updM
    by_cases e : j = p.toNat
    · rw [if_pos e] at hg
      rw [if_pos (show (j : Int) = p by omega)]
      exact ⟨fun b' hb => by injection hb with hb; rw [hg]; exact strV_inj hb, fun hb => by cases hb⟩
    · rw [if_neg e] at hg
      rw [if_neg (show ¬ (j : Int) = p by omega)]
      by_cases hjo : j < o.length
      · have h1 := h.at_ j (o.getD j []) (by rw [List.getD_eq_getElem?_getD, List.getElem?_eq_getElem hjo]; rfl)
        rw [hg]; exact h1
      · have hn : o.getD j [] = [] := by rw [List.getD_eq_getElem?_getD, List.getElem?_eq_none (by omega)]; rfl
        rw [hg, hn]
        refine ⟨fun b' hb => ?_, fun _ => ?_⟩
        · have := (h.inn _ _ hb).2.1; omega
        · rw [List.getD_eq_getElem?_getD, List.getElem?_eq_none (by have := h.len; omega)]; rfl
/-- The state behind the steps pre. -/
def WS (im : Img) (n : Nat) (pre : List Stp) (f : Int → Option Value) : Prop := WI im (cutL pre n im) f
theorem WS.nil (im : Img) (n : Nat) : WS im n [] (fun _ => none) := by
  show WI im (cutL [] n im) _
  rw [show cutL [] n im = im by cases n <;> rfl]; exact WI.start im
theorem WS.close {im : Img} {n : Nat} {pre : List Stp} {f : Int → Option Value} (h : WS im n pre f) : WS im n (pre ++ [⟨0, [], true⟩]) f := by
  unfold WS at h ⊢
  rcases Nat.lt_trichotomy pre.length n with h1 | h1 | h1
  · rw [cutL_lt _ _ _ _ h1, putS, if_pos rfl]; exact h
  · subst h1; rw [cutL_eq, tear, if_pos rfl]; exact h
  · rw [cutL_gt _ _ _ _ h1]; exact h
theorem WS.lt {im : Img} {n : Nat} {pre : List Stp} {f : Int → Option Value} (h : WS im n pre f) {p : Int} {b : List UInt8} (hp : 0 ≤ p) (hl : pre.length < n) : WS im n (pre ++ [⟨p, b, false⟩]) (updM f p (strV b)) := by
  unfold WS at h ⊢
  rw [cutL_lt _ _ _ _ hl, putS, if_neg (by simp)]; exact h.put hp b
theorem WS.eq {im : Img} {n : Nat} {pre : List Stp} {f : Int → Option Value} (h : WS im n pre f) {p : Int} {b : List UInt8} (hp : 0 ≤ p) (hl : pre.length = n) : WS im n (pre ++ [⟨p, b, false⟩]) (updM f p (strV [33])) := by
  unfold WS at h ⊢
  subst hl
  rw [cutL_eq, tear, if_neg (by simp)]; exact h.put hp [33]
theorem WS.gt {im : Img} {n : Nat} {pre : List Stp} {f : Int → Option Value} (h : WS im n pre f) (s : Stp) (hl : n < pre.length) : WS im n (pre ++ [s]) f := by
  unfold WS at h ⊢
  rw [cutL_gt _ _ _ _ hl]; exact h
end Go.Proofs.Ytfcjianiodiejaa
