/- The calculus of the walks, part 15: several rows of one's own of the same element type. My own text. -/
import Derived.Test.YtnbclhbpjlpcoaaXKn
set_option linter.unusedVariables false
set_option linter.unusedSimpArgs false
namespace Go.XK
open Go.RowKit
/-- Two rows lie in different blocks. -/
def Dj (v u : Value) : Prop := ∀ g, v.ownBlock = some g → u.ownBlock ≠ some g
section
variable {w w1 : World} {b b2 e e2 kk k2 : Nat} {v v1 u : Value} {α β : Type} {enc : α → List Value} {enc2 : β → List Value} {xs : List α} {zs : List β}
theorem Dj.symm (h : Dj v u) : Dj u v := fun g h1 h2 => h g h2 h1
theorem Dj.nilL (u : Value) {n c : Nat} : Dj (.slice none n c) u := fun g h => by cases h
theorem Dj.nilR (u : Value) {n c : Nat} : Dj u (.slice none n c) := fun g _ h => by cases h
theorem Dj.app (h : Dj v u) (hu : Own w b e kk enc u xs) (hat : v1.ownBlock = v.ownBlock ∨ v1.ownBlock = some w.heap.size) : Dj v1 u := fun g h1 h2 => by
  rcases hat with h3 | h3
  · exact h g (h3 ▸ h1) h2
  · have := (Own.lt hu g h2).2
    rw [h3] at h1; injection h1 with h1; omega
theorem Dj.new (hn : Own w1 w.heap.size e kk enc v xs) (hu : Own w b e2 k2 enc2 u zs) : Dj v u := fun g h1 h2 => by
  have := (Own.lt hu g h2).2
  have := (Own.lt hn g h1).1
  omega
theorem Dj.at_ {g n c : Nat} (h : u.ownBlock ≠ some g) : Dj (.slice (some ⟨g, 0, none⟩) n c) u := fun g2 h1 h2 => h (by have h1 : some g = some g2 := h1; rw [h1]; exact h2)
theorem Own.dj (hu : Own w b e kk enc u xs) (h : Dj v u) (hg : w.grownBy w1 v.ownBlock) : Own w1 b e kk enc u xs := by
  refine ⟨hu.1, ?_⟩
  rcases hu.2 with h1 | ⟨g, cap, cur, hv, h2, hh, r⟩
  · exact .inl h1
  · refine .inr ⟨g, cap, cur, hv, h2, grown_blk hg hh (fun e_ => h g e_ (by rw [hv]; rfl)), r⟩
end
end Go.XK
