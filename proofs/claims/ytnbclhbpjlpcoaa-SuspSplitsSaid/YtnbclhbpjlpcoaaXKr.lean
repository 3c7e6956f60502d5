/- The rows: what an argument's reading tells of memory, in the calculus' words. My own text. -/
import Derived.Test.YtnbclhbpjlpcoaaXKj
import Derived.Deep.Slices
import Derived.OpenShut
set_option linter.unusedVariables false
namespace Go.XK
open Go.RowKit
section
variable {H : Type} {enc : TypeId × Value → H} {P : Program} {w : World} {base : Nat} {spare : Nat → Bool} {held : Bool} {α : Type}
theorem choose_list {β : Type} (Q : Nat → β → Prop) : ∀ n : Nat, (∀ i, i < n → ∃ x, Q i x) → ∃ xs : List β, xs.length = n ∧ ∀ i x, xs[i]? = some x → Q i x
  | 0, _ => ⟨[], rfl, fun i x h => by simp at h⟩
  | n + 1, h => by
    obtain ⟨xs, hl, hx⟩ := choose_list Q n (fun i hi => h i (by omega))
    obtain ⟨y, hy⟩ := h n (by omega)
    refine ⟨xs ++ [y], by simp [hl], fun i x hi => ?_⟩
    rcases Nat.lt_or_ge i xs.length with h1 | h1
    · rw [List.getElem?_append_left h1] at hi; exact hx i x hi
    · rw [List.getElem?_append_right h1] at hi
      have : i = n := by
        have := (List.getElem?_eq_some_iff.1 hi).1
        simp at this; omega
      subst this
      rw [hl, Nat.sub_self] at hi
      simp at hi; subst hi; exact hy
theorem open_rd (ea : α → List Value) (ok : α → Prop) {t e : TypeId} {k : Nat} (ht : P.underlying t = some (.slice e)) (hk : P.cellsOf e = k) (hel : ∀ n cs y, DataW.trod enc P w base spare held n e cs = some y → ∃ x, ea x = cs ∧ ok x)
    {A : Option Addr} {len cap : Nat} {d : DataW H} {p : List MemPlace} (h : DataW.Trod enc P w base spare held t (.slice A len cap) d p) : ∃ xs : List α, xs.length = len ∧ len ≤ cap ∧ cap ≤ maxLen ∧ Rd w A k ea xs ∧ ∀ x ∈ xs, ok x := by
  obtain ⟨fuel, hf⟩ := h
  rcases Go.Deep.open_slice ht hf with ⟨h0, _⟩ | ⟨a, l, c, m, n, D, Pl, hcs, _, hl, hm, hmm, _, hx⟩
  · simp only [Value.cells] at h0
    have h0 : Value.slice A len cap = .slice none 0 0 := by simpa using h0
    cases h0
    exact ⟨[], rfl, Nat.le_refl _, by simp, Rd.nil _ _ _ _, fun x hx => by cases hx⟩
  · simp only [Value.cells] at hcs
    have hcs : Value.slice A len cap = .slice (some a) l c := by simpa using hcs
    cases hcs
    have hlm : len ≤ m := by rw [hmm]; split <;> omega
    obtain ⟨xs, hxl, hxs⟩ := choose_list (fun i (x : α) => ok x ∧ ∀ j v, (ea x)[j]? = some v → w.cell? (a.add (i * k + j)) = some v) len (fun i hi => by
      obtain ⟨cs', h1, h2⟩ := hx i (by omega)
      obtain ⟨x, hex, hok⟩ := hel n cs' _ h2
      refine ⟨x, hok, fun j v hj => ?_⟩
      obtain ⟨_, hlen, hcell⟩ := World.cells?_some h1
      rw [hex] at hj
      have hjl : j < P.cellsOf e := by
        have := (List.getElem?_eq_some_iff.1 hj).1
        omega
      have := hcell j hjl
      rw [addadd, hk] at this
      rw [this]; exact hj)
    exact ⟨xs, hxl, hl, hm, .inr ⟨a, rfl, fun j x hj => (hxs j x hj).2⟩, fun x hx => by
      obtain ⟨i, hi⟩ := List.getElem?_of_mem hx
      exact (hxs i x hi).1⟩
theorem wf_i64 {n : Int} (h : (Lit.int .i64 n).wf = true) : -9223372036854775808 ≤ n ∧ n ≤ 9223372036854775807 := by
  simp [Lit.wf, IntKind.min, IntKind.max, IntKind.signed, IntKind.bits] at h
  omega
end
end Go.XK
