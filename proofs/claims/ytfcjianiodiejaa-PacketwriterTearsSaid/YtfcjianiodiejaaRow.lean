/- Chapter 52: the arguments of the laws. My own text. -/
import Derived.Test.YtfcjianiodiejaaXKn
import Derived.Test.YtfcjianiodiejaaMath
import Derived.Test.YtfcjianiodiejaaProg
set_option linter.unusedVariables false
set_option maxRecDepth 20000
namespace Go.XK
open Go.RowKit
theorem open_slr {H : Type} {enc : TypeId × Value → H} {P : Program} {w : World} {base : Nat} {spare : Nat → Bool} {held : Bool} {α : Type} (ea : α → List Value) (ok : α → Prop) {t e : TypeId} {k : Nat} (ht : P.underlying t = some (.slice e)) (hk : P.cellsOf e = k) (hel : ∀ n cs y, DataW.trod enc P w base spare held n e cs = some y → ∃ x, ea x = cs ∧ ok x)
    {A : Option Addr} {len cap : Nat} {d : DataW H} {p : List MemPlace} (h : DataW.Trod enc P w base spare held t (.slice A len cap) d p) : ∃ xs : List α, xs.length = len ∧ SlR w A cap k ea xs ∧ ∀ x ∈ xs, ok x := by
  obtain ⟨xs, h1, h2, h3, h4, h5⟩ := open_rd ea ok ht hk hel h
  refine ⟨xs, h1, ⟨h4, by omega, h3, fun hA => ?_⟩, h5⟩
  subst hA
  obtain ⟨fuel, hf⟩ := h
  rcases Go.Deep.open_slice ht hf with ⟨h0, _⟩ | ⟨a, l, c, m, n, D, Pl, hcs, _⟩
  · simp only [Value.cells] at h0
    have h0 : Value.slice none len cap = .slice none 0 0 := by simpa using h0
    cases h0; rfl
  · simp only [Value.cells] at hcs
    have hcs : Value.slice none len cap = .slice (some a) l c := by simp at hcs
    cases hcs
end Go.XK
namespace Go.Proofs.Ytfcjianiodiejaa
open Go.XK Go.RowKit
theorem open_str {H : Type} {enc : TypeId × Value → H} {w : World} {base : Nat} {spare : Nat → Bool} {held : Bool} (n : Nat) (cs : List Value) (y : DataW H × List MemPlace) (h : DataW.trod enc Try.prog w base spare held n 9 cs = some y) : ∃ x : List UInt8, encS x = cs ∧ True := by
  obtain ⟨s, rfl, _⟩ := DataW.trod_string Try.underlying9 h
  exact ⟨s.data.toList, by rw [encS, B_data], trivial⟩
theorem open_wr {H : Type} {enc : TypeId × Value → H} {w : World} {base : Nat} {spare : Nat → Bool} {held : Bool} (n : Nat) (cs : List Value) (y : DataW H × List MemPlace) (h : DataW.trod enc Try.prog w base spare held n 49 cs = some y) : ∃ x : Wr, encW x = cs ∧ SlR w x.A x.c 1 encS x.bl := by
  obtain ⟨xs, m, _, _, hl, hxl, hf⟩ := DataW.trod_struct Try.underlying49 h
  have hl : cs.length = 4 := hl.trans (by kernel_rfl)
  have hxl : xs.length = 4 := hxl
  match cs, hl, xs, hxl with
  | [v0, v1, v2, v3], _, [y0, y1, y2, y3], _ =>
    have c3 : Try.prog.cellsOf 3 = 1 := by kernel_rfl
    have c4 : Try.prog.cellsOf 4 = 1 := by kernel_rfl
    have c22 : Try.prog.cellsOf 22 = 1 := by kernel_rfl
    have g0 := hf 0 ⟨"At", 3, 0, false, "", "", 0⟩ rfl
    have g1 := hf 1 ⟨"Blocks", 22, 1, false, "", "", 8⟩ rfl
    have g2 := hf 2 ⟨"Sync", 4, 2, false, "", "", 32⟩ rfl
    have g3 := hf 3 ⟨"Close", 4, 3, false, "", "", 33⟩ rfl
    simp [c3, c4, c22] at g0 g1 g2 g3
    obtain ⟨n0, e0, _, w0⟩ := DataW.trod_int Try.underlying3 g0
    obtain ⟨b2, e2, _⟩ := DataW.trod_bool Try.underlying4 g2
    obtain ⟨b3, e3, _⟩ := DataW.trod_bool Try.underlying4 g3
    cases e0; cases e2; cases e3
    rcases Go.Deep.open_slice Try.underlying22 g1 with ⟨h0, _⟩ | ⟨a, l, c, m1, n1, D, Pl, hcs, _⟩
    · cases h0
      exact ⟨⟨n0, [], b2, b3, none, 0⟩, rfl, SlR.nil _⟩
    · cases hcs
      obtain ⟨xs, hx1, hx2, _⟩ := open_slr (A := some a) (len := l) (cap := c) encS (fun _ => True) (k := 1) Try.underlying22 (by kernel_rfl) open_str ⟨_, g1⟩
      subst hx1
      exact ⟨⟨n0, xs, b2, b3, some a, c⟩, rfl, hx2⟩
end Go.Proofs.Ytfcjianiodiejaa
