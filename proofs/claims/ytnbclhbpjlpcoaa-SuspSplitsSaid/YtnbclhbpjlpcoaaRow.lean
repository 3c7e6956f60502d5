/- Chapter 24: the arguments of the laws. My own text. -/
import Derived.Test.YtnbclhbpjlpcoaaXKn
import Derived.Test.YtnbclhbpjlpcoaaC13
set_option linter.unusedVariables false
set_option maxRecDepth 20000
namespace Go.XK
open Go.RowKit
theorem open_slr {H : Type} {enc : TypeId × Value → H} {P : Program} {w : World} {base : Nat} {spare : Nat → Bool} {held : Bool} {α : Type} (ea : α → List Value) (ok : α → Prop) {t e : TypeId} {k : Nat} (ht : P.underlying t = some (.slice e)) (hk : P.cellsOf e = k) (hel : ∀ n cs y, DataW.trod enc P w base spare held n e cs = some y → ∃ x, ea x = cs ∧ ok x)
    {A : Option Addr} {len cap : Nat} {d : DataW H} {p : List MemPlace} (h : DataW.Trod enc P w base spare held t (.slice A len cap) d p) : ∃ xs : List α, xs.length = len ∧ SlR w A cap k ea xs ∧ ∀ x ∈ xs, ok x := by
  obtain ⟨xs, h1, h2, h3, h4, h5⟩ := open_rd ea ok ht hk hel h
  refine ⟨xs, h1, ⟨h4, by omega, h3, fun hA => ?_⟩, h5⟩
  subst hA
  obtain ⟨fuel, hf⟩ := h
  rcases Go.Deep.open_slice ht hf with ⟨h0, _⟩ | ⟨a, l, c, m, n, D, Pl, hcs, _⟩
  · simp only [Value.cells] at h0
    have h0 : Value.slice none len cap = .slice none 0 0 := by simpa using h0
    cases h0; rfl
  · simp only [Value.cells] at hcs
    have hcs : Value.slice none len cap = .slice (some a) l c := by simp at hcs
    cases hcs
end Go.XK
namespace Go.Proofs.Ytnbclhbpjlpcoaa
open Go.XK Go.RowKit
theorem open_en {H : Type} {enc : TypeId × Value → H} {w : World} {base : Nat} {spare : Nat → Bool} {held : Bool} (n : Nat) (cs : List Value) (y : DataW H × List MemPlace) (h : DataW.trod enc Try.prog w base spare held n 41 cs = some y) : ∃ x : En, encE x = cs ∧ x.g.length ≤ 9223372036854775807 := by
  obtain ⟨xs, m, _, _, hl, hxl, hf⟩ := DataW.trod_struct Try.underlying41 h
  have hl : cs.length = 3 := hl.trans (by kernel_rfl)
  have hxl : xs.length = 3 := hxl
  match cs, hl, xs, hxl with
  | [v0, v1, v2], _, [y0, y1, y2], _ =>
    have c3 : Try.prog.cellsOf 3 = 1 := by kernel_rfl
    have c9 : Try.prog.cellsOf 9 = 1 := by kernel_rfl
    have g0 := hf 0 ⟨"Signature", 9, 0, false, "", "", 0⟩ rfl
    have g1 := hf 1 ⟨"Version", 3, 1, false, "", "", 16⟩ rfl
    have g2 := hf 2 ⟨"Data", 9, 2, false, "", "", 24⟩ rfl
    simp [c3, c9] at g0 g1 g2
    obtain ⟨s0, e0, _, q0⟩ := DataW.trod_string Try.underlying9 g0
    obtain ⟨n1, e1, _, w1⟩ := DataW.trod_int Try.underlying3 g1
    obtain ⟨s2, e2, _, q2⟩ := DataW.trod_string Try.underlying9 g2
    cases e0; cases e1; cases e2
    refine ⟨⟨s0.data.toList, n1, s2.data.toList⟩, by simp only [encE, B_data], ?_⟩
    have h_ : s0.data.toList.length = s0.size := rfl
    simp only [maxLen] at q0
    show s0.data.toList.length ≤ _
    omega
theorem open_pl {H : Type} {enc : TypeId × Value → H} {w : World} {base : Nat} {spare : Nat → Bool} {held : Bool} (n : Nat) (cs : List Value) (y : DataW H × List MemPlace) (h : DataW.trod enc Try.prog w base spare held n 53 cs = some y) : ∃ x : Pl, encPl x = cs ∧ True := by
  obtain ⟨xs, m, _, _, hl, hxl, hf⟩ := DataW.trod_struct Try.underlying53 h
  have hl : cs.length = 2 := hl.trans (by kernel_rfl)
  have hxl : xs.length = 2 := hxl
  match cs, hl, xs, hxl with
  | [v0, v1], _, [y0, y1], _ =>
    have c3 : Try.prog.cellsOf 3 = 1 := by kernel_rfl
    have g0 := hf 0 ⟨"LBA", 3, 0, false, "", "", 0⟩ rfl
    have g1 := hf 1 ⟨"Offset", 3, 1, false, "", "", 8⟩ rfl
    simp [c3] at g0 g1
    obtain ⟨n0, e0, _, w0⟩ := DataW.trod_int Try.underlying3 g0
    obtain ⟨n1, e1, _, w1⟩ := DataW.trod_int Try.underlying3 g1
    cases e0; cases e1
    exact ⟨⟨n0, n1⟩, rfl, trivial⟩
theorem open_gp {H : Type} {enc : TypeId × Value → H} {w : World} {base : Nat} {spare : Nat → Bool} {held : Bool} (n : Nat) (cs : List Value) (y : DataW H × List MemPlace) (h : DataW.trod enc Try.prog w base spare held n 22 cs = some y) : ∃ x : Gp, encG x = cs ∧ SlR w x.A x.c 3 encE x.l := by
  rcases Go.Deep.open_slice Try.underlying22 h with ⟨h0, _⟩ | ⟨a, l, c, m1, n1, D, Pl, hcs, _⟩
  · subst h0
    exact ⟨⟨[], none, 0⟩, rfl, SlR.nil _⟩
  · subst hcs
    obtain ⟨xs, hx1, hx2, _⟩ := open_slr (A := some a) (len := l) (cap := c) encE (fun x => x.g.length ≤ 9223372036854775807) (k := 3) Try.underlying22 (by kernel_rfl) open_en ⟨_, h⟩
    subst hx1
    exact ⟨⟨xs, some a, c⟩, rfl, hx2⟩
end Go.Proofs.Ytnbclhbpjlpcoaa
