/- Chapter 52: a disc, a span as arguments. My own text. -/
import Derived.Test.YtfcjianiodiejaaRow
import Derived.Test.YtfcjianiodiejaaMath6
import Derived.WideShapes
set_option linter.unusedVariables false
set_option maxRecDepth 20000
namespace Go.Proofs.Ytfcjianiodiejaa
open Go.XK Go.RowKit
theorem open_ses {H : Type} {enc : TypeId × Value → H} {w : World} {base : Nat} {spare : Nat → Bool} {held : Bool} (n : Nat) (cs : List Value) (y : DataW H × List MemPlace) (h : DataW.trod enc Try.prog w base spare held n 65 cs = some y) : ∃ x : Ses, encX x = cs ∧ True := by
  obtain ⟨xs, m, _, _, hl, hxl, hf⟩ := DataW.trod_struct Try.underlying65 h
  have hl : cs.length = 3 := hl.trans (by kernel_rfl)
  have hxl : xs.length = 3 := hxl
  match cs, hl, xs, hxl with
  | [v0, v1, v2], _, [y0, y1, y2], _ =>
    have c3 : Try.prog.cellsOf 3 = 1 := by kernel_rfl
    have c4 : Try.prog.cellsOf 4 = 1 := by kernel_rfl
    have g0 := hf 0 ⟨"Start", 3, 0, false, "", "", 0⟩ rfl
    have g1 := hf 1 ⟨"Count", 3, 1, false, "", "", 8⟩ rfl
    have g2 := hf 2 ⟨"Closed", 4, 2, false, "", "", 16⟩ rfl
    simp [c3, c4] at g0 g1 g2
    obtain ⟨n0, e0, _, w0⟩ := DataW.trod_int Try.underlying3 g0
    obtain ⟨n1, e1, _, w1⟩ := DataW.trod_int Try.underlying3 g1
    obtain ⟨b2, e2, _⟩ := DataW.trod_bool Try.underlying4 g2
    cases e0; cases e1; cases e2
    exact ⟨⟨n0, n1, b2⟩, rfl, trivial⟩
theorem open_sl1 {H : Type} {enc : TypeId × Value → H} {w : World} {base : Nat} {spare : Nat → Bool} {held : Bool} {n : Nat} {t e : TypeId} {k : Nat} {v : Value} {y : DataW H × List MemPlace} {α : Type} (ea : α → List Value) (ht : Try.prog.underlying t = some (.slice e)) (hk : Try.prog.cellsOf e = k)
    (hel : ∀ n cs y, DataW.trod enc Try.prog w base spare held n e cs = some y → ∃ x, ea x = cs ∧ True) (h : DataW.trod enc Try.prog w base spare held n t [v] = some y) : ∃ (A : Option Addr) (c : Nat) (xs : List α), v = .slice A xs.length c ∧ SlR w A c k ea xs := by
  rcases Go.Deep.open_slice ht h with ⟨h0, _⟩ | ⟨a, l, c, m1, n1, D, Pl, hcs, _⟩
  · have h0 : v = .slice none 0 0 := by simpa using h0
    subst h0
    exact ⟨none, 0, [], rfl, SlR.nil _⟩
  · have hcs : v = .slice (some a) l c := by simpa using hcs
    subst hcs
    obtain ⟨xs, hx1, hx2, _⟩ := open_slr (A := some a) (len := l) (cap := c) ea (fun _ => True) (k := k) ht hk hel ⟨_, h⟩
    subst hx1
    exact ⟨some a, c, xs, rfl, hx2⟩
theorem open_disc {H : Type} {enc : TypeId × Value → H} {W : World} {base b0 : Nat} {spare : Nat → Bool} {held : Bool} {v0 : Value} {d : DataW H} {p : List MemPlace} (hok : Value.okWide Try.prog W .any b0 55 v0) (h : DataW.Trod enc Try.prog W base spare held 55 v0 d p) :
    ∃ (im : Img) (A : Option Addr) (c : Nat) (ss : List Ses) (As : Option Addr) (cs : Nat), v0 = .agg #[.slice A im.length c, .slice As ss.length cs] ∧ SlR W A c 1 encS im ∧ SlR W As cs 3 encX ss := by
  obtain ⟨cs, rfl, hsz⟩ := Go.WideShapes.okWide_struct Try.underlying55 hok
  obtain ⟨fuel, hf⟩ := h
  obtain ⟨xs, m, _, _, hl, hxl, hf⟩ := DataW.trod_struct Try.underlying55 hf
  obtain ⟨l, hlst⟩ : ∃ l, cs = (l : List Value).toArray := ⟨cs.toList, by simp⟩
  subst hlst
  have hl : l.length = 2 := by
    have : (Value.agg l.toArray).cells.toList = l := rfl
    rw [this] at hl
    exact hl.trans (by kernel_rfl)
  have hxl : xs.length = 2 := hxl
  match l, hl, xs, hxl, hf with
  | [v0, v1], _, [y0, y1], _, hf =>
    have c22 : Try.prog.cellsOf 23 = 1 := by kernel_rfl
    have c53 : Try.prog.cellsOf 53 = 1 := by kernel_rfl
    have g0 := hf 0 ⟨"Blocks", 23, 0, false, "", "", 0⟩ rfl
    have g1 := hf 1 ⟨"Sessions", 53, 1, false, "", "", 24⟩ rfl
    simp [c22, c53, Value.cells] at g0 g1
    obtain ⟨A, c, im, rfl, h1⟩ := open_sl1 encS Try.underlying23 (k := 1) (by kernel_rfl) open_str g0
    obtain ⟨As, cs, ss, rfl, h2⟩ := open_sl1 encX Try.underlying53 (k := 3) (by kernel_rfl) open_ses g1
    exact ⟨im, A, c, ss, As, cs, rfl, h1, h2⟩
theorem open_span {H : Type} {enc : TypeId × Value → H} {W : World} {base b0 : Nat} {spare : Nat → Bool} {held : Bool} {v0 : Value} {d : DataW H} {p : List MemPlace} (hok : Value.okWide Try.prog W .any b0 57 v0) (h : DataW.Trod enc Try.prog W base spare held 57 v0 d p) :
    ∃ st ct : Int, v0 = .agg #[.int .i64 st, .int .i64 ct] := by
  obtain ⟨cs, rfl, hsz⟩ := Go.WideShapes.okWide_struct Try.underlying57 hok
  obtain ⟨fuel, hf⟩ := h
  obtain ⟨xs, m, _, _, hl, hxl, hf⟩ := DataW.trod_struct Try.underlying57 hf
  obtain ⟨l, hlst⟩ : ∃ l, cs = (l : List Value).toArray := ⟨cs.toList, by simp⟩
  subst hlst
  have hl : l.length = 2 := by
    have : (Value.agg l.toArray).cells.toList = l := rfl
    rw [this] at hl
    exact hl.trans (by kernel_rfl)
  have hxl : xs.length = 2 := hxl
  match l, hl, xs, hxl, hf with
  | [v0, v1], _, [y0, y1], _, hf =>
    have c3 : Try.prog.cellsOf 3 = 1 := by kernel_rfl
    have g0 := hf 0 ⟨"Start", 3, 0, false, "", "", 0⟩ rfl
    have g1 := hf 1 ⟨"Count", 3, 1, false, "", "", 8⟩ rfl
    simp [c3, Value.cells] at g0 g1
    obtain ⟨n0, e0, _, w0⟩ := DataW.trod_int Try.underlying3 g0
    obtain ⟨n1, e1, _, w1⟩ := DataW.trod_int Try.underlying3 g1
    cases e0; cases e1
    exact ⟨n0, n1, rfl⟩
end Go.Proofs.Ytfcjianiodiejaa
