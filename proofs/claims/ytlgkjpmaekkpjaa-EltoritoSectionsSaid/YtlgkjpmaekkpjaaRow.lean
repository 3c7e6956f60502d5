/- Chapter 27: the arguments of the laws. My own text. -/
import Derived.Test.YtlgkjpmaekkpjaaXKr
import Derived.Test.YtlgkjpmaekkpjaaMath
import Derived.Test.YtlgkjpmaekkpjaaProg
set_option linter.unusedVariables false
namespace Go.Proofs.Ytlgkjpmaekkpjaa
open Go.XK Go.RowKit
theorem open_img {H : Type} {enc : TypeId × Value → H} {w : World} {base : Nat} {spare : Nat → Bool} {held : Bool} (n : Nat) (cs : List Value) (y : DataW H × List MemPlace) (h : DataW.trod enc Try.prog w base spare held n 34 cs = some y) : ∃ x : Img, x.enc = cs ∧ x.ok := by
  obtain ⟨xs, m, _, _, hl, hxl, hf⟩ := DataW.trod_struct Try.underlying34 h
  have hl : cs.length = 6 := hl
  have hxl : xs.length = 6 := hxl
  match cs, hl, xs, hxl with
  | [v0, v1, v2, v3, v4, v5], _, [y0, y1, y2, y3, y4, y5], _ =>
    have c : Try.prog.cellsOf 3 = 1 := by kernel_rfl
    have c4 : Try.prog.cellsOf 4 = 1 := by kernel_rfl
    have g0 := hf 0 ⟨"Platform", 3, 0, false, "", "", 0⟩ rfl
    have g1 := hf 1 ⟨"Media", 3, 1, false, "", "", 8⟩ rfl
    have g2 := hf 2 ⟨"Segment", 3, 2, false, "", "", 16⟩ rfl
    have g3 := hf 3 ⟨"Sectors", 3, 3, false, "", "", 24⟩ rfl
    have g4 := hf 4 ⟨"LBA", 3, 4, false, "", "", 32⟩ rfl
    have g5 := hf 5 ⟨"Bootable", 4, 5, false, "", "", 40⟩ rfl
    simp [c, c4] at g0 g1 g2 g3 g4 g5
    obtain ⟨n0, e0, _, w0⟩ := DataW.trod_int Try.underlying3 g0
    obtain ⟨n1, e1, _, w1⟩ := DataW.trod_int Try.underlying3 g1
    obtain ⟨n2, e2, _, w2⟩ := DataW.trod_int Try.underlying3 g2
    obtain ⟨n3, e3, _, w3⟩ := DataW.trod_int Try.underlying3 g3
    obtain ⟨n4, e4, _, w4⟩ := DataW.trod_int Try.underlying3 g4
    obtain ⟨b5, e5, _⟩ := DataW.trod_bool Try.underlying4 g5
    cases e0; cases e1; cases e2; cases e3; cases e4; cases e5
    exact ⟨⟨n0, n1, n2, n3, n4, b5⟩, rfl, wf_i64 w0, wf_i64 w1, wf_i64 w2, wf_i64 w3, wf_i64 w4⟩
end Go.Proofs.Ytlgkjpmaekkpjaa
