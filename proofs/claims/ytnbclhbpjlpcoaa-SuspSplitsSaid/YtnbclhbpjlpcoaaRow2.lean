/- Chapter 24: the arguments of the law of splits. My own text. -/
import Derived.Test.YtnbclhbpjlpcoaaRow
import Derived.Test.YtnbclhbpjlpcoaaC14
set_option linter.unusedVariables false
namespace Go.Proofs.Ytnbclhbpjlpcoaa
open Go.XK Go.RowKit
theorem open_i64 {H : Type} {enc : TypeId × Value → H} {w : World} {base : Nat} {spare : Nat → Bool} {held : Bool} (n : Nat) (cs : List Value) (y : DataW H × List MemPlace) (h : DataW.trod enc Try.prog w base spare held n 3 cs = some y) : ∃ x : Int, encI x = cs ∧ True := by
  obtain ⟨n0, e0, _, w0⟩ := DataW.trod_int Try.underlying3 h
  cases e0
  exact ⟨n0, rfl, trivial⟩
theorem splits_i (l : List En) (A : Option Addr) (c : Nat) (z : Int) (offs : List Int) (Ao : Option Addr) (co : Nat) (a : Int) (w : World) (ha : 0 ≤ a ∧ a ≤ 255) (hl : SlR w A c 3 encE l) (hsl : ∀ x ∈ l, x.g.length ≤ 9223372036854775807) (ho : SlR w Ao co 1 encI offs) : CallR Try.prog 6 [.slice A l.length c, .int .i64 z, .slice Ao offs.length co, .int .u8 a] w (fun v w' => v = .bool true ∧ Ext w w') := by
  have h := splits_c l A c z offs Ao co (u8of a) w hl hsl ho
  rwa [show ((u8of a).toNat : Int) = a from by rw [u8of_toNat]; omega] at h
end Go.Proofs.Ytnbclhbpjlpcoaa
