/- Chapter 52: bytes as arguments. My own text. -/
import Derived.Test.YtfcjianiodiejaaRow
import Derived.Test.YtfcjianiodiejaaC16
import Derived.WideShapes
import Derived.OpenShut
set_option linter.unusedVariables false
set_option maxRecDepth 20000
namespace Go.Proofs.Ytfcjianiodiejaa
open Go.XK Go.RowKit
theorem open_b8 {H : Type} {enc : TypeId × Value → H} {w : World} {base : Nat} {spare : Nat → Bool} {held : Bool} (n : Nat) (cs : List Value) (y : DataW H × List MemPlace) (h : DataW.trod enc Try.prog w base spare held n 5 cs = some y) : ∃ x : UInt8, encB8 x = cs ∧ True := by
  obtain ⟨k, rfl, _, hw⟩ := DataW.trod_int Try.underlying5 h
  have hb := bounds_u8 hw
  exact ⟨u8of k, by rw [encB8, u8of_toNat, show k % 256 = k from by omega], trivial⟩
theorem finds_i (a b : Int) (sizes : List UInt8) (A : Option Addr) (c : Nat) (ctl : Bool) (w : World) (ha : 0 ≤ a ∧ a ≤ 255) (hb : 0 ≤ b ∧ b ≤ 255) (hsz : SlR w A c 1 encB8 sizes) : CallR Try.prog 4 [.int .u8 a, .int .u8 b, .slice A sizes.length c, .bool ctl] w (fun v w' => v = .bool true ∧ Ext w w') := by
  have h := finds_c (u8of a) (u8of b) sizes A c ctl w hsz
  rwa [show ((u8of a).toNat : Int) = a from by rw [u8of_toNat]; omega, show ((u8of b).toNat : Int) = b from by rw [u8of_toNat]; omega] at h
end Go.Proofs.Ytfcjianiodiejaa
