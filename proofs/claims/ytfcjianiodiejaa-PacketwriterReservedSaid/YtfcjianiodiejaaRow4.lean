/- Chapter 52: bytes as arguments of the law of reserved addresses. My own text. -/
import Derived.Test.YtfcjianiodiejaaRow
import Derived.Test.YtfcjianiodiejaaC18
import Derived.OpenShut
set_option linter.unusedVariables false
namespace Go.Proofs.Ytfcjianiodiejaa
open Go.XK Go.RowKit
theorem reserved_i (a b d : Int) (ctl : Bool) (w : World) (ha : 0 ≤ a ∧ a ≤ 255) (hb : 0 ≤ b ∧ b ≤ 255) (hd : 0 ≤ d ∧ d ≤ 255) : CallR Try.prog 9 [.int .u8 a, .int .u8 b, .int .u8 d, .bool ctl] w (fun v w' => v = .bool true ∧ Ext w w') := by
  have h := reserved_c (u8of a) (u8of b) (u8of d) ctl w
  rwa [show ((u8of a).toNat : Int) = a from by rw [u8of_toNat]; omega, show ((u8of b).toNat : Int) = b from by rw [u8of_toNat]; omega, show ((u8of d).toNat : Int) = d from by rw [u8of_toNat]; omega] at h
end Go.Proofs.Ytfcjianiodiejaa
