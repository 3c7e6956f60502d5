/- Chapter 27 in plain Lean: the example of the chapter. My own text. -/
import Derived.Test.YtlgkjpmaekkpjaaMath4
import Derived.KernelRfl
set_option linter.unusedVariables false
set_option maxRecDepth 100000
namespace Go.Proofs.Ytlgkjpmaekkpjaa
open Go.XK
def l0 : List Img := [⟨0, 0, 0, 4, 33, true⟩, ⟨239, 0, 0, 0, 40, false⟩]
theorem enc0 : (encR l0).2 = 0 := by kernel_rfl
theorem enc1 : (encR l0).1.length = 2048 := by kernel_rfl
theorem dec0 : decR (encR l0).1 = (l0, 0) := by kernel_rfl
theorem aw1 : (((((decide ((encR l0).2 ≠ 0)) || (decide (((encR l0).1.length : Int) ≠ 2048))) || (decide (((encR l0).1.take 14).drop 0 ≠ [1, 0, 0, 0, 77, 65, 83, 84, 69, 82, 68, 73, 83, 67]))) || (decide (((encR l0).1.take 44).drop 30 ≠ [85, 170, 136, 0, 0, 0, 0, 0, 4, 0, 33, 0, 0, 0]))) || (decide (((encR l0).1.take 68).drop 64 ≠ [145, 239, 1, 0]))) = false := by kernel_rfl
theorem aw2 : ((((decide ((0 : Int) = 0)) && (decide (l0 = l0))) && (decide (wsum 0 (((encR l0).1.take 32).drop 0) = 0))) && (decide (wsum 0 [1, 2, 255, 255, 9] = 512))) = true := by kernel_rfl
end Go.Proofs.Ytlgkjpmaekkpjaa
