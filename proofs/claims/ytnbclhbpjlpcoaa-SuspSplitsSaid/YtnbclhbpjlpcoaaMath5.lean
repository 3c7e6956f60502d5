/- Chapter 24: the example, computed. My own text. -/
import Derived.Test.YtnbclhbpjlpcoaaC11
set_option linter.unusedVariables false
set_option maxRecDepth 100000
namespace Go.Proofs.Ytnbclhbpjlpcoaa
open Go.XK Go.RowKit
def eN : En := ⟨[78, 77], 1, [0, 97, 98]⟩
def eX : En := ⟨[88, 88], 1, Lib.repeatL [120] 96⟩
def exE : List En := [eX, eX, eX]
def gE : List (List En) := [[eX], [eX, eX]]
def jE : List (List UInt8) × Int := joinR gE [⟨1, 7⟩]
def o0 : List UInt8 := jE.1.getD 0 []
def o1 : List UInt8 := jE.1.getD 1 []
def imE : List (List UInt8) := [[], (Lib.repeatL [0] 7 ++ o1) ++ Lib.repeatL [0] 1841]
def useE : List UInt8 := [63, 63] ++ o0
theorem encN : encR [eN] = ([78, 77, 7, 1, 0, 97, 98], 0) := by decide +kernel
theorem decN : decR ([78, 77, 7, 1, 0, 97, 98] ++ [0, 0, 0, 0]) = ([eN], 0) := by decide +kernel
theorem grpE : grpR exE 200 = (gE, 0) := by decide +kernel
theorem jE_2 : jE.2 = 0 := by decide +kernel
theorem jE_len : jE.1.length = 2 := by decide +kernel
theorem o0_len : o0.length = 128 := by decide +kernel
theorem o1_len : o1.length = 200 := by decide +kernel
theorem walkE : walkR imE useE 2 = (exE, 0, 0) := by decide +kernel
theorem lenE : lenL gE = [128, 200] := by decide +kernel
theorem szE300 : szL exE = 300 := by decide +kernel
theorem indE : indR 2 = (⟨[83, 80], 1, [190, 239, 2]⟩, 0) := by decide +kernel
theorem indsE : indS [83, 80, 7, 1, 190, 239, 2] = (2, true) := by decide +kernel
theorem refE1 : refR [73, 68] [100] [115] 1 = (⟨[69, 82], 1, [2, 1, 1, 1, 73, 68, 100, 115]⟩, 0) := by decide +kernel
theorem refE2 : refL [⟨[69, 82], 1, [2, 1, 1, 1, 73, 68, 100, 115]⟩] = [[73, 68]] := by decide +kernel
end Go.Proofs.Ytnbclhbpjlpcoaa
