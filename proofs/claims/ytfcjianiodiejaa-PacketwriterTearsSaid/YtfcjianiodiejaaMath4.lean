/- Chapter 52: the example. My own text. -/
import Derived.Test.YtfcjianiodiejaaC9
set_option linter.unusedVariables false
set_option linter.unusedSimpArgs false
set_option maxRecDepth 8000
namespace Go.Proofs.Ytfcjianiodiejaa
open Go.XK Go.RowKit
def awP (S : List UInt8) : List Pn := [⟨18, S⟩, ⟨19, S⟩, ⟨20, S⟩, ⟨21, S⟩, ⟨22, S⟩, ⟨23, S⟩, ⟨24, S⟩, ⟨26, S⟩]
def awC (S Z C : List UInt8) : List (Int × List (List UInt8) × Bool × Bool) := [(18, [S, S, S, S, S, S, S, Z], false, false), (26, [S, Z, Z, Z, Z, Z, Z, C], true, false)]
def aw1 (S Z : List UInt8) (A : Option Addr) (c : Nat) : Wr := ⟨18, [S, S, S, S, S, S, S, Z], false, false, A, c⟩
def aw2 (S Z C : List UInt8) (A : Option Addr) (c : Nat) : Wr := ⟨26, [S, Z, Z, Z, Z, Z, Z, C], true, false, A, c⟩
theorem aw_ap {S : List UInt8} (hS : S.length = 2048) : apR (List.replicate 8 S) 10 18 [] = (0, [18, 19, 20, 21, 22, 23, 24, 26], awP S) := by
  have h1 : (List.replicate 8 S).any badB = false := by
    rw [List.any_eq_false]
    intro x hx
    rw [(List.mem_replicate.1 hx).2]
    simp [badB, hS]
  have h2 : asgR 10 18 [] (List.replicate 8 S).length = some [18, 19, 20, 21, 22, 23, 24, 26] := by
    rw [List.length_replicate]
    decide +kernel
  rw [apR_some h1 h2]
  rfl
theorem ne_nil {S : List UInt8} (hS : S.length = 2048) : S ≠ [] := fun h => by rw [h] at hS; simp at hS
theorem aw_opn {S : List UInt8} (hS : S.length = 2048) : opnL (awP S) = [] := by
  simp [opnL, awP, ne_nil hS]
theorem aw_fl {S C Z : List UInt8} (hS : S.length = 2048) (hC : C.length = 2048) (hZ : Z = zB) : flR C 10 18 (awP S) = (0, awC S Z C, 34, []) := by
  subst hZ
  generalize hz : zB = Z
  have hl : lastP 18 (awP S) = 26 := rfl
  have hct : ctlP 10 18 (awP S) = 33 := by rw [ctlP, hl]; decide
  rw [flR, hz, hct, aw_opn hS, if_neg (by simp [hC]), if_neg (by decide), if_neg (by simp [awP]), if_neg (by decide), ctlL, if_neg (ne_nil hC)]
  rfl
theorem aw_ws {ws : List Wr} {S Z C : List UInt8} (h : ws.map core = awC S Z C) : ∃ A1 c1 A2 c2, ws = [aw1 S Z A1 c1, aw2 S Z C A2 c2] := by
  match ws, h with
  | [⟨p, bl, sy, cl, A, c⟩, ⟨p2, bl2, sy2, cl2, A2, c2⟩], h =>
    simp only [core, awC, List.map_cons, List.map_nil, List.cons.injEq, Prod.mk.injEq, and_true] at h
    obtain ⟨⟨rfl, rfl, rfl, rfl⟩, rfl, rfl, rfl, rfl⟩ := h
    exact ⟨A, c, A2, c2, rfl⟩
  | [], h => simp [awC] at h
  | [_], h => simp [awC] at h
  | _ :: _ :: _ :: _, h => simp [awC] at h
variable {S Z C : List UInt8} {A1 A2 : Option Addr} {c1 c2 : Nat}
theorem aw_okw (hS : S.length = 2048) (hZ : Z.length = 2048) (hC : C.length = 2048) : ([aw1 S Z A1 c1, aw2 S Z C A2 c2] : List Wr).all okW = true := by
  simp [okW, badW, badB, aw1, aw2, hS, hZ, hC]
theorem aw_valid (hS : S.length = 2048) (hZ : Z.length = 2048) (hC : C.length = 2048) : valid [] [aw1 S Z A1 c1, aw2 S Z C A2 c2] = true := by
  rw [valid, aw_okw hS hZ hC]; rfl
theorem aw_st : stL [aw1 S Z A1 c1, aw2 S Z C A2 c2] = [⟨18, S, false⟩, ⟨19, S, false⟩, ⟨20, S, false⟩, ⟨21, S, false⟩, ⟨22, S, false⟩, ⟨23, S, false⟩, ⟨24, S, false⟩, ⟨25, Z, false⟩, ⟨26, S, false⟩, ⟨27, Z, false⟩, ⟨28, Z, false⟩, ⟨29, Z, false⟩, ⟨30, Z, false⟩, ⟨31, Z, false⟩, ⟨32, Z, false⟩, ⟨33, C, false⟩] := by
  have h : ∀ i : Int, 0 ≤ i → i ≤ 9223372036854775807 → IntKind.i64.wrap i = i := fun i h1 h2 => wr64_id h1 h2
  simp [stL, stW, stB, aw1, aw2, wr64, h]
theorem aw_steps : (stL [aw1 S Z A1 c1, aw2 S Z C A2 c2]).length = 16 := by rw [aw_st]; rfl
def aw16 (S Z C : List UInt8) : List Stp := [⟨18, S, false⟩, ⟨19, S, false⟩, ⟨20, S, false⟩, ⟨21, S, false⟩, ⟨22, S, false⟩, ⟨23, S, false⟩, ⟨24, S, false⟩, ⟨25, Z, false⟩, ⟨26, S, false⟩, ⟨27, Z, false⟩, ⟨28, Z, false⟩, ⟨29, Z, false⟩, ⟨30, Z, false⟩, ⟨31, Z, false⟩, ⟨32, Z, false⟩, ⟨33, C, false⟩]
theorem aw_img16 : cutL (aw16 S Z C) 16 [] = List.replicate 18 [] ++ [S, S, S, S, S, S, S, Z, S, Z, Z, Z, Z, Z, Z, C] := by kernel_rfl
theorem aw_img9 : cutL (aw16 S Z C) 9 [] = List.replicate 18 [] ++ [S, S, S, S, S, S, S, Z, S, [33]] := by kernel_rfl
theorem aw_rec (hS : S.length = 2048) (hZ : Z.length = 2048) (hC : C.length = 2048) : ∃ im, cutR [] [aw1 S Z A1 c1, aw2 S Z C A2 c2] ((stL [aw1 S Z A1 c1, aw2 S Z C A2 c2]).length : Int) = (im, 0) ∧ im.length = 34 ∧ im[33]? = some C ∧ im[17]? = some [] ∧ valid im [aw1 S Z A1 c1, aw2 S Z C A2 c2] = true := by
  refine ⟨List.replicate 18 [] ++ [S, S, S, S, S, S, S, Z, S, Z, Z, Z, Z, Z, Z, C], ?_, rfl, rfl, rfl, ?_⟩
  · rw [cutR, if_neg (by rw [aw_valid hS hZ hC]; decide), if_neg (by rw [aw_steps]; decide), aw_steps, aw_st]
    exact congrArg (fun x => (x, (0 : Int))) aw_img16
  · rw [valid, aw_okw hS hZ hC]
    have h : (List.replicate 18 [] ++ [S, S, S, S, S, S, S, Z, S, Z, Z, Z, Z, Z, Z, C]).all okE = true := by
      rw [List.all_append]
      simp [okE, hS, hZ, hC]
    rw [h]
    rfl
theorem aw_cut (hS : S.length = 2048) (hZ : Z.length = 2048) (hC : C.length = 2048) : ∃ im, cutR [] [aw1 S Z A1 c1, aw2 S Z C A2 c2] 9 = (im, 0) ∧ im.length = 28 ∧ im[26]? = some S ∧ im[27]? = some [33] := by
  refine ⟨List.replicate 18 [] ++ [S, S, S, S, S, S, S, Z, S, [33]], ?_, rfl, rfl, rfl⟩
  rw [cutR, if_neg (by rw [aw_valid hS hZ hC]; decide), if_neg (by rw [aw_steps]; decide), aw_st]
  exact congrArg (fun x => (x, (0 : Int))) aw_img9
theorem aw_onceL : onceL (aw16 S Z C) [] = true := by kernel_rfl
theorem aw_once (hS : S.length = 2048) (hZ : Z.length = 2048) (hC : C.length = 2048) : onceR [] [aw1 S Z A1 c1, aw2 S Z C A2 c2] = true := by
  rw [onceR, aw_valid hS hZ hC, aw_st, Bool.true_and]
  exact aw_onceL
end Go.Proofs.Ytfcjianiodiejaa
