/- Chapter 27 in plain Lean: reading. My own text. -/
import Derived.Test.YtlgkjpmaekkpjaaMath
set_option linter.unusedVariables false
namespace Go.Proofs.Ytlgkjpmaekkpjaa
open Go.XK
/-- z bytes from p on. -/
def sub (s : List UInt8) (p : Int) (z : Nat) : List UInt8 := (s.drop p.toNat).take z
theorem sub_length {s : List UInt8} {p : Int} {z : Nat} (h0 : 0 ≤ p) (h : p + z ≤ s.length) : (sub s p z).length = z := by simp [sub]; omega
theorem sub_succ {s : List UInt8} {p : Int} {z : Nat} (h0 : 0 ≤ p) (h : p + z < s.length) : sub s p (z + 1) = sub s p z ++ [at_ s (p + z)] := by
  unfold sub at_
  rw [List.take_add_one]
  congr 1
  rw [List.getElem?_drop, List.getD_eq_getElem?_getD, show (p + (z : Int)).toNat = p.toNat + z from by omega]
  rw [List.getElem?_eq_getElem (by omega)]
  simp
theorem rdle_sub_succ {s : List UInt8} {p : Int} {z : Nat} (h0 : 0 ≤ p) (h : p + z < s.length) : rdle (sub s p (z + 1)) = rdle (sub s p z) + ((at_ s (p + z)).toNat : Int) * 256 ^ z := by
  rw [sub_succ h0 h, rdle_append, sub_length h0 (by omega)]
  simp [rdle, Int.mul_comm]
theorem rdle_drop {s : List UInt8} {i : Nat} (h : i < s.length) : rdle (s.drop i) = (at_ s (i : Int)).toNat + 256 * rdle (s.drop (i + 1)) := by
  rw [List.drop_eq_getElem_cons h, rdle]
  simp [at_, List.getD_eq_getElem?_getD, h]
theorem p256b (s : Nat) (hs : s ≤ 6) : (256 : Int) ^ s ≤ 281474976710656 := by
  have : s = 0 ∨ s = 1 ∨ s = 2 ∨ s = 3 ∨ s = 4 ∨ s = 5 ∨ s = 6 := by omega
  rcases this with rfl | rfl | rfl | rfl | rfl | rfl | rfl <;> decide
section
variable {P : Program} {n : Nat} {ds : List Deferred} {l : Env} {w : World} {ty t t2 : TypeId} {k k2 : IntKind} {x y : Operand} {i : Int}
theorem u64_id {i : Int} (h1 : 0 ≤ i) (h2 : i ≤ 18446744073709551615) : IntKind.u64.wrap i = i := IntWalk.u64_in i ⟨h1, h2⟩
theorem mul_p256 (c : UInt8) (s : Nat) (hs : s ≤ 6) : 0 ≤ (c.toNat : Int) * 256 ^ s ∧ (c.toNat : Int) * 256 ^ s ≤ 72057594037927936 := by
  have hc := u8_lt c
  have h0 : (0 : Int) ≤ c.toNat := Int.natCast_nonneg _
  have hp := p256 s (by omega)
  refine ⟨Int.mul_nonneg h0 (by omega), ?_⟩
  have h1 : (256 : Int) ^ s * 256 ≤ 72057594037927936 := by have := (p256 (s + 1) (by omega)).1; rwa [Int.pow_succ] at this
  have h2 : (c.toNat : Int) * 256 ^ s ≤ 256 * 256 ^ s := Int.mul_le_mul_of_nonneg_right (by omega) (by omega)
  omega
theorem e_shlu (c : UInt8) (s : Nat) (hs : s ≤ 6) (hx : val l x = some (.int .u64 (c.toNat : Int))) (hy : val l y = some (.int k2 ((8 : Int) * (s : Int)))) : Ev P n ds l w (.binOp .shl t x y t2) ty (.int .u64 ((c.toNat : Int) * 256 ^ s)) w := by
  have h := e_shl (P := P) (n := n) (ds := ds) (w := w) (t := t) (t2 := t2) (ty := ty) hx hy (by omega)
  have hm := mul_p256 c s hs
  rwa [show IntKind.u64.bits = 64 from rfl, bits64 s (by omega), pow8, u64_id hm.1 (by omega)] at h
theorem or_add (a b s : Nat) (h : a < 2 ^ (8 * s)) : a ||| b * 2 ^ (8 * s) = a + b * 2 ^ (8 * s) := by
  rw [Nat.or_comm, Nat.mul_comm, ← Nat.two_pow_add_eq_or_of_lt h, Nat.add_comm]
theorem e_oru (c : UInt8) (s : Nat) (hs : s ≤ 6) (h0 : 0 ≤ i) (h1 : i < 256 ^ s) (hx : val l x = some (.int .u64 i)) (hy : val l y = some (.int .u64 ((c.toNat : Int) * 256 ^ s))) : Ev P n ds l w (.binOp .or t x y t2) ty (.int .u64 (i + (c.toNat : Int) * 256 ^ s)) w :=
  e_bin hx hy (by
    have hm := mul_p256 c s hs
    have hp := p256 s (by omega)
    obtain ⟨a, rfl⟩ : ∃ a : Nat, i = a := ⟨i.toNat, by omega⟩
    have hb : (c.toNat : Int) * 256 ^ s = ((c.toNat * 2 ^ (8 * s) : Nat) : Int) := by rw [← pow8]; push_cast; rfl
    have ha : a < 2 ^ (8 * s) := by rw [← pow8] at h1; exact_mod_cast h1
    obtain ⟨b, hbv⟩ : ∃ b : Nat, b = c.toNat * 2 ^ (8 * s) := ⟨_, rfl⟩
    rw [hb, ← hbv] at hm ⊢
    have ho : a ||| b = a + b := by rw [hbv]; exact or_add _ _ _ ha
    have ha2 : a ≤ 72057594037927936 := by omega
    simp [eqGuard, binOp, Op.intBits]
    rw [Nat.mod_eq_of_lt (show a < 2 ^ IntKind.u64.bits from by simp [IntKind.bits]; omega), Nat.mod_eq_of_lt (show b < 2 ^ IntKind.u64.bits from by simp [IntKind.bits]; omega), ho]
    rw [u64_id (by omega) (by omega)]
    push_cast
    rfl)
end
/-- What the reference's read returns. -/
def imgZ : Img := ⟨0, 0, 0, 0, 0, false⟩
def imgR (s : List UInt8) (p : Int) : Img := ⟨p, (at_ s 1).toNat, rdle (sub s 2 2), rdle (sub s 6 2), rdle (sub s 8 4), decide (at_ s 0 = 136)⟩
def readR (s : List UInt8) (p : Int) : Img × Int := if at_ s 0 ≠ 136 ∧ at_ s 0 ≠ 0 then (imgZ, 10) else if 4 < at_ s 1 then (imgZ, 14) else (imgR s p, 0)
end Go.Proofs.Ytlgkjpmaekkpjaa
