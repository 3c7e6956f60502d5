/- Chapter 24: numbers and their bytes. My own text (chapter 27's). -/
import Derived.Test.YtnbclhbpjlpcoaaMath
set_option linter.unusedVariables false
set_option linter.unusedSimpArgs false
namespace Go.Proofs.Ytnbclhbpjlpcoaa
open Go.XK Go.RowKit
/-- The bytes of a number, the low ones first. -/
def le (s : Nat) (n : Int) : List UInt8 := (List.range s).map fun i => u8of (n / 256 ^ i)
theorem le_length (s : Nat) (n : Int) : (le s n).length = s := by simp [le]
def fits (n : Int) (s : Nat) : Bool := decide (0 ≤ n ∧ n < 256 ^ s)
def num (n : Int) (s : Nat) : List UInt8 := if fits n s then le s n else []
/-- The number that bytes are. -/
def rdle : List UInt8 → Int
  | [] => 0
  | c :: t => c.toNat + 256 * rdle t
theorem rdle_bound : ∀ l : List UInt8, 0 ≤ rdle l ∧ rdle l < 256 ^ l.length
  | [] => by simp [rdle]
  | c :: t => by
    have h := rdle_bound t
    have hc := u8_lt c
    simp only [rdle, List.length_cons, Int.pow_succ]
    omega
theorem rdle_append (a b : List UInt8) : rdle (a ++ b) = rdle a + 256 ^ a.length * rdle b := by
  induction a with
  | nil => simp [rdle]
  | cons c t ih => simp only [List.cons_append, rdle, ih, List.length_cons, Int.pow_succ]; rw [Int.mul_add, Int.mul_comm (256 ^ t.length) 256, Int.mul_assoc]; omega
def zeros (k : Nat) : List UInt8 := List.replicate k 0
@[simp] theorem zeros_length (k : Nat) : (zeros k).length = k := by simp [zeros]
@[simp] theorem zeros_zero : zeros 0 = [] := rfl

/-! ### Shifts by whole bytes -/
section
variable {P : Program} {n : Nat} {ds : List Deferred} {l : Env} {w : World} {ty t t2 : TypeId} {k k2 : IntKind} {x y : Operand} {i : Int}
theorem pow8 (s : Nat) : (2 : Int) ^ (8 * s) = 256 ^ s := by rw [Int.pow_mul]; rfl
theorem bits64 (s : Nat) (hs : s ≤ 7) : min ((8 : Int) * (s : Int)).toNat 64 = 8 * s := by omega
theorem e_shl8 (s : Nat) (hs : s ≤ 7) (hx : val l x = some (.int .i64 i)) (hy : val l y = some (.int k2 ((8 : Int) * (s : Int)))) (h0 : 0 ≤ i * 256 ^ s) (h1 : i * 256 ^ s ≤ 9223372036854775807) : Ev P n ds l w (.binOp .shl t x y t2) ty (.int .i64 (i * 256 ^ s)) w := by
  have h := e_shl (P := P) (n := n) (ds := ds) (w := w) (t := t) (t2 := t2) (ty := ty) hx hy (by omega)
  rwa [show IntKind.i64.bits = 64 from rfl, bits64 s hs, pow8, i64_id (by omega) h1] at h
theorem e_shr8 (s : Nat) (hs : s ≤ 7) (hx : val l x = some (.int .i64 i)) (hy : val l y = some (.int k2 ((8 : Int) * (s : Int)))) : Ev P n ds l w (.binOp .shr t x y t2) ty (.int .i64 (i / 256 ^ s)) w := by
  have h := e_shr (P := P) (n := n) (ds := ds) (w := w) (t := t) (t2 := t2) (ty := ty) hx hy (by omega)
  have hp : (0 : Int) ≤ 256 ^ s := Int.le_of_lt (Int.pow_pos (by decide))
  rwa [show IntKind.i64.bits = 64 from rfl, bits64 s hs, pow8, Int.fdiv_eq_ediv_of_nonneg _ hp] at h
theorem shl8_u8 (c : UInt8) (hx : val l x = some (.int .i64 (c.toNat : Int))) (hy : val l y = some (.int .u64 8)) : Ev P n ds l w (.binOp .shl t x y t2) ty (.int .i64 (256 * (c.toNat : Int))) w := by
  have h := e_shl (P := P) (n := n) (ds := ds) (w := w) (t := t) (t2 := t2) (ty := ty) hx hy (by decide)
  have hc := u8_lt c
  rwa [show min (8 : Int).toNat IntKind.i64.bits = 8 from rfl, i64_id (by omega) (by omega), Int.mul_comm] at h
theorem p256 (s : Nat) (hs : s ≤ 7) : (256 : Int) ^ s ≤ 72057594037927936 ∧ (1 : Int) ≤ 256 ^ s := by
  have : s = 0 ∨ s = 1 ∨ s = 2 ∨ s = 3 ∨ s = 4 ∨ s = 5 ∨ s = 6 ∨ s = 7 := by omega
  rcases this with rfl | rfl | rfl | rfl | rfl | rfl | rfl | rfl <;> decide
end
theorem fits_eq (n : Int) (s : Nat) (hs : s ≤ 7) : (decide (0 ≤ n) && (decide ((s : Int) = 8) || decide (n < 256 ^ s))) = fits n s := by
  have : ¬ (s : Int) = 8 := by omega
  simp [fits, this]
theorem le_succ (k : Nat) (n : Int) : le (k + 1) n = le k n ++ [u8of (n / 256 ^ k)] := by simp [le, List.range_succ]
theorem div_pow_succ (n : Int) (k : Nat) : n / 256 ^ k / 256 = n / 256 ^ (k + 1) := by rw [Int.ediv_ediv_of_nonneg (Int.le_of_lt (Int.pow_pos (by decide)))]; rfl
theorem u8of_emod (n : Int) : u8of (n % 256) = u8of n := by simp [u8of]
/-- The cells of the bytes that are written so far. -/
def wr (s : Nat) (n : Int) (k : Nat) : List Value := (le k n ++ zeros (s - k)).map fun c => .int .u8 (c.toNat : Int)
theorem wr_zero (s : Nat) (n : Int) : List.replicate s (Value.int .u8 0) = wr s n 0 := by simp [wr, le, zeros]
theorem wr_succ {s k : Nat} (n : Int) (h : k < s) : (wr s n k).take k ++ [Value.int .u8 ((u8of (n / 256 ^ k)).toNat : Int)] ++ (wr s n k).drop (k + 1) = wr s n (k + 1) := by
  unfold wr
  rw [le_succ, ← List.map_take, ← List.map_drop]
  rw [show zeros (s - k) = 0 :: zeros (s - (k + 1)) from by rw [show s - k = s - (k + 1) + 1 from by omega]; rfl]
  rw [List.take_append_of_le_length (by simp [le_length]), List.take_of_length_le (by simp [le_length])]
  rw [List.drop_append, List.drop_eq_nil_of_le (by simp [le_length])]
  simp [le_length]
theorem wr_length {s k : Nat} (n : Int) (h : k ≤ s) : (wr s n k).length = s := by simp [wr, le_length]; omega
theorem wr_full (s : Nat) (n : Int) : wr s n s = (le s n).map fun c => .int .u8 (c.toNat : Int) := by simp [wr, zeros]

theorem fits_of {n : Int} {s : Nat} (h0 : 0 ≤ n) (h1 : n < 256 ^ s) : fits n s = true := by simp [fits, h0, h1]
theorem num_of {n : Int} {s : Nat} (h : fits n s = true) : num n s = le s n := by simp [num, h]

/-- z bytes from p on. -/
def sub (s : List UInt8) (p : Int) (z : Nat) : List UInt8 := (s.drop p.toNat).take z
theorem sub_length {s : List UInt8} {p : Int} {z : Nat} (h0 : 0 ≤ p) (h : p + z ≤ s.length) : (sub s p z).length = z := by simp [sub]; omega
theorem sub_succ {s : List UInt8} {p : Int} {z : Nat} (h0 : 0 ≤ p) (h : p + z < s.length) : sub s p (z + 1) = sub s p z ++ [at_ s (p + z)] := by
  unfold sub at_
  rw [List.take_add_one]
  congr 1
  rw [List.getElem?_drop, List.getD_eq_getElem?_getD, show (p + (z : Int)).toNat = p.toNat + z from by omega]
  rw [List.getElem?_eq_getElem (by omega)]
  simp
theorem rdle_sub_succ {s : List UInt8} {p : Int} {z : Nat} (h0 : 0 ≤ p) (h : p + z < s.length) : rdle (sub s p (z + 1)) = rdle (sub s p z) + ((at_ s (p + z)).toNat : Int) * 256 ^ z := by
  rw [sub_succ h0 h, rdle_append, sub_length h0 (by omega)]
  simp [rdle, Int.mul_comm]
theorem rdle_drop {s : List UInt8} {i : Nat} (h : i < s.length) : rdle (s.drop i) = (at_ s (i : Int)).toNat + 256 * rdle (s.drop (i + 1)) := by
  rw [List.drop_eq_getElem_cons h, rdle]
  simp [at_, List.getD_eq_getElem?_getD, h]
theorem p256b (s : Nat) (hs : s ≤ 6) : (256 : Int) ^ s ≤ 281474976710656 := by
  have : s = 0 ∨ s = 1 ∨ s = 2 ∨ s = 3 ∨ s = 4 ∨ s = 5 ∨ s = 6 := by omega
  rcases this with rfl | rfl | rfl | rfl | rfl | rfl | rfl <;> decide
section
variable {P : Program} {n : Nat} {ds : List Deferred} {l : Env} {w : World} {ty t t2 : TypeId} {k k2 : IntKind} {x y : Operand} {i : Int}
theorem u64_id {i : Int} (h1 : 0 ≤ i) (h2 : i ≤ 18446744073709551615) : IntKind.u64.wrap i = i := IntWalk.u64_in i ⟨h1, h2⟩
theorem mul_p256 (c : UInt8) (s : Nat) (hs : s ≤ 6) : 0 ≤ (c.toNat : Int) * 256 ^ s ∧ (c.toNat : Int) * 256 ^ s ≤ 72057594037927936 := by
  have hc := u8_lt c
  have h0 : (0 : Int) ≤ c.toNat := Int.natCast_nonneg _
  have hp := p256 s (by omega)
  refine ⟨Int.mul_nonneg h0 (by omega), ?_⟩
  have h1 : (256 : Int) ^ s * 256 ≤ 72057594037927936 := by have := (p256 (s + 1) (by omega)).1; rwa [Int.pow_succ] at this
  have h2 : (c.toNat : Int) * 256 ^ s ≤ 256 * 256 ^ s := Int.mul_le_mul_of_nonneg_right (by omega) (by omega)
  omega
theorem e_shlu (c : UInt8) (s : Nat) (hs : s ≤ 6) (hx : val l x = some (.int .u64 (c.toNat : Int))) (hy : val l y = some (.int k2 ((8 : Int) * (s : Int)))) : Ev P n ds l w (.binOp .shl t x y t2) ty (.int .u64 ((c.toNat : Int) * 256 ^ s)) w := by
  have h := e_shl (P := P) (n := n) (ds := ds) (w := w) (t := t) (t2 := t2) (ty := ty) hx hy (by omega)
  have hm := mul_p256 c s hs
  rwa [show IntKind.u64.bits = 64 from rfl, bits64 s (by omega), pow8, u64_id hm.1 (by omega)] at h
theorem or_add (a b s : Nat) (h : a < 2 ^ (8 * s)) : a ||| b * 2 ^ (8 * s) = a + b * 2 ^ (8 * s) := by
  rw [Nat.or_comm, Nat.mul_comm, ← Nat.two_pow_add_eq_or_of_lt h, Nat.add_comm]
theorem e_oru (c : UInt8) (s : Nat) (hs : s ≤ 6) (h0 : 0 ≤ i) (h1 : i < 256 ^ s) (hx : val l x = some (.int .u64 i)) (hy : val l y = some (.int .u64 ((c.toNat : Int) * 256 ^ s))) : Ev P n ds l w (.binOp .or t x y t2) ty (.int .u64 (i + (c.toNat : Int) * 256 ^ s)) w :=
  e_bin hx hy (by
    have hm := mul_p256 c s hs
    have hp := p256 s (by omega)
    obtain ⟨a, rfl⟩ : ∃ a : Nat, i = a := ⟨i.toNat, by omega⟩
    have hb : (c.toNat : Int) * 256 ^ s = ((c.toNat * 2 ^ (8 * s) : Nat) : Int) := by rw [← pow8]; push_cast; rfl
    have ha : a < 2 ^ (8 * s) := by rw [← pow8] at h1; exact_mod_cast h1
    obtain ⟨b, hbv⟩ : ∃ b : Nat, b = c.toNat * 2 ^ (8 * s) := ⟨_, rfl⟩
    rw [hb, ← hbv] at hm ⊢
    have ho : a ||| b = a + b := by rw [hbv]; exact or_add _ _ _ ha
    have ha2 : a ≤ 72057594037927936 := by omega
    simp [eqGuard, binOp, Op.intBits]
    rw [Nat.mod_eq_of_lt (show a < 2 ^ IntKind.u64.bits from by simp [IntKind.bits]; omega), Nat.mod_eq_of_lt (show b < 2 ^ IntKind.u64.bits from by simp [IntKind.bits]; omega), ho]
    rw [u64_id (by omega) (by omega)]
    push_cast
    rfl)
end
/-! ### Both orders -/
theorem le_rev_length (z : Nat) (n : Int) : (le z n).reverse.length = z := by rw [List.length_reverse, le_length]
/-- The cells of the bytes that are written so far, from the last one on. -/
def wrb (z : Nat) (n : Int) (k : Nat) : List Value := (zeros (z - k) ++ (le k n).reverse).map fun c => .int .u8 (c.toNat : Int)
theorem wrb_zero (z : Nat) (n : Int) : List.replicate z (Value.int .u8 0) = wrb z n 0 := by simp [wrb, le, zeros]
theorem wrb_length {z k : Nat} (n : Int) (h : k ≤ z) : (wrb z n k).length = z := by simp [wrb, le_length]; omega
theorem wrb_succ {z k : Nat} (n : Int) (h : k < z) : (wrb z n k).take (z - 1 - k) ++ [Value.int .u8 ((u8of (n / 256 ^ k)).toNat : Int)] ++ (wrb z n k).drop (z - 1 - k + 1) = wrb z n (k + 1) := by
  unfold wrb
  rw [le_succ, ← List.map_take, ← List.map_drop]
  obtain ⟨m, hm⟩ : ∃ m, z - k = m + 1 := ⟨z - k - 1, by omega⟩
  rw [hm, show z - 1 - k = m by omega, show z - (k + 1) = m by omega]
  have e1 : zeros (m + 1) ++ (le k n).reverse = zeros m ++ (0 :: (le k n).reverse) := by simp [zeros, List.replicate_succ']
  have e2 : zeros (m + 1) ++ (le k n).reverse = (zeros m ++ [0]) ++ (le k n).reverse := by simp [zeros, List.replicate_succ']
  rw [show (zeros (m + 1) ++ (le k n).reverse).take m = zeros m from by rw [e1]; exact List.take_left' (zeros_length m), show (zeros (m + 1) ++ (le k n).reverse).drop (m + 1) = (le k n).reverse from by rw [e2]; exact List.drop_left' (by simp)]
  simp
theorem wrb_full (z : Nat) (n : Int) : wrb z n z = (le z n).reverse.map fun c => .int .u8 (c.toNat : Int) := by simp [wrb, zeros]
def bothB (n : Int) : List UInt8 := le 4 n ++ (le 4 n).reverse
theorem bothB_length (n : Int) : (bothB n).length = 8 := by simp [bothB, le_length]
def bothV (n : Int) : List UInt8 := if fits n 4 then bothB n else []
theorem bothV_of {n : Int} (h : fits n 4 = true) : bothV n = bothB n := by rw [bothV, if_pos h]
theorem bothV_no {n : Int} (h : fits n 4 = false) : bothV n = [] := by rw [bothV, if_neg (by simp [h])]
def area (off len : Int) : Bool := ((decide (0 ≤ off) && decide (off < 2048)) && decide (1 ≤ len)) && decide (len ≤ 2048 - off)
theorem area_spec {off len : Int} (h : area off len = true) : 0 ≤ off ∧ off < 2048 ∧ 1 ≤ len ∧ len ≤ 2048 - off := by
  simp only [area, Bool.and_eq_true, decide_eq_true_eq] at h; omega
def conE (lba off len : Int) : En := ⟨[67, 69], 1, bothB lba ++ bothB off ++ bothB len⟩
def conR (lba off len : Int) : En × Int := if (!fits lba 4 || !area off len) = true then (⟨[], 0, []⟩, 2) else (conE lba off len, 0)
theorem fits4 (n : Int) : fits n 4 = (decide (0 ≤ n) && decide (n ≤ 4294967295)) := by
  unfold fits
  have : (256 : Int) ^ 4 = 4294967296 := by decide
  rw [this, ← Bool.decide_and]
  exact decide_eq_decide.2 (by omega)
theorem fits_area {off len : Int} (h : area off len = true) : fits off 4 = true ∧ fits len 4 = true := by
  have := area_spec h
  rw [fits4, fits4]
  simp; omega
theorem rfits_end {n m : Int} {z : Nat} (h0 : 0 ≤ n) (hm0 : 0 ≤ m) (hm : m = n / 256 ^ z) : decide (m = 0) = fits n z := by
  have hp : (0 : Int) < 256 ^ z := Int.pow_pos (by decide)
  have : (m = 0) ↔ (0 ≤ n ∧ n < 256 ^ z) := by
    rw [hm]
    constructor
    · intro h; exact ⟨h0, by
        rcases Int.lt_or_le n (256 ^ z) with h1 | h1
        · exact h1
        · have := (Int.le_ediv_iff_mul_le hp (a := 1) (b := n)).2 (by omega); omega⟩
    · intro h; exact Int.ediv_eq_zero_of_lt h.1 h.2
  simp only [fits, this]
/-- A number of 4 bytes at p. -/
def rd4 (s : List UInt8) (p : Int) : Int × Int := if (decide (0 ≤ p) && decide (p ≤ (s.length : Int) - 4)) = true then (rdle (sub s p 4), 0) else (0, 2)
theorem rd4_ok {s : List UInt8} {p : Int} (h0 : 0 ≤ p) (h : p + 4 ≤ s.length) : rd4 s p = (rdle (sub s p 4), 0) := by rw [rd4, if_pos (by simp; omega)]
theorem rd4_no {s : List UInt8} {p : Int} (h : ¬ p + 4 ≤ s.length) : rd4 s p = (0, 2) := by rw [rd4, if_neg (by simp; omega)]
theorem rdle_le : ∀ (z : Nat) (n : Int), 0 ≤ n → n < 256 ^ z → rdle (le z n) = n
  | 0, n, h0, h1 => by simp [le, rdle] at h1 ⊢; omega
  | z + 1, n, h0, h1 => by
    rw [le_succ, rdle_append, le_length]
    have hp : (0 : Int) < 256 ^ z := Int.pow_pos (by decide)
    have h3 : n / 256 ^ z < 256 := by
      rw [Int.pow_succ] at h1
      exact Int.ediv_lt_of_lt_mul hp (by rw [Int.mul_comm]; exact h1)
    have h4 : 0 ≤ n / 256 ^ z := Int.ediv_nonneg h0 (Int.le_of_lt hp)
    have h5 : le z n = le z (n % 256 ^ z) := by
      unfold le
      apply List.map_congr_left
      intro i hi
      have hi := List.mem_range.1 hi
      have h6 : (256 : Int) ^ z = 256 ^ (z - i) * 256 ^ i := by rw [← Int.pow_add, show z - i + i = z by omega]
      have hpi : (256 : Int) ^ i ≠ 0 := Int.ne_of_gt (Int.pow_pos (by decide))
      obtain ⟨q, hq⟩ : ∃ q, (256 : Int) ^ (z - i) = 256 * q := ⟨256 ^ (z - i - 1), by rw [show z - i = z - i - 1 + 1 by omega, Int.pow_succ, Int.mul_comm]; simp⟩
      have h7 : n = n % 256 ^ z + (n / 256 ^ z) * 256 ^ (z - i) * 256 ^ i := by
        have := Int.emod_add_mul_ediv n (256 ^ z)
        rw [Int.mul_assoc, ← h6, Int.mul_comm (n / 256 ^ z)]; omega
      have h8 : n / 256 ^ i = n % 256 ^ z / 256 ^ i + (n / 256 ^ z) * 256 ^ (z - i) := by
        conv => lhs; rw [h7]
        rw [Int.add_mul_ediv_right _ _ hpi]
      rw [h8, hq]
      unfold u8of
      rw [show n % 256 ^ z / 256 ^ i + n / 256 ^ z * (256 * q) = n % 256 ^ z / 256 ^ i + 256 * (n / 256 ^ z * q) by rw [← Int.mul_assoc, Int.mul_comm (n / 256 ^ z) 256, Int.mul_assoc], Int.add_mul_emod_self_left]
    rw [h5, rdle_le z _ (Int.emod_nonneg _ (Int.ne_of_gt hp)) (Int.emod_lt_of_pos _ hp)]
    simp only [rdle, Int.mul_zero, Int.add_zero]
    rw [u8of_toNat, Int.emod_eq_of_lt h4 h3]
    have := Int.emod_add_mul_ediv n (256 ^ z)
    omega
end Go.Proofs.Ytnbclhbpjlpcoaa
