/- Chapter 27 in plain Lean: what an image is, what its bytes are. My own text. -/
import Derived.Test.YtlgkjpmaekkpjaaXKi
set_option linter.unusedVariables false
namespace Go.Proofs.Ytlgkjpmaekkpjaa
open Go.XK
/-- An image. -/
structure Img where
  P : Int
  M : Int
  S : Int
  C : Int
  L : Int
  b : Bool
  deriving DecidableEq
def Img.enc (x : Img) : List Value := [.int .i64 x.P, .int .i64 x.M, .int .i64 x.S, .int .i64 x.C, .int .i64 x.L, .bool x.b]
def i64r (n : Int) : Prop := -9223372036854775808 ≤ n ∧ n ≤ 9223372036854775807
structure Img.ok (x : Img) : Prop where
  P : i64r x.P
  M : i64r x.M
  S : i64r x.S
  C : i64r x.C
  L : i64r x.L
def plat (n : Int) : Bool := decide (n = 0) || decide (n = 1) || decide (n = 2) || decide (n = 239)
def inR (n m : Int) : Bool := decide (0 ≤ n) && decide (n ≤ m)
def Img.valid (x : Img) : Bool := (((plat x.P && inR x.M 4) && inR x.S 65535) && inR x.C 65535) && inR x.L 4294967295
/-- The bytes of a number, the low ones first. -/
def le (s : Nat) (n : Int) : List UInt8 := (List.range s).map fun i => u8of (n / 256 ^ i)
theorem le_length (s : Nat) (n : Int) : (le s n).length = s := by simp [le]
def fits (n : Int) (s : Nat) : Bool := decide (0 ≤ n ∧ n < 256 ^ s)
def num (n : Int) (s : Nat) : List UInt8 := if fits n s then le s n else []
/-- The number that bytes are. -/
def rdle : List UInt8 → Int
  | [] => 0
  | c :: t => c.toNat + 256 * rdle t
theorem rdle_bound : ∀ l : List UInt8, 0 ≤ rdle l ∧ rdle l < 256 ^ l.length
  | [] => by simp [rdle]
  | c :: t => by
    have h := rdle_bound t
    have hc := u8_lt c
    simp only [rdle, List.length_cons, Int.pow_succ]
    omega
theorem rdle_append (a b : List UInt8) : rdle (a ++ b) = rdle a + 256 ^ a.length * rdle b := by
  induction a with
  | nil => simp [rdle]
  | cons c t ih => simp only [List.cons_append, rdle, ih, List.length_cons, Int.pow_succ]; rw [Int.mul_add, Int.mul_comm (256 ^ t.length) 256, Int.mul_assoc]; omega
def zeros (k : Nat) : List UInt8 := List.replicate k 0
@[simp] theorem zeros_length (k : Nat) : (zeros k).length = k := by simp [zeros]
@[simp] theorem zeros_zero : zeros 0 = [] := rfl
/-- The sum of the 16-bit words, from a on. -/
def wsum : Int → List UInt8 → Int
  | a, x :: y :: t => wsum ((a + x.toNat + 256 * y.toNat) % 65536) t
  | a, _ => a
theorem wsum_drop {s : List UInt8} {i : Nat} (h : i + 1 < s.length) (a : Int) : wsum a (s.drop i) = wsum ((a + (at_ s i).toNat + 256 * (at_ s (i + 1)).toNat) % 65536) (s.drop (i + 2)) := by
  have h1 : s.drop i = s[i] :: s[i + 1] :: s.drop (i + 2) := by
    rw [List.drop_eq_getElem_cons (by omega), List.drop_eq_getElem_cons (by omega)]
  have e1 : at_ s i = s[i] := by simp [at_, List.getD_eq_getElem?_getD, show i < s.length from by omega]
  have e2 : at_ s ((i : Int) + 1) = s[i + 1] := by
    simp only [at_, show ((i : Int) + 1).toNat = i + 1 from by omega, List.getD_eq_getElem?_getD]
    simp [h]
  rw [h1, wsum, e1, e2]
theorem wsum_end {s : List UInt8} {i : Nat} (h : ¬ i + 1 < s.length) (a : Int) : wsum a (s.drop i) = a := by
  have : (s.drop i).length ≤ 1 := by simp; omega
  match hs : s.drop i, this with
  | [], _ => rfl
  | [_], _ => rfl
def valHead (p : Int) : List UInt8 := [1, u8of p, 0, 0] ++ [77, 65, 83, 84, 69, 82, 68, 73, 83, 67] ++ zeros 14
def valKey (p : Int) : Int := (65536 - wsum 0 (valHead p ++ [0, 0] ++ [85, 170])) % 65536
def valB (p : Int) : List UInt8 := valHead p ++ le 2 (valKey p) ++ [85, 170]
def first (b : Bool) : UInt8 := if b then 136 else 0
def imgB (x : Img) : List UInt8 := [first x.b, u8of x.M] ++ le 2 x.S ++ [0, 0] ++ le 2 x.C ++ le 4 x.L ++ zeros 20
def hdrB (k : UInt8) (p : Int) : List UInt8 := [k, u8of p, 1, 0] ++ zeros 28
def tailB : List Img → List UInt8
  | [] => []
  | [x] => hdrB 145 x.P ++ imgB x
  | x :: y :: t => hdrB 144 x.P ++ imgB x ++ tailB (y :: t)
def encB : List Img → List UInt8
  | [] => []
  | x :: t => valB x.P ++ imgB x ++ tailB t
theorem imgB_length (x : Img) : (imgB x).length = 32 := by simp [imgB, le_length]
theorem hdrB_length (k : UInt8) (p : Int) : (hdrB k p).length = 32 := by simp [hdrB]
theorem valB_length (p : Int) : (valB p).length = 32 := by simp [valB, valHead, le_length]
theorem tailB_length : ∀ l : List Img, (tailB l).length = 64 * l.length
  | [] => rfl
  | [x] => by simp [tailB, imgB_length, hdrB_length]
  | x :: y :: t => by
    have := tailB_length (y :: t)
    simp only [tailB, List.length_append, imgB_length, hdrB_length, this, List.length_cons]; omega
theorem encB_length (l : List Img) : (encB l).length = 64 * l.length := by
  cases l with
  | nil => rfl
  | cons x t => simp only [encB, List.length_append, valB_length, imgB_length, tailB_length, List.length_cons]; omega
/-! ### Shifts by whole bytes -/
section
variable {P : Program} {n : Nat} {ds : List Deferred} {l : Env} {w : World} {ty t t2 : TypeId} {k k2 : IntKind} {x y : Operand} {i : Int}
theorem pow8 (s : Nat) : (2 : Int) ^ (8 * s) = 256 ^ s := by rw [Int.pow_mul]; rfl
theorem bits64 (s : Nat) (hs : s ≤ 7) : min ((8 : Int) * (s : Int)).toNat 64 = 8 * s := by omega
theorem e_shl8 (s : Nat) (hs : s ≤ 7) (hx : val l x = some (.int .i64 i)) (hy : val l y = some (.int k2 ((8 : Int) * (s : Int)))) (h0 : 0 ≤ i * 256 ^ s) (h1 : i * 256 ^ s ≤ 9223372036854775807) : Ev P n ds l w (.binOp .shl t x y t2) ty (.int .i64 (i * 256 ^ s)) w := by
  have h := e_shl (P := P) (n := n) (ds := ds) (w := w) (t := t) (t2 := t2) (ty := ty) hx hy (by omega)
  rwa [show IntKind.i64.bits = 64 from rfl, bits64 s hs, pow8, i64_id (by omega) h1] at h
theorem e_shr8 (s : Nat) (hs : s ≤ 7) (hx : val l x = some (.int .i64 i)) (hy : val l y = some (.int k2 ((8 : Int) * (s : Int)))) : Ev P n ds l w (.binOp .shr t x y t2) ty (.int .i64 (i / 256 ^ s)) w := by
  have h := e_shr (P := P) (n := n) (ds := ds) (w := w) (t := t) (t2 := t2) (ty := ty) hx hy (by omega)
  have hp : (0 : Int) ≤ 256 ^ s := Int.le_of_lt (Int.pow_pos (by decide))
  rwa [show IntKind.i64.bits = 64 from rfl, bits64 s hs, pow8, Int.fdiv_eq_ediv_of_nonneg _ hp] at h
theorem shl8_u8 (c : UInt8) (hx : val l x = some (.int .i64 (c.toNat : Int))) (hy : val l y = some (.int .u64 8)) : Ev P n ds l w (.binOp .shl t x y t2) ty (.int .i64 (256 * (c.toNat : Int))) w := by
  have h := e_shl (P := P) (n := n) (ds := ds) (w := w) (t := t) (t2 := t2) (ty := ty) hx hy (by decide)
  have hc := u8_lt c
  rwa [show min (8 : Int).toNat IntKind.i64.bits = 8 from rfl, i64_id (by omega) (by omega), Int.mul_comm] at h
theorem p256 (s : Nat) (hs : s ≤ 7) : (256 : Int) ^ s ≤ 72057594037927936 ∧ (1 : Int) ≤ 256 ^ s := by
  have : s = 0 ∨ s = 1 ∨ s = 2 ∨ s = 3 ∨ s = 4 ∨ s = 5 ∨ s = 6 ∨ s = 7 := by omega
  rcases this with rfl | rfl | rfl | rfl | rfl | rfl | rfl | rfl <;> decide
end
theorem fits_eq (n : Int) (s : Nat) (hs : s ≤ 7) : (decide (0 ≤ n) && (decide ((s : Int) = 8) || decide (n < 256 ^ s))) = fits n s := by
  have : ¬ (s : Int) = 8 := by omega
  simp [fits, this]
theorem le_succ (k : Nat) (n : Int) : le (k + 1) n = le k n ++ [u8of (n / 256 ^ k)] := by simp [le, List.range_succ]
theorem div_pow_succ (n : Int) (k : Nat) : n / 256 ^ k / 256 = n / 256 ^ (k + 1) := by rw [Int.ediv_ediv_of_nonneg (Int.le_of_lt (Int.pow_pos (by decide)))]; rfl
theorem u8of_emod (n : Int) : u8of (n % 256) = u8of n := by simp [u8of]
/-- The cells of the bytes that are written so far. -/
def wr (s : Nat) (n : Int) (k : Nat) : List Value := (le k n ++ zeros (s - k)).map fun c => .int .u8 (c.toNat : Int)
theorem wr_zero (s : Nat) (n : Int) : List.replicate s (Value.int .u8 0) = wr s n 0 := by simp [wr, le, zeros]
theorem wr_succ {s k : Nat} (n : Int) (h : k < s) : (wr s n k).take k ++ [Value.int .u8 ((u8of (n / 256 ^ k)).toNat : Int)] ++ (wr s n k).drop (k + 1) = wr s n (k + 1) := by
  unfold wr
  rw [le_succ, ← List.map_take, ← List.map_drop]
  rw [show zeros (s - k) = 0 :: zeros (s - (k + 1)) from by rw [show s - k = s - (k + 1) + 1 from by omega]; rfl]
  rw [List.take_append_of_le_length (by simp [le_length]), List.take_of_length_le (by simp [le_length])]
  rw [List.drop_append, List.drop_eq_nil_of_le (by simp [le_length])]
  simp [le_length]
theorem wr_length {s k : Nat} (n : Int) (h : k ≤ s) : (wr s n k).length = s := by simp [wr, le_length]; omega
theorem wr_full (s : Nat) (n : Int) : wr s n s = (le s n).map fun c => .int .u8 (c.toNat : Int) := by simp [wr, zeros]
theorem idx4 (n : Int) : decide ((0 : Int) ≤ if n = 0 then 0 else if n = 1 then 1 else if n = 2 then 2 else if n = 239 then 3 else -1) = plat n := by
  unfold plat
  by_cases h0 : n = 0
  · simp [h0]
  · by_cases h1 : n = 1
    · simp [h1]
    · by_cases h2 : n = 2
      · simp [h2]
      · by_cases h3 : n = 239
        · simp [h3]
        · simp [h0, h1, h2, h3]
/-- What Encode returns. -/
def encR (l : List Img) : List UInt8 × Int :=
  if l.length = 0 then ([], 1) else if 32 < l.length then ([], 7) else if l.all Img.valid then (encB l ++ zeros (2048 - 64 * l.length), 0) else ([], 2)
theorem fits_of {n : Int} {s : Nat} (h0 : 0 ≤ n) (h1 : n < 256 ^ s) : fits n s = true := by simp [fits, h0, h1]
theorem num_of {n : Int} {s : Nat} (h : fits n s = true) : num n s = le s n := by simp [num, h]
theorem le1 (n : Int) : le 1 n = [u8of n] := by simp [le]
theorem le21 : le 2 1 = [1, 0] := by decide
theorem plat_range {n : Int} (h : plat n = true) : 0 ≤ n ∧ n < 256 := by
  simp [plat] at h
  omega
structure Img.Okv (x : Img) : Prop where
  P : 0 ≤ x.P ∧ x.P < 256
  M : 0 ≤ x.M ∧ x.M ≤ 4
  S : 0 ≤ x.S ∧ x.S ≤ 65535
  C : 0 ≤ x.C ∧ x.C ≤ 65535
  L : 0 ≤ x.L ∧ x.L ≤ 4294967295
  pl : plat x.P = true
theorem Img.okv {x : Img} (h : x.valid = true) : x.Okv := by
  simp only [Img.valid, inR, Bool.and_eq_true, decide_eq_true_eq] at h
  exact ⟨plat_range h.1.1.1.1, h.1.1.1.2, h.1.1.2, h.1.2, h.2, h.1.1.1.1⟩
theorem wsum_bound : ∀ (l : List UInt8) (a : Int), 0 ≤ a → a < 65536 → 0 ≤ wsum a l ∧ wsum a l < 65536
  | [], a, h0, h1 => ⟨h0, h1⟩
  | [_], a, h0, h1 => ⟨h0, h1⟩
  | x :: y :: t, a, h0, h1 => by
    rw [wsum]
    exact wsum_bound t _ (by omega) (by omega)
theorem form_code (p k : Int) : [[1], le 1 p, [0, 0], [77, 65, 83, 84, 69, 82, 68, 73, 83, 67] ++ zeros 14, le 2 k, [85, 170]].flatten = valHead p ++ le 2 k ++ [85, 170] := by
  simp [valHead, le1, List.append_assoc]
theorem img_code (x : Img) : [[first x.b], le 1 x.M, le 2 x.S, [0, 0], le 2 x.C, le 4 x.L].flatten ++ zeros 20 = imgB x := by
  simp [imgB, le1, List.append_assoc]
theorem hdr_code (k p : Int) : [le 1 k, le 1 p, le 2 1].flatten ++ zeros 28 = hdrB (u8of k) p := by
  simp [hdrB, le1, le21]
theorem le20 : le 2 0 = [0, 0] := by decide
theorem tailB_cons (x : Img) (r : List Img) : tailB (x :: r) = hdrB (if r = [] then 145 else 144) x.P ++ imgB x ++ tailB r := by
  cases r with
  | nil => simp [tailB]
  | cons y r => simp [tailB]
theorem encR_nil {l : List Img} (h : l.length = 0) : encR l = ([], 1) := by simp [encR, h]
theorem encR_many {l : List Img} (h : 32 < l.length) : encR l = ([], 7) := by simp [encR, h, show ¬ l.length = 0 by omega]
theorem encR_bad {l : List Img} (h0 : l.length ≠ 0) (h : ¬ 32 < l.length) (hv : l.all Img.valid = false) : encR l = ([], 2) := by simp [encR, h, h0, hv]
theorem encR_good {l : List Img} (h0 : l.length ≠ 0) (h : ¬ 32 < l.length) (hv : l.all Img.valid = true) : encR l = (encB l ++ zeros (2048 - 64 * l.length), 0) := by simp [encR, h, h0, hv]
theorem pos_get {l : List Img} (h : l.length ≠ 0) : ∃ x, l[0]? = some x := ⟨_, List.getElem?_eq_getElem (by omega)⟩
theorem all_at {l : List Img} (h : l.all Img.valid = true) {j : Nat} {x : Img} (hj : l[j]? = some x) : x.valid = true := List.all_eq_true.1 h x (List.mem_of_getElem? hj)
theorem encB_first {l : List Img} {x : Img} (h : l[0]? = some x) : encB l = valB x.P ++ imgB x ++ tailB (l.drop 1) := by
  cases l with
  | nil => simp at h
  | cons y t => simp at h; subst h; rfl
theorem drop_get {α : Type} {l : List α} {j : Nat} {x : α} (h : l[j]? = some x) : l.drop j = x :: l.drop (j + 1) := by
  obtain ⟨hj, rfl⟩ := List.getElem?_eq_some_iff.1 h
  exact List.drop_eq_getElem_cons hj
end Go.Proofs.Ytlgkjpmaekkpjaa
