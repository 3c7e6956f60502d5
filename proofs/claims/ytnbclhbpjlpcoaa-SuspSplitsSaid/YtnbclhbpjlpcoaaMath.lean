/- Chapter 24: entries, their bytes, in plain words. My own text. -/
import Derived.Test.YtnbclhbpjlpcoaaXKp
set_option linter.unusedVariables false
set_option linter.unusedSimpArgs false
namespace Go.Proofs.Ytnbclhbpjlpcoaa
open Go.XK Go.RowKit
/-- An entry. -/
structure En where
  g : List UInt8
  v : Int
  d : List UInt8
  deriving DecidableEq
def encE (x : En) : List Value := [.string (B x.g), .int .i64 x.v, .string (B x.d)]
theorem one_encE : ∀ (x : En), ∀ u ∈ encE x, u.oneCell' = true := fun x u hu => by simp [encE] at hu; rcases hu with rfl | rfl | rfl <;> rfl
def wr64 (i : Int) : Int := IntKind.i64.wrap i
theorem wr64_id {i : Int} (h : 0 ≤ i) (h2 : i ≤ 9223372036854775807) : wr64 i = i := IntWalk.i64_in _ ⟨by omega, by omega⟩
theorem wr64_emod (i : Int) : ∃ k, wr64 i = i + k * 18446744073709551616 := by
  have h := IntKind.wrap_i64 i
  unfold wr64
  rw [h]
  exact ⟨-((i + 9223372036854775808) / 18446744073709551616), by omega⟩
theorem wr64_add (a b : Int) : wr64 (wr64 a + b) = wr64 (a + b) := by
  have h1 := IntKind.wrap_i64 a
  have h2 := IntKind.wrap_i64 (a + b)
  have h3 := IntKind.wrap_i64 (wr64 a + b)
  unfold wr64 at h3 ⊢
  omega
theorem wr64_add2 (a b : Int) : wr64 (a + wr64 b) = wr64 (a + b) := by rw [Int.add_comm, wr64_add, Int.add_comm]
def badc (c : UInt8) : Bool := (decide (c < 65) || decide (90 < c)) && (decide (c < 48) || decide (57 < c))
def okc (c : UInt8) : Bool := !badc c
def sig (s : List UInt8) : Bool := decide ((s.length : Int) = 2) && s.all okc
theorem all_no {α : Type} {p : α → Bool} {l : List α} {i : Nat} {x : α} (h : l[i]? = some x) (hx : p x = false) : l.all p = false := by
  rw [List.all_eq_false]
  exact ⟨x, List.mem_of_getElem? h, by simp [hx]⟩
theorem all_take {α : Type} {p : α → Bool} {l : List α} {i : Nat} {x : α} (h : l[i]? = some x) (hp : (l.take i).all p = true) (hx : p x = true) : (l.take (i + 1)).all p = true := by
  rw [List.take_add_one, h, List.all_append, hp]; simp [hx]
theorem all_end {α : Type} {p : α → Bool} {l : List α} {i : Nat} (hp : (l.take i).all p = true) (hi : l.length ≤ i) : l.all p = true := by rwa [List.take_of_length_le hi] at hp
theorem at_of {s : List UInt8} {i : Nat} {c : UInt8} (h : s[i]? = some c) : at_ s (i : Int) = c := by simp [at_, List.getD_eq_getElem?_getD, h]
def badE (x : En) : Int := if sig x.g = false then 1 else if (decide (x.v < 0) || decide ((255 : Int) < x.v)) = true then 2 else if (251 : Int) < (x.d.length : Int) then 7 else 0
def chkL : List En → Int
  | [] => 0
  | x :: r => if badE x = 0 then chkL r else badE x
def chkR (l : List En) : Int := if (1024 : Int) < (l.length : Int) then 7 else chkL l
theorem drop_at {α : Type} {l : List α} {i : Nat} {x : α} (h : l[i]? = some x) : l.drop i = x :: l.drop (i + 1) := by
  obtain ⟨hlt, he⟩ := List.getElem?_eq_some_iff.1 h
  rw [List.drop_eq_getElem_cons hlt, he]
theorem chk_ok {l : List En} {i : Nat} {x : En} (h : l[i]? = some x) (hx : badE x = 0) : chkL (l.drop i) = chkL (l.drop (i + 1)) := by rw [drop_at h, chkL, if_pos hx]
theorem chk_no {l : List En} {i : Nat} {x : En} {e : Int} (h : l[i]? = some x) (hx : badE x = e) (he : e ≠ 0) : chkL (l.drop i) = e := by rw [drop_at h, chkL, if_neg (by rw [hx]; exact he), hx]
theorem chk_all : ∀ {l : List En}, chkL l = 0 → ∀ x ∈ l, badE x = 0
  | [], _, _, hx => by cases hx
  | y :: r, h, x, hx => by
    rw [chkL] at h
    by_cases hy : badE y = 0
    · rw [if_pos hy] at h
      rcases List.mem_cons.1 hx with rfl | hx
      · exact hy
      · exact chk_all h x hx
    · rw [if_neg hy] at h; exact absurd h hy
theorem chk_of : ∀ {l : List En}, (∀ x ∈ l, badE x = 0) → chkL l = 0
  | [], _ => rfl
  | y :: r, h => by rw [chkL, if_pos (h y (by simp)), chk_of fun x hx => h x (by simp [hx])]
theorem badE_spec {x : En} (h : badE x = 0) : sig x.g = true ∧ 0 ≤ x.v ∧ x.v ≤ 255 ∧ x.d.length ≤ 251 := by
  unfold badE at h
  split at h
  · cases h
  · rename_i h1
    split at h
    · cases h
    · rename_i h2
      split at h
      · cases h
      · rename_i h3
        simp only [Bool.or_eq_true, decide_eq_true_eq, not_or] at h2
        exact ⟨by simpa using h1, by omega, by omega, by omega⟩
theorem badE_of {x : En} (h1 : sig x.g = true) (h2 : 0 ≤ x.v) (h3 : x.v ≤ 255) (h4 : x.d.length ≤ 251) : badE x = 0 := by
  unfold badE
  rw [if_neg (by simp [h1]), if_neg (by simp; omega), if_neg (by omega)]
theorem sig_len {s : List UInt8} (h : sig s = true) : s.length = 2 := by
  simp only [sig, Bool.and_eq_true, decide_eq_true_eq] at h; omega
def encE1 (x : En) : List UInt8 := x.g ++ [u8of (4 + (x.d.length : Int)), u8of x.v] ++ x.d
def encL (l : List En) : List UInt8 := l.flatMap encE1
def encR (l : List En) : List UInt8 × Int := if chkR l ≠ 0 then ([], chkR l) else (encL l, 0)
theorem encL_take {l : List En} {i : Nat} {x : En} (h : l[i]? = some x) : encL (l.take (i + 1)) = encL (l.take i) ++ encE1 x := by
  rw [List.take_add_one, h]; simp [encL]
def szE (x : En) : Nat := 4 + x.d.length
def szL (l : List En) : Nat := (l.map szE).sum
theorem szL_take {l : List En} {i : Nat} {x : En} (h : l[i]? = some x) : szL (l.take (i + 1)) = szL (l.take i) + szE x := by
  rw [List.take_add_one, h]; simp [szL]
theorem szL_app (a b : List En) : szL (a ++ b) = szL a + szL b := by simp [szL]
theorem encE1_length {x : En} (h : x.g.length = 2) : (encE1 x).length = szE x := by simp [encE1, szE, h]; omega
theorem encL_length : ∀ {l : List En}, (∀ x ∈ l, x.g.length = 2) → (encL l).length = szL l
  | [], _ => rfl
  | x :: r, h => by
    have h1 := encL_length (l := r) fun y hy => h y (by simp [hy])
    simp only [encL, szL, List.flatMap_cons, List.length_append, List.map_cons, List.sum_cons] at h1 ⊢
    rw [encE1_length (h x (by simp)), h1]
theorem szL_le : ∀ {l : List En} {m : Nat}, (∀ x ∈ l, x.d.length ≤ m) → szL l ≤ l.length * (m + 4)
  | [], _, _ => by simp [szL]
  | x :: r, m, h => by
    have h1 := szL_le (l := r) fun y hy => h y (by simp [hy])
    have h2 := h x (by simp)
    simp only [szL, List.map_cons, List.sum_cons, List.length_cons, szE] at h1 ⊢
    rw [Nat.add_mul]; omega
theorem encL_bound : ∀ {l : List En} {m : Nat}, (∀ x ∈ l, x.g.length ≤ m ∧ x.d.length ≤ m) → (encL l).length ≤ l.length * (2 * m + 2)
  | [], _, _ => by simp [encL]
  | x :: r, m, h => by
    have h1 := encL_bound (l := r) fun y hy => h y (by simp [hy])
    have h2 := h x (by simp)
    simp only [encL, List.flatMap_cons, List.length_append, List.length_cons, encE1, List.length_nil] at h1 ⊢
    rw [Nat.add_mul]; omega
/-! ### Reading -/
def stopB (s : List UInt8) : Bool := decide ((s.length : Int) < 4) || decide (at_ s 0 = 0) || decide (s.take 2 = [83, 84])
def lenH (s : List UInt8) : Int := (at_ s 2).toNat
def badH (s : List UInt8) : Bool := (!sig (s.take 2) || decide (lenH s < 4)) || decide ((s.length : Int) < lenH s)
def hdE (s : List UInt8) : En := ⟨s.take 2, (at_ s 3).toNat, (s.take (lenH s).toNat).drop 4⟩
def decL : Nat → List UInt8 → Option (List En)
  | 0, _ => some []
  | f + 1, s => if stopB s = true then some [] else if badH s = true then none else (decL f (s.drop (lenH s).toNat)).map (hdE s :: ·)
theorem decL_fuel : ∀ (f : Nat) (s : List UInt8), s.length ≤ f → decL f s = decL s.length s
  | 0, s, h => by rw [show s.length = 0 by omega]
  | f + 1, s, h => by
    cases hl : s.length with
    | zero => exact (show decL (f + 1) s = some [] from by rw [decL, if_pos (by simp [stopB, hl])])
    | succ n =>
      rw [decL, decL]
      by_cases hs : stopB s = true
      · rw [if_pos hs, if_pos hs]
      · rw [if_neg hs, if_neg hs]
        by_cases hb : badH s = true
        · rw [if_pos hb, if_pos hb]
        · rw [if_neg hb, if_neg hb]
          have h4 : 4 ≤ lenH s := by
            simp only [badH, Bool.or_eq_true, decide_eq_true_eq, not_or] at hb; omega
          have hd : (s.drop (lenH s).toNat).length ≤ n := by rw [List.length_drop]; omega
          rw [decL_fuel f _ (by omega), decL_fuel n _ hd]
def decR (s : List UInt8) : List En × Int := match decL s.length s with
  | none => ([], 10)
  | some l => (l, 0)
theorem dec_stop {s : List UInt8} (h : stopB s = true) : decL s.length s = some [] := by
  cases hl : s.length with
  | zero => rfl
  | succ n => rw [decL, if_pos h]
theorem dec_bad {s : List UInt8} (h : stopB s = false) (hb : badH s = true) : decL s.length s = none := by
  cases hl : s.length with
  | zero => simp [stopB, hl] at h
  | succ n => rw [decL, if_neg (by simp [h]), if_pos hb]
theorem badH_spec {s : List UInt8} (hb : badH s = false) : sig (s.take 2) = true ∧ 4 ≤ lenH s ∧ lenH s ≤ s.length := by
  simp only [badH, Bool.or_eq_false_iff, decide_eq_false_iff_not, Bool.not_eq_false'] at hb
  exact ⟨hb.1.1, by omega, by omega⟩
theorem dec_next {s : List UInt8} (h : stopB s = false) (hb : badH s = false) : decL s.length s = (decL (s.drop (lenH s).toNat).length (s.drop (lenH s).toNat)).map (hdE s :: ·) := by
  cases hl : s.length with
  | zero => simp [stopB, hl] at h
  | succ n =>
    have h4 := (badH_spec hb).2.1
    rw [decL, if_neg (by simp [h]), if_neg (by simp [hb]), decL_fuel n _ (by rw [List.length_drop]; omega)]
theorem decR_some {s : List UInt8} {l : List En} (h : decL s.length s = some l) : decR s = (l, 0) := by rw [decR, h]
theorem decR_none {s : List UInt8} (h : decL s.length s = none) : decR s = ([], 10) := by rw [decR, h]
theorem lenH_lt (s : List UInt8) : 0 ≤ lenH s ∧ lenH s < 256 := ⟨by unfold lenH; omega, u8_lt _⟩
theorem decL_bound : ∀ (f : Nat) (s : List UInt8) (l : List En), decL f s = some l → 4 * l.length ≤ s.length
  | 0, s, l, h => by simp [decL] at h; subst h; simp
  | f + 1, s, l, h => by
    rw [decL] at h
    split at h
    · simp at h; subst h; simp
    · split at h
      · cases h
      · rename_i hb
        obtain ⟨l', hl', rfl⟩ := Option.map_eq_some_iff.1 h
        have h1 := decL_bound f _ l' hl'
        have h2 := badH_spec (by simpa using hb)
        rw [List.length_drop] at h1
        simp; omega
def smE (x : En) : Bool := !(decide ((400 : Int) < (x.d.length : Int)) || decide ((20 : Int) < (x.g.length : Int)))
def small (l : List En) (m : Int) : Bool := !decide (m < (l.length : Int)) && l.all smE
theorem small_spec {l : List En} {m : Int} (h : small l m = true) : (l.length : Int) ≤ m ∧ ∀ x ∈ l, x.d.length ≤ 400 ∧ x.g.length ≤ 20 := by
  simp only [small, Bool.and_eq_true, Bool.not_eq_true', decide_eq_false_iff_not] at h
  refine ⟨by omega, fun x hx => ?_⟩
  have := List.all_eq_true.1 h.2 x hx
  simp only [smE, Bool.not_eq_true', Bool.or_eq_false_iff, decide_eq_false_iff_not] at this
  omega
theorem same_no {α : Type} {a b : List α} {i : Nat} {x y : α} (hx : a[i]? = some x) (hy : b[i]? = some y) (h : x ≠ y) : a ≠ b := fun e => by
  subst e
  rw [hx] at hy
  exact h (Option.some.inj hy)
theorem same_take {α : Type} {a b : List α} {i : Nat} {x : α} (hx : a[i]? = some x) (hy : b[i]? = some x) (h : a.take i = b.take i) : a.take (i + 1) = b.take (i + 1) := by
  rw [List.take_add_one, List.take_add_one, h, hx, hy]
theorem same_end {α : Type} {a b : List α} {i : Nat} (h : a.take i = b.take i) (hl : a.length = b.length) (hi : a.length ≤ i) : a = b := by
  rwa [List.take_of_length_le hi, List.take_of_length_le (by omega)] at h
end Go.Proofs.Ytnbclhbpjlpcoaa
