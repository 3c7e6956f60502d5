/- Chapter 24: what the laws need. My own text. -/
import Derived.Test.YtnbclhbpjlpcoaaC12
set_option linter.unusedVariables false
set_option linter.unusedSimpArgs false
namespace Go.Proofs.Ytnbclhbpjlpcoaa
open Go.XK Go.RowKit
theorem grpL_sz : ∀ (f : Nat) (l : List En) (room : Int), ∀ g ∈ grpL f l room, szL g ≤ szL l
  | 0, l, room, g, hg => by simp [grpL] at hg; subst hg; exact Nat.le_refl _
  | f + 1, l, room, g, hg => by
    rw [grpL] at hg
    split at hg
    · rcases List.mem_cons.1 hg with rfl | hg
      · exact szL_take_le _ _
      · exact Nat.le_trans (grpL_sz f _ _ g hg) (szL_drop_le _ _)
    · simp at hg; subst hg; exact Nat.le_refl _
theorem grpR_bd (l : List En) (room : Int) : (grpR l room).1.length ≤ 64 ∧ ∀ g ∈ (grpR l room).1, szL g ≤ 1000000 := by
  by_cases h : chkR l ≠ 0
  · rw [grpR_1 h]; exact ⟨by simp, fun g hg => by cases hg⟩
  · have h0 : chkR l = 0 := Classical.not_not.1 h
    have hz := (ok_sz (chkR_zero h0)).2
    unfold grpR
    rw [if_neg h]
    split
    · exact ⟨by simp, fun g hg => by cases hg⟩
    · split
      · exact ⟨by simp, fun g hg => by cases hg⟩
      · split
        · exact ⟨by simp, fun g hg => by cases hg⟩
        · split
          · exact ⟨by simp, fun g hg => by cases hg⟩
          · rename_i h4
            exact ⟨by show (grp l room).length ≤ 64; omega, fun g hg => by have := grpL_sz _ _ _ g hg; omega⟩
theorem grp_hbg {gs : List Gp} {l : List En} {room : Int} (h : gs.map (·.l) = (grpR l room).1) : ∀ g ∈ gs, szL g.l ≤ 1000000 := fun g hg =>
  (grpR_bd l room).2 g.l (by rw [← h]; exact List.mem_map_of_mem hg)
theorem grp_hll {gs : List Gp} {l : List En} {room : Int} (h : gs.map (·.l) = (grpR l room).1) : gs.length ≤ 1000000 := by
  have h1 := (grpR_bd l room).1
  have h2 := congrArg List.length h
  simp only [List.length_map] at h2
  omega
theorem small_sz {l : List En} (h : small l 40 = true) : szL l ≤ 1000000 := by
  have h1 := small_spec h
  have h2 := szL_le (l := l) (m := 400) fun x hx => (h1.2 x hx).1
  have h3 : l.length * (400 + 4) ≤ 40 * (400 + 4) := Nat.mul_le_mul_right _ (by omega)
  omega
/-! ### What is encoded is read back -/
theorem okc_ne {c : UInt8} (h : okc c = true) : c ≠ 0 := fun e => by subst e; revert h; decide
theorem at_app0 {s t : List UInt8} {i : Nat} (h : i < s.length) : at_ (s ++ t) (i : Int) = s[i] := by
  simp [at_, List.getD_eq_getElem?_getD, List.getElem?_append_left h, List.getElem?_eq_getElem h]
theorem dec_one {x : En} {t : List UInt8} (hx : badE x = 0) (hs : x.g ≠ [83, 84]) : stopB (encE1 x ++ t) = false ∧ badH (encE1 x ++ t) = false ∧ hdE (encE1 x ++ t) = x ∧ (encE1 x ++ t).drop (lenH (encE1 x ++ t)).toNat = t := by
  obtain ⟨h1, h2, h3, h4⟩ := badE_spec hx
  obtain ⟨g, v, d⟩ := x
  simp only at h1 h2 h3 h4 hs
  have hg := sig_len h1
  match g, hg with
  | [a, b], _ =>
    have hok : okc a = true := by
      simp only [sig, Bool.and_eq_true, List.all_cons] at h1
      exact h1.2.1
    have ha := okc_ne hok
    have hL : (u8of (4 + (d.length : Int))).toNat = 4 + d.length := by
      have := u8of_toNat (4 + (d.length : Int))
      omega
    have hV : ((u8of v).toNat : Int) = v := by rw [u8of_toNat]; omega
    have hE : encE1 ⟨[a, b], v, d⟩ ++ t = a :: b :: u8of (4 + (d.length : Int)) :: u8of v :: (d ++ t) := by simp [encE1]
    have hl : lenH (a :: b :: u8of (4 + (d.length : Int)) :: u8of v :: (d ++ t)) = 4 + (d.length : Int) := by
      show ((u8of (4 + (d.length : Int))).toNat : Int) = _
      rw [hL]; omega
    rw [hE]
    refine ⟨?_, ?_, ?_, ?_⟩
    · simp only [stopB, Bool.or_eq_false_iff, decide_eq_false_iff_not]
      refine ⟨⟨by simp; omega, ha⟩, hs⟩
    · simp only [badH, hl, Bool.or_eq_false_iff, decide_eq_false_iff_not, Bool.not_eq_false']
      exact ⟨⟨h1, by omega⟩, by simp; omega⟩
    · rw [hdE, hl, show (4 + (d.length : Int)).toNat = d.length + 4 by omega]
      show (⟨[a, b], ((u8of v).toNat : Int), (d ++ t).take d.length⟩ : En) = ⟨[a, b], v, d⟩
      rw [hV, List.take_left' rfl]
    · rw [hl, show (4 + (d.length : Int)).toNat = d.length + 4 by omega]
      show (d ++ t).drop d.length = t
      rw [List.drop_left' rfl]
theorem dec_enc {t : List UInt8} (ht : stopB t = true) : ∀ (l : List En), (∀ x ∈ l, badE x = 0) → (∀ x ∈ l, x.g ≠ [83, 84]) → decL (encL l ++ t).length (encL l ++ t) = some l
  | [], _, _ => dec_stop ht
  | x :: r, h1, h2 => by
    have he : encL (x :: r) ++ t = encE1 x ++ (encL r ++ t) := by simp [encL]
    obtain ⟨a1, a2, a3, a4⟩ := dec_one (t := encL r ++ t) (h1 x (by simp)) (h2 x (by simp))
    rw [he, dec_next a1 a2, a3, a4, dec_enc ht r (fun y hy => h1 y (by simp [hy])) (fun y hy => h2 y (by simp [hy]))]
    rfl
theorem encR_err {l : List En} (h : (encR l).2 ≠ 0) : (encR l).1 = [] := by
  by_cases h0 : chkR l = 0
  · rw [encR_ok h0] at h; exact absurd rfl h
  · rw [encR_no h0]
theorem encR_fine {l : List En} (h : ¬ (encR l).2 ≠ 0) : chkR l = 0 ∧ (encR l).1 = encL l := by
  by_cases h0 : chkR l = 0
  · exact ⟨h0, by rw [encR_ok h0]⟩
  · rw [encR_no h0] at h; exact absurd h0 h
theorem ret_dec {l : List En} {t : List UInt8} (h : ¬ (encR l).2 ≠ 0) (hst : (l.any fun x => decide (x.g = [83, 84])) = false) (ht : stopB t = true) : decR ((encR l).1 ++ t) = (l, 0) := by
  obtain ⟨h0, h1⟩ := encR_fine h
  rw [h1]
  refine decR_some (dec_enc ht l (chkR_zero h0).2 fun x hx e => ?_)
  have := List.any_eq_false.1 hst x hx
  simp [e] at this
theorem ret_len {l : List En} (h : ¬ (encR l).2 ≠ 0) : ((encR l).1.length : Int) = wr64 (szL l : Int) := by
  obtain ⟨h0, h1⟩ := encR_fine h
  have hz := (ok_sz (chkR_zero h0)).2
  rw [h1, encL_length fun x hx => sig_len (badE_spec ((chkR_zero h0).2 x hx)).1, wr64_id (by omega) (by omega)]
def tails (s : List UInt8) : List (List UInt8) := [[], s.take (min s.length 3), [0] ++ s, [83, 84, 4, 1] ++ s]
theorem tails_stop {s : List UInt8} : ∀ t ∈ tails s, stopB t = true := fun t ht => by
  simp only [tails, List.mem_cons, List.not_mem_nil, or_false] at ht
  rcases ht with rfl | rfl | rfl | rfl
  · decide
  · simp only [stopB, Bool.or_eq_true, decide_eq_true_eq]; left; left; simp; omega
  · simp only [stopB, Bool.or_eq_true, decide_eq_true_eq]; left; right; rfl
  · simp only [stopB, Bool.or_eq_true, decide_eq_true_eq]; right; rfl
theorem tails_len {s : List UInt8} (h : s.length ≤ 1000) : ∀ t ∈ tails s, t.length ≤ 2000 := fun t ht => by
  simp only [tails, List.mem_cons, List.not_mem_nil, or_false] at ht
  rcases ht with rfl | rfl | rfl | rfl <;> simp <;> omega
end Go.Proofs.Ytnbclhbpjlpcoaa
