/- Chapter 27 in plain Lean: encoded catalogs with bytes turned. My own text. -/
import Derived.Test.YtlgkjpmaekkpjaaMath6
set_option linter.unusedVariables false
set_option linter.unusedSimpArgs false
namespace Go.Proofs.Ytlgkjpmaekkpjaa
open Go.XK
/-! ### One byte of one entry -/
theorem flat_set : ∀ (es : List (List UInt8)) (i j : Nat) (e : List UInt8) (c : UInt8), (∀ e ∈ es, e.length = 32) → es[i]? = some e → j < 32 → es.flatten.set (32 * i + j) c = (es.set i (e.set j c)).flatten
  | [], i, j, e, c, _, h, _ => by simp at h
  | f :: es, 0, j, e, c, h32, h, hj => by
    simp at h; subst h
    have := h32 f (by simp)
    rw [List.set_cons_zero, List.flatten_cons, List.flatten_cons, Nat.mul_zero, Nat.zero_add, List.set_append_left _ _ (by omega)]
  | f :: es, i + 1, j, e, c, h32, h, hj => by
    have hf := h32 f (by simp)
    have := flat_set es i j e c (fun x hx => h32 x (by simp [hx])) (by simpa using h) hj
    rw [List.set_cons_succ, List.flatten_cons, List.flatten_cons, List.set_append_right _ _ (by omega), hf, show 32 * (i + 1) + j - 32 = 32 * i + j from by omega, this]
theorem set_32 {es : List (List UInt8)} (h : ∀ e ∈ es, e.length = 32) {i j : Nat} {e : List UInt8} {c : UInt8} (he : es[i]? = some e) : ∀ x ∈ es.set i (e.set j c), x.length = 32 := by
  intro x hx
  rcases List.mem_or_eq_of_mem_set hx with hx | rfl
  · exact h x hx
  · rw [List.length_set]; exact h e (List.mem_of_getElem? he)
/-! ### The sum with one byte turned -/
theorem wsum_mod : ∀ (v : List UInt8) (a : Int), (wsum a v - a - wsum 0 v) % 65536 = 0
  | [], a => by simp [wsum]
  | [_], a => by simp [wsum]
  | x :: y :: t, a => by
    have h1 := wsum_mod t ((a + x.toNat + 256 * y.toNat) % 65536)
    have h2 := wsum_mod t ((0 + x.toNat + 256 * y.toNat) % 65536)
    rw [wsum, wsum]
    omega
theorem wsum_set : ∀ (v : List UInt8) (j : Nat) (c e : UInt8), v[j]? = some e → v.length % 2 = 0 → ∃ m : Int, (m = 1 ∨ m = 256) ∧ (wsum 0 (v.set j c) - wsum 0 v - m * ((c.toNat : Int) - e.toNat)) % 65536 = 0
  | [], j, c, e, h, _ => by simp at h
  | [_], j, c, e, h, h2 => by simp at h2
  | x :: y :: t, 0, c, e, h, _ => by
    simp at h; subst h
    refine ⟨1, .inl rfl, ?_⟩
    rw [List.set_cons_zero, wsum, wsum]
    have h1 := wsum_mod t ((0 + c.toNat + 256 * y.toNat) % 65536)
    have h2 := wsum_mod t ((0 + x.toNat + 256 * y.toNat) % 65536)
    omega
  | x :: y :: t, 1, c, e, h, _ => by
    simp at h; subst h
    refine ⟨256, .inr rfl, ?_⟩
    rw [List.set_cons_succ, List.set_cons_zero, wsum, wsum]
    have h1 := wsum_mod t ((0 + x.toNat + 256 * c.toNat) % 65536)
    have h2 := wsum_mod t ((0 + x.toNat + 256 * y.toNat) % 65536)
    omega
  | x :: y :: t, j + 2, c, e, h, h2 => by
    obtain ⟨m, hm, he⟩ := wsum_set t j c e (by simpa using h) (by simp at h2; omega)
    refine ⟨m, hm, ?_⟩
    rw [List.set_cons_succ, List.set_cons_succ, wsum, wsum]
    have h3 := wsum_mod (t.set j c) ((0 + x.toNat + 256 * y.toNat) % 65536)
    have h4 := wsum_mod t ((0 + x.toNat + 256 * y.toNat) % 65536)
    omega
theorem wsum_turned {v : List UInt8} {j : Nat} {c e : UInt8} (h : v[j]? = some e) (h2 : v.length % 2 = 0) (h0 : wsum 0 v = 0) (hne : c ≠ e) : wsum 0 (v.set j c) ≠ 0 := by
  obtain ⟨m, hm, he⟩ := wsum_set v j c e h h2
  intro h3
  rw [h0, h3] at he
  have hc := u8_lt c
  have he' := u8_lt e
  have hce : (c.toNat : Int) ≠ e.toNat := fun h => hne (u8_eq.1 h)
  rcases hm with rfl | rfl <;> omega
theorem dec_key {l : List Img} (h : (encR l).2 = 0) {j : Nat} {c e : UInt8} (hj : j < 32) (he : (encR l).1[j]? = some e) (hne : c ≠ e) : decR ((encR l).1.set j c) = ([], 10) := by
  obtain ⟨h0, h1, hv, hS⟩ := enc_ok h
  cases l with
  | nil => simp at h0
  | cons x t =>
    have hget : (encE (x :: t))[0]? = some (valB x.P) := rfl
    have hse := flat_set (encE (x :: t)) 0 j (valB x.P) c (encE_32 _) hget hj
    rw [Nat.mul_zero, Nat.zero_add] at hse
    rw [hS, hse, decR_flat _ (set_32 (encE_32 _) hget) (by rw [List.length_set]; exact encE_len h0 h1)]
    rw [encE, List.set_cons_zero]
    refine runS_inr ?_
    have hev : (valB x.P)[j]? = some e := by
      rw [hS, encE, List.flatten_cons, List.getElem?_append_left (by rw [valB_length]; exact hj)] at he
      exact he
    have hw := wsum_turned hev (by rw [valB_length]) (wsum_val x.P) hne
    rw [stepR, if_pos (show init.first = true from rfl), if_pos (.inr (.inr hw))]
/-! ### The last header turned -/
def tail144 : List Img → List (List UInt8)
  | [] => []
  | x :: r => hdrB 144 x.P :: imgB x :: tail144 r
theorem tailE_last : ∀ (r : List Img) (y : Img), tailE (r ++ [y]) = tail144 r ++ [hdrB 145 y.P, imgB y]
  | [], y => rfl
  | x :: r, y => by rw [List.cons_append, tailE, if_neg (by simp), tailE_last r y, tail144]; rfl
theorem tail144_len : ∀ r : List Img, (tail144 r).length = 2 * r.length
  | [] => rfl
  | x :: r => by rw [tail144, List.length_cons, List.length_cons, tail144_len r, List.length_cons]; omega
theorem run_144 : ∀ (r : List Img) (q h : Int) (o : List Img) (zs : List (List UInt8)), 0 ≤ h → r.all Img.valid = true → ∃ q' h', 0 ≤ h' ∧ runS ⟨q, 0, true, false, h, o⟩ (tail144 r ++ zs) = runS ⟨q', 0, true, false, h', o ++ r⟩ zs
  | [], q, h, o, zs, hh, _ => ⟨q, h, hh, by simp [tail144]⟩
  | x :: r, q, h, o, zs, hh, hv => by
    rw [List.all_cons, Bool.and_eq_true] at hv
    have hpl := (Img.okv hv.1).pl
    obtain ⟨q', h', hh', he⟩ := run_144 r x.P (h + 1) (o ++ [x]) zs (by omega) hv.2
    refine ⟨q', h', hh', ?_⟩
    rw [tail144, List.cons_append, List.cons_append, runS_inl (step_hdrB (.inl rfl) hpl), runF_go (by simp), runS_inl (t' := ⟨x.P, 0, true, false, h + 1, o ++ [x]⟩) (by rw [step_img (by decide), readR_img hv.1]; simp), runF_go (by simp), he]
    simp
theorem run_zero {q h : Int} {o : List Img} (hh : 0 < h) : ∀ k, runS ⟨q, 0, true, false, h, o⟩ (zeroE k) = ([], 10)
  | 0 => rfl
  | k + 1 => by
    rw [zeroE, List.replicate_succ]
    refine runS_inr ?_
    have h0 : at_ (zeros 32) 0 = 0 := rfl
    have hne : ¬ h = 0 := by omega
    simp [stepR, h0, hne]
theorem run_zimg : ∀ (k : Nat) (q left h : Int) (m : Bool) (o : List Img), (k : Int) < left → runS ⟨q, left, m, false, h, o⟩ (zeroE k) = ([], 10)
  | 0, _, _, _, _, _, _ => rfl
  | k + 1, q, left, h, m, o, hl => by
    rw [zeroE, List.replicate_succ, runS_inl (t' := ⟨q, left - 1, m, false, h, o ++ [(readR (zeros 32) q).1]⟩) (by
      rw [step_img (by omega)]
      have : (readR (zeros 32) q).2 = 0 := rfl
      rw [if_neg (by rw [this]; simp)]), runF_go (by simp; omega)]
    exact run_zimg k q (left - 1) h m _ (by omega)
/-- The encoded entries, but the last header, are read; what then follows tells. -/
theorem run_last {x y : Img} {r : List Img} (hv : (x :: (r ++ [y])).all Img.valid = true) (zs : List (List UInt8)) : ∃ q h, 0 ≤ h ∧ runS init (valB x.P :: imgB x :: (tail144 r ++ zs)) = runS ⟨q, 0, true, false, h, x :: r⟩ zs := by
  rw [List.all_cons, List.all_append, Bool.and_eq_true, Bool.and_eq_true] at hv
  have hpl := (Img.okv hv.1).pl
  obtain ⟨q, h, hh, he⟩ := run_144 r x.P 0 [x] zs (by decide) hv.2.1
  refine ⟨q, h, hh, ?_⟩
  rw [runS_inl (step_val hpl), runF_go (by simp), runS_inl (t' := ⟨x.P, 0, true, false, 0, [x]⟩) (by rw [step_img (by decide), readR_img hv.1]; simp), runF_go (by simp), he]
  rfl
theorem split_last {l : List Img} (h : 2 ≤ l.length) : ∃ x r y, l = x :: (r ++ [y]) := by
  cases l with
  | nil => simp at h
  | cons x t =>
    have ht : t ≠ [] := fun hc => by subst hc; simp at h
    exact ⟨x, t.dropLast, t.getLast ht, by rw [List.dropLast_concat_getLast]⟩
theorem encE_last (x y : Img) (r : List Img) : encE (x :: (r ++ [y])) = valB x.P :: imgB x :: (tail144 r ++ (hdrB 145 y.P :: imgB y :: zeroE (62 - 2 * (r ++ [y]).length))) := by
  rw [encE, tailE_last, List.append_assoc]; rfl
theorem last_get (x y : Img) (r : List Img) (H : List UInt8) (zs : List (List UInt8)) : (valB x.P :: imgB x :: (tail144 r ++ (H :: zs)))[2 + 2 * r.length]? = some H := by
  rw [show 2 + 2 * r.length = 2 * r.length + 1 + 1 from by omega, List.getElem?_cons_succ, List.getElem?_cons_succ, List.getElem?_append_right (by rw [tail144_len]; exact Nat.le_refl _), tail144_len, Nat.sub_self]
  rfl
theorem last_set (x y : Img) (r : List Img) (H H' : List UInt8) (zs : List (List UInt8)) : (valB x.P :: imgB x :: (tail144 r ++ (H :: zs))).set (2 + 2 * r.length) H' = valB x.P :: imgB x :: (tail144 r ++ (H' :: zs)) := by
  rw [show 2 + 2 * r.length = 2 * r.length + 1 + 1 from by omega, List.set_cons_succ, List.set_cons_succ, List.set_append_right _ _ (by rw [tail144_len]; exact Nat.le_refl _), tail144_len, Nat.sub_self]
  rfl
/-- The catalog with header H for the last one. -/
def withH (x y : Img) (r : List Img) (H : List UInt8) : List (List UInt8) := valB x.P :: imgB x :: (tail144 r ++ (H :: imgB y :: zeroE (62 - 2 * (r ++ [y]).length)))
theorem withH_32 (x y : Img) (r : List Img) {H : List UInt8} (hH : H.length = 32) : ∀ e ∈ withH x y r H, e.length = 32 := by
  have h1 := encE_32 (x :: (r ++ [y]))
  rw [encE_last] at h1
  have h2 := set_32 h1 (i := 2 + 2 * r.length) (j := 0) (c := 0) (last_get x y r _ _)
  intro e he
  rw [withH] at he
  rcases List.mem_cons.1 he with rfl | he
  · exact valB_length _
  · rcases List.mem_cons.1 he with rfl | he
    · exact imgB_length _
    · rcases List.mem_append.1 he with he | he
      · exact h1 e (by simp [he])
      · rcases List.mem_cons.1 he with rfl | he
        · exact hH
        · exact h1 e (by
            rw [List.mem_cons, List.mem_cons, List.mem_append]
            exact .inr (.inr (.inr (List.mem_cons_of_mem _ he))))
theorem withH_set (x y : Img) (r : List Img) {H : List UInt8} (hH : H.length = 32) {j : Nat} (hj : j < 32) (c : UInt8) : (withH x y r H).flatten.set (32 * (2 + 2 * r.length) + j) c = (withH x y r (H.set j c)).flatten := by
  rw [flat_set _ _ _ H c (withH_32 x y r hH) (last_get x y r _ _) hj, withH, last_set x y]
  rfl
theorem withH_len (x y : Img) (r : List Img) (H : List UInt8) (h : ¬ 32 < (x :: (r ++ [y])).length) : (withH x y r H).length = 64 := by
  have := encE_len (l := x :: (r ++ [y])) (by simp) h
  rw [encE_last] at this
  simp only [withH, List.length_cons, List.length_append] at this ⊢
  exact this
theorem enc_withH {l : List Img} (h : (encR l).2 = 0) (h2 : 2 ≤ l.length) : ∃ x r y, l = x :: (r ++ [y]) ∧ (encR l).1 = (withH x y r (hdrB 145 y.P)).flatten ∧ 64 * (l.length - 1) = 32 * (2 + 2 * r.length) ∧ (x :: (r ++ [y])).all Img.valid = true ∧ ¬ 32 < (x :: (r ++ [y])).length := by
  obtain ⟨x, r, y, rfl⟩ := split_last h2
  obtain ⟨h0, h1, hv, hS⟩ := enc_ok h
  refine ⟨x, r, y, rfl, ?_, by simp; omega, hv, h1⟩
  rw [hS, encE_last]; rfl
theorem dec_cut1 {l : List Img} (h : (encR l).2 = 0) (h2 : 2 ≤ l.length) : decR ((encR l).1.set (64 * (l.length - 1)) 144) = ([], 10) := by
  obtain ⟨x, r, y, rfl, hS, hN, hv, h1⟩ := enc_withH h h2
  rw [hS, hN, show 32 * (2 + 2 * r.length) = 32 * (2 + 2 * r.length) + 0 from rfl, withH_set x y r (hdrB_length _ _) (by decide)]
  rw [show (hdrB 145 y.P).set 0 144 = hdrB 144 y.P from rfl]
  rw [decR_flat _ (withH_32 x y r (hdrB_length _ _)) (withH_len x y r _ h1)]
  obtain ⟨q, hd, hh, he⟩ := run_last hv (hdrB 144 y.P :: imgB y :: zeroE (62 - 2 * (r ++ [y]).length))
  rw [withH, he]
  have hvy : y.valid = true := List.all_eq_true.1 hv y (by simp)
  have hpl := (Img.okv hvy).pl
  rw [runS_inl (step_hdrB (.inl rfl) hpl), runF_go (by simp), runS_inl (t' := ⟨y.P, 0, true, false, hd + 1, (x :: r) ++ [y]⟩) (by rw [step_img (by decide), readR_img hvy]; simp), runF_go (by simp)]
  exact run_zero (by omega) _
theorem dec_cut2 {l : List Img} (h : (encR l).2 = 0) (h2 : 2 ≤ l.length) {n : Int} (hn : 64 ≤ n ∧ n ≤ 65535) : decR (((((encR l).1.set (64 * (l.length - 1)) 144).set (64 * (l.length - 1)) 145).set (64 * (l.length - 1) + 2) (u8of n)).set (64 * (l.length - 1) + 3) (u8of (n / 256))) = ([], 10) := by
  obtain ⟨x, r, y, rfl, hS, hN, hv, h1⟩ := enc_withH h h2
  rw [hS, hN]
  have e1 := withH_set x y r (H := hdrB 145 y.P) (hdrB_length _ _) (j := 0) (by decide) 144
  have e2 := withH_set x y r (H := (hdrB 145 y.P).set 0 144) rfl (j := 0) (by decide) 145
  have e3 := withH_set x y r (H := ((hdrB 145 y.P).set 0 144).set 0 145) rfl (j := 2) (by decide) (u8of n)
  have e4 := withH_set x y r (H := (((hdrB 145 y.P).set 0 144).set 0 145).set 2 (u8of n)) rfl (j := 3) (by decide) (u8of (n / 256))
  rw [Nat.add_zero] at e1 e2
  rw [e1, e2, e3, e4]
  rw [decR_flat _ (withH_32 x y r rfl) (withH_len x y r _ h1)]
  obtain ⟨q, hd, hh, he⟩ := run_last hv (((((hdrB 145 y.P).set 0 144).set 0 145).set 2 (u8of n)).set 3 (u8of (n / 256)) :: imgB y :: zeroE (62 - 2 * (r ++ [y]).length))
  rw [withH, he]
  have hvy : y.valid = true := List.all_eq_true.1 hv y (by simp)
  have hpl := (Img.okv hvy).pl
  have hr : rdle [u8of n, u8of (n / 256)] = n := by
    simp only [rdle, u8of_toNat]; omega
  have hp2 : plat ((u8of y.P).toNat : Int) = true := by rw [plat_u8 hpl]; exact hpl
  have key : ∀ H : List UInt8, at_ H 0 = 145 → at_ H 1 = u8of y.P → sub H 2 2 = [u8of n, u8of (n / 256)] → stepR ⟨q, 0, true, false, hd, x :: r⟩ H = .inl ⟨y.P, n, false, false, hd + 1, x :: r⟩ := fun H a0 a1 a2 => by
    simp [stepR, a0, a1, a2, hr, hp2, plat_u8 hpl, hpl]
  have hst := key (((((hdrB 145 y.P).set 0 144).set 0 145).set 2 (u8of n)).set 3 (u8of (n / 256))) rfl rfl rfl
  rw [runS_inl hst, runF_go (by simp; omega), runS_inl (t' := ⟨y.P, n - 1, false, false, hd + 1, (x :: r) ++ [y]⟩) (by rw [step_img (by omega), readR_img hvy]; simp), runF_go (by simp; omega)]
  exact run_zimg _ _ _ _ _ _ (by omega)
end Go.Proofs.Ytlgkjpmaekkpjaa
