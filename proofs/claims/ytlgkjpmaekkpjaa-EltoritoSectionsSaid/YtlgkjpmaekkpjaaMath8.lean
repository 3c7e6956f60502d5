/- Chapter 27 in plain Lean: bytes that do not matter. My own text. -/
import Derived.Test.YtlgkjpmaekkpjaaMath7
set_option linter.unusedVariables false
set_option linter.unusedSimpArgs false
namespace Go.Proofs.Ytlgkjpmaekkpjaa
open Go.XK
/-- An entry that is read as the image x. -/
def ImgLike (x : Img) (e : List UInt8) : Prop := readR e x.P = (x, 0)
/-- An entry that is read as the header (kind k) of one image x. -/
def HdrLike (k : UInt8) (x : Img) (e : List UInt8) : Prop := at_ e 0 = k ∧ at_ e 1 = u8of x.P ∧ rdle (sub e 2 2) = 1
theorem step_hdrL {k : UInt8} {q h : Int} {o : List Img} {x : Img} {e : List UInt8} (hk : k = 144 ∨ k = 145) (hx : x.valid = true) (he : HdrLike k x e) : stepR ⟨q, 0, true, false, h, o⟩ e = .inl ⟨x.P, 1, decide (k = 144), false, h + 1, o⟩ := by
  have hp := (Img.okv hx).pl
  have h0 : k ≠ 0 := by rcases hk with rfl | rfl <;> decide
  have h1 : ¬ (k ≠ 144 ∧ k ≠ 145) := fun hc => by rcases hk with h | h; exact hc.1 h; exact hc.2 h
  obtain ⟨a0, a1, a2⟩ := he
  simp [stepR, a0, a1, a2, h0, h1, plat_u8 hp, hp]
  try (first | rfl | exact decide_eq_decide.mpr Iff.rfl)
/-- Entries that are read as sections of one image each. -/
inductive TailLike : List Img → List (List UInt8) → Prop
  | nil : TailLike [] []
  | cons {x : Img} {r : List Img} {a b : List UInt8} {es : List (List UInt8)} (ha : HdrLike (if r = [] then 145 else 144) x a) (hb : ImgLike x b) (ht : TailLike r es) : TailLike (x :: r) (a :: b :: es)
theorem run_like : ∀ {l : List Img} {es : List (List UInt8)} (q h : Int) (o : List Img) (zs : List (List UInt8)), TailLike l es → l ≠ [] → l.all Img.valid = true → runS ⟨q, 0, true, false, h, o⟩ (es ++ zs) = (o ++ l, 0)
  | _, _, q, h, o, zs, .nil, hne, _ => absurd rfl hne
  | x :: r, _, q, h, o, zs, .cons (a := a) (b := b) (es := es) ha hb ht, _, hv => by
    rw [List.all_cons, Bool.and_eq_true] at hv
    have hb : readR b x.P = (x, 0) := hb
    rw [List.cons_append, List.cons_append, runS_inl (step_hdrL (by split <;> simp) hv.1 ha), runF_go (by simp), runS_inl (t' := ⟨x.P, 0, decide ((if r = [] then (145 : UInt8) else 144) = 144), false, h + 1, o ++ [x]⟩) (by rw [step_img (by decide), hb]; simp)]
    by_cases hr : r = []
    · subst hr
      rw [runF_stop rfl (by simp)]
    · rw [if_neg hr, runF_go (by simp)]
      have := run_like x.P (h + 1) (o ++ [x]) zs ht hr hv.2
      rw [show decide ((144 : UInt8) = 144) = true from rfl, this]
      simp
theorem run_encL {x : Img} {t : List Img} {b : List UInt8} {es zs : List (List UInt8)} (hv : (x :: t).all Img.valid = true) (hb : ImgLike x b) (ht : TailLike t es) (hz : t = [] → ∃ z zs', zs = z :: zs' ∧ at_ z 0 = 0) : runS init (valB x.P :: b :: (es ++ zs)) = (x :: t, 0) := by
  rw [List.all_cons, Bool.and_eq_true] at hv
  have hpl := (Img.okv hv.1).pl
  have hb : readR b x.P = (x, 0) := hb
  rw [runS_inl (step_val hpl), runF_go (by simp), runS_inl (t' := ⟨x.P, 0, true, false, 0, [x]⟩) (by rw [step_img (by decide), hb]; simp), runF_go (by simp)]
  by_cases h : t = []
  · subst h
    cases ht
    obtain ⟨z, zs', rfl, hz0⟩ := hz rfl
    exact runS_inr (by simp [stepR, hz0])
  · rw [run_like x.P 0 [x] zs ht h hv.2]; rfl
theorem imgLike (x : Img) (h : x.valid = true) : ImgLike x (imgB x) := readR_img h
theorem hdrLike (k : UInt8) (x : Img) : HdrLike k x (hdrB k x.P) := ⟨rfl, rfl, rfl⟩
theorem tailLike : ∀ (l : List Img), l.all Img.valid = true → TailLike l (tailE l)
  | [], _ => .nil
  | x :: r, h => by
    rw [List.all_cons, Bool.and_eq_true] at h
    exact .cons (hdrLike _ _) (imgLike x h.1) (tailLike r h.2)
/-! ### One byte of an entry that is not read -/
theorem at_set {e : List UInt8} {j : Nat} {c : UInt8} {i : Int} (h : i.toNat ≠ j) : at_ (e.set j c) i = at_ e i := by
  unfold at_
  rw [List.getD_eq_getElem?_getD, List.getD_eq_getElem?_getD, List.getElem?_set_ne (Ne.symm h)]
theorem sub_set {e : List UInt8} {j : Nat} {c : UInt8} {p : Int} {z : Nat} (h : j < p.toNat ∨ p.toNat + z ≤ j) : sub (e.set j c) p z = sub e p z := by
  unfold sub
  rcases h with h | h
  · rw [List.drop_set_of_lt h]
  · apply List.ext_getElem?
    intro i
    rw [List.getElem?_take, List.getElem?_take]
    split
    · rw [List.getElem?_drop, List.getElem?_drop, List.getElem?_set_ne (by omega)]
    · rfl
theorem img_set {x : Img} {e : List UInt8} {j : Nat} {c : UInt8} (h : ImgLike x e) (hj : (j = 4 ∨ j = 5) ∨ 12 ≤ j) : ImgLike x (e.set j c) := by
  unfold ImgLike readR imgR at *
  rw [at_set (by show (0 : Nat) ≠ j; omega), at_set (by show (1 : Nat) ≠ j; omega), sub_set (by show j < 2 ∨ 2 + 2 ≤ j; omega), sub_set (by show j < 6 ∨ 6 + 2 ≤ j; omega), sub_set (by show j < 8 ∨ 8 + 4 ≤ j; omega)]
  exact h
theorem hdr_set {k : UInt8} {x : Img} {e : List UInt8} {j : Nat} {c : UInt8} (h : HdrLike k x e) (hj : 4 ≤ j) : HdrLike k x (e.set j c) := by
  unfold HdrLike at *
  rw [at_set (by show (0 : Nat) ≠ j; omega), at_set (by show (1 : Nat) ≠ j; omega), sub_set (by show j < 2 ∨ 2 + 2 ≤ j; omega)]
  exact h
/-- What the law leaves: entry e, offset j of a tail (its first entry is number 2). -/
theorem tail_set : ∀ {l : List Img} {es : List (List UInt8)} (i j : Nat) (c : UInt8), TailLike l es → (i % 2 = 0 → 4 ≤ j) → (i % 2 = 1 → (j = 4 ∨ j = 5) ∨ 12 ≤ j) → TailLike l (es.set i ((es.getD i []).set j c))
  | _, _, i, j, c, .nil, _, _ => by simpa using TailLike.nil
  | x :: r, _, 0, j, c, .cons (a := a) (b := b) (es := es) ha hb ht, h0, h1 => .cons (hdr_set ha (h0 rfl)) hb ht
  | x :: r, _, 1, j, c, .cons (a := a) (b := b) (es := es) ha hb ht, h0, h1 => .cons ha (img_set hb (h1 rfl)) ht
  | x :: r, _, i + 2, j, c, .cons (a := a) (b := b) (es := es) ha hb ht, h0, h1 => .cons ha hb (tail_set i j c ht (fun h => h0 (by omega)) (fun h => h1 (by omega)))
theorem zs_set {k i j : Nat} {c : UInt8} (hk : 0 < k) (h : i = 0 → j ≠ 0) : ∃ z zs', (zeroE k).set i (((zeroE k).getD i []).set j c) = z :: zs' ∧ at_ z 0 = 0 := by
  obtain ⟨k, rfl⟩ : ∃ m, k = m + 1 := ⟨k - 1, by omega⟩
  rw [show zeroE (k + 1) = zeros 32 :: zeroE k from rfl]
  cases i with
  | zero =>
    refine ⟨(zeros 32).set j c, zeroE k, rfl, ?_⟩
    rw [at_set (by show (0 : Nat) ≠ j; exact Ne.symm (h rfl))]; rfl
  | succ i => exact ⟨zeros 32, _, rfl, rfl⟩
theorem dec_ign {l : List Img} (he0 : (encR l).2 = 0) {e j : Nat} {c : UInt8} (h1 : 1 ≤ e) (h64 : e < 64) (hj : j < 32)
    (hm : e < 2 * l.length → (e % 2 = 0 → 4 ≤ j) ∧ (e % 2 = 1 → (j = 4 ∨ j = 5) ∨ 12 ≤ j)) (hz : 2 * l.length ≤ e → ¬ (l.length = 1 ∧ e = 2 ∧ j = 0)) : decR ((encR l).1.set (32 * e + j) c) = (l, 0) := by
  obtain ⟨h0, h32, hv, hS⟩ := enc_ok he0
  cases l with
  | nil => simp at h0
  | cons x t =>
    have hlen := encE_len h0 h32
    obtain ⟨ent, hent⟩ : ∃ ent, (encE (x :: t))[e]? = some ent := ⟨_, List.getElem?_eq_getElem (by omega)⟩
    rw [hS, flat_set _ e j ent c (encE_32 _) hent hj, decR_flat _ (set_32 (encE_32 _) hent) (by rw [List.length_set]; exact hlen)]
    have hvx : x.valid = true := by rw [List.all_cons, Bool.and_eq_true] at hv; exact hv.1
    have hvt : t.all Img.valid = true := by rw [List.all_cons, Bool.and_eq_true] at hv; exact hv.2
    have hk : t = [] → 0 < 62 - 2 * t.length := fun h => by subst h; simp
    simp only [List.length_cons] at hm hz h0 h32
    rw [encE] at hent ⊢
    obtain ⟨i, rfl⟩ : ∃ i, e = i + 1 := ⟨e - 1, by omega⟩
    rw [List.getElem?_cons_succ] at hent
    rw [List.set_cons_succ]
    cases i with
    | zero =>
      rw [List.getElem?_cons_zero] at hent
      obtain rfl := Option.some.inj hent
      rw [List.set_cons_zero]
      exact run_encL hv (img_set (imgLike x hvx) ((hm (by omega)).2 rfl)) (tailLike t hvt) (fun h => by
        obtain ⟨k, hk2⟩ : ∃ m, 62 - 2 * t.length = m + 1 := ⟨62 - 2 * t.length - 1, by have := hk h; omega⟩
        rw [hk2]; exact ⟨zeros 32, zeroE k, rfl, rfl⟩)
    | succ i =>
      rw [List.getElem?_cons_succ] at hent
      rw [List.set_cons_succ]
      by_cases hi : i < (tailE t).length
      · rw [List.getElem?_append_left hi] at hent
        rw [List.set_append_left _ _ hi]
        have hi2 := hi
        rw [tailE_len] at hi2
        have hd : (tailE t).getD i [] = ent := by rw [List.getD_eq_getElem?_getD, hent]; rfl
        have ht := tail_set i j c (tailLike t hvt) (fun h => (hm (by omega)).1 (by omega)) (fun h => (hm (by omega)).2 (by omega))
        rw [hd] at ht
        exact run_encL hv (imgLike x hvx) ht (fun h => by subst h; simp at hi2)
      · rw [List.getElem?_append_right (by omega)] at hent
        rw [List.set_append_right _ _ (by omega)]
        have hd : (zeroE (62 - 2 * t.length)).getD (i - (tailE t).length) [] = ent := by rw [List.getD_eq_getElem?_getD, hent]; rfl
        refine run_encL hv (imgLike x hvx) (tailLike t hvt) (fun h => ?_)
        have hq := zs_set (k := 62 - 2 * t.length) (i := i - (tailE t).length) (j := j) (c := c) (hk h) (fun hi0 hj0 => by
          subst h
          simp only [tailE, List.length_nil] at hi0 hi
          exact hz (by simp only [List.length_nil]; omega) ⟨rfl, by omega, hj0⟩)
        rw [hd] at hq
        exact hq
end Go.Proofs.Ytlgkjpmaekkpjaa
