/- Chapter 27 in plain Lean: what is encoded is decoded as the same images. My own text. -/
import Derived.Test.YtlgkjpmaekkpjaaMath5
set_option linter.unusedVariables false
set_option linter.unusedSimpArgs false
namespace Go.Proofs.Ytlgkjpmaekkpjaa
open Go.XK
/-! ### Entries -/
theorem ents_flat : ∀ (es : List (List UInt8)), (∀ e ∈ es, e.length = 32) → ents es.length es.flatten = es
  | [], _ => rfl
  | e :: es, h => by
    have he := h e (by simp)
    rw [List.length_cons, ents, List.flatten_cons, List.take_left' he, List.drop_left' he, ents_flat es (fun x hx => h x (by simp [hx]))]
theorem flat_length : ∀ (es : List (List UInt8)), (∀ e ∈ es, e.length = 32) → es.flatten.length = 32 * es.length
  | [], _ => rfl
  | e :: es, h => by
    rw [List.flatten_cons, List.length_append, h e (by simp), flat_length es (fun x hx => h x (by simp [hx])), List.length_cons]; omega
theorem decR_flat (es : List (List UInt8)) (h : ∀ e ∈ es, e.length = 32) (h64 : es.length = 64) : decR es.flatten = runS init es := by
  have hl := flat_length es h
  rw [decR, if_neg (by rw [hl, h64]; simp)]
  congr 1
  have := ents_flat es h
  rw [h64] at this
  exact this
/-! ### Numbers -/
theorem rdle_le2 {n : Int} (h0 : 0 ≤ n) (h1 : n ≤ 65535) : rdle (le 2 n) = n := by
  rw [show le 2 n = [u8of (n / 1), u8of (n / 256)] from rfl]
  simp only [rdle, u8of_toNat]
  omega
theorem rdle_le4 {n : Int} (h0 : 0 ≤ n) (h1 : n ≤ 4294967295) : rdle (le 4 n) = n := by
  rw [show le 4 n = [u8of (n / 1), u8of (n / 256), u8of (n / 65536), u8of (n / 16777216)] from rfl]
  simp only [rdle, u8of_toNat]
  omega
/-! ### Image entries -/
theorem at_img0 (x : Img) : at_ (imgB x) 0 = first x.b := rfl
theorem at_img1 (x : Img) : at_ (imgB x) 1 = u8of x.M := rfl
theorem sub_img2 (x : Img) : sub (imgB x) 2 2 = le 2 x.S := rfl
theorem sub_img6 (x : Img) : sub (imgB x) 6 2 = le 2 x.C := rfl
theorem sub_img8 (x : Img) : sub (imgB x) 8 4 = le 4 x.L := rfl
theorem readR_img {x : Img} (h : x.valid = true) : readR (imgB x) x.P = (x, 0) := by
  have hv := Img.okv h
  have hM : ((u8of x.M).toNat : Int) = x.M := by rw [u8of_toNat]; have := hv.M; omega
  unfold readR imgR
  rw [at_img0, at_img1, sub_img2, sub_img6, sub_img8, rdle_le2 hv.S.1 hv.S.2, rdle_le2 hv.C.1 hv.C.2, rdle_le4 hv.L.1 hv.L.2, hM]
  rw [if_neg (by rcases x with ⟨_, _, _, _, _, b⟩; cases b <;> simp [first])]
  rw [if_neg (by have := hv.M; rw [UInt8.lt_iff_toNat_lt]; simp; omega)]
  rcases x with ⟨P, M, S, C, L, b⟩
  cases b <;> rfl
/-! ### Header entries -/
theorem at_hdr0 (k : UInt8) (p : Int) : at_ (hdrB k p) 0 = k := rfl
theorem at_hdr1 (k : UInt8) (p : Int) : at_ (hdrB k p) 1 = u8of p := rfl
theorem sub_hdr2 (k : UInt8) (p : Int) : sub (hdrB k p) 2 2 = [1, 0] := rfl
theorem plat_u8 {p : Int} (h : plat p = true) : ((u8of p).toNat : Int) = p := by
  have := plat_range h
  rw [u8of_toNat]; omega
theorem step_hdrB {k : UInt8} {q p h : Int} {o : List Img} (hk : k = 144 ∨ k = 145) (hp : plat p = true) : stepR ⟨q, 0, true, false, h, o⟩ (hdrB k p) = .inl ⟨p, 1, decide (k = 144), false, h + 1, o⟩ := by
  have h0 : k ≠ 0 := by rcases hk with rfl | rfl <;> decide
  have h1 : ¬ (k ≠ 144 ∧ k ≠ 145) := fun hc => by rcases hk with h | h; exact hc.1 h; exact hc.2 h
  simp [stepR, at_hdr0, at_hdr1, sub_hdr2, h0, h1, plat_u8 hp, hp, show rdle [1, 0] = 1 from by decide]
  first | rfl | exact decide_eq_decide.mpr Iff.rfl
/-- The entries behind the first two. -/
def tailE : List Img → List (List UInt8)
  | [] => []
  | x :: r => hdrB (if r = [] then 145 else 144) x.P :: imgB x :: tailE r
theorem tailE_flat : ∀ l : List Img, (tailE l).flatten = tailB l
  | [] => rfl
  | x :: r => by rw [tailE, List.flatten_cons, List.flatten_cons, tailE_flat r, tailB_cons, List.append_assoc]
theorem tailE_len : ∀ l : List Img, (tailE l).length = 2 * l.length
  | [] => rfl
  | x :: r => by rw [tailE, List.length_cons, List.length_cons, tailE_len r, List.length_cons]; omega
theorem tailE_32 : ∀ l : List Img, ∀ e ∈ tailE l, e.length = 32
  | [], e, h => by cases h
  | x :: r, e, h => by
    rw [tailE] at h
    rcases List.mem_cons.1 h with rfl | h
    · exact hdrB_length _ _
    · rcases List.mem_cons.1 h with rfl | h
      · exact imgB_length _
      · exact tailE_32 r e h
theorem run_tail : ∀ (l : List Img) (q h : Int) (o : List Img) (zs : List (List UInt8)), l ≠ [] → l.all Img.valid = true → runS ⟨q, 0, true, false, h, o⟩ (tailE l ++ zs) = (o ++ l, 0)
  | [], _, _, _, _, hne, _ => absurd rfl hne
  | x :: r, q, h, o, zs, _, hv => by
    rw [List.all_cons, Bool.and_eq_true] at hv
    have hpl := (Img.okv hv.1).pl
    rw [tailE, List.cons_append, List.cons_append, runS_inl (step_hdrB (by split <;> simp) hpl), runF_go (by simp), runS_inl (t' := ⟨x.P, 0, decide ((if r = [] then (145 : UInt8) else 144) = 144), false, h + 1, o ++ [x]⟩) (by rw [step_img (by decide), readR_img hv.1]; simp)]
    by_cases hr : r = []
    · subst hr
      rw [runF_stop rfl (by simp)]
    · rw [if_neg hr, runF_go (by simp)]
      have := run_tail r x.P (h + 1) (o ++ [x]) zs hr hv.2
      rw [show decide ((144 : UInt8) = 144) = true from rfl, this]
      simp
/-! ### The validation entry -/
theorem wsum_app : ∀ (u v : List UInt8) (a : Int), u.length % 2 = 0 → wsum a (u ++ v) = wsum (wsum a u) v
  | [], v, a, _ => rfl
  | [_], v, a, h => by simp at h
  | x :: y :: u, v, a, h => by
    rw [List.cons_append, List.cons_append, wsum, wsum]
    exact wsum_app u v _ (by simp at h; omega)
theorem wsum_key (a b : Int) (h : List UInt8) (he : h.length % 2 = 0) (hk : 0 ≤ b ∧ b < 65536) : wsum 0 (h ++ le 2 b ++ [85, 170]) = (wsum 0 (h ++ [0, 0] ++ [85, 170]) + b) % 65536 := by
  rw [List.append_assoc, List.append_assoc, wsum_app _ _ _ he, wsum_app _ _ _ he]
  rw [show le 2 b = [u8of (b / 1), u8of (b / 256)] from rfl]
  simp only [List.cons_append, List.nil_append, wsum, u8of_toNat]
  simp only [show ((85 : UInt8).toNat : Int) = 85 from rfl, show ((170 : UInt8).toNat : Int) = 170 from rfl, show ((0 : UInt8).toNat : Int) = 0 from rfl]
  omega
theorem wsum_val (p : Int) : wsum 0 (valB p) = 0 := by
  have hw := wsum_bound (valHead p ++ [0, 0] ++ [85, 170]) 0 (by decide) (by decide)
  rw [valB, wsum_key 0 (valKey p) (valHead p) (by simp [valHead]) (by unfold valKey; omega)]
  unfold valKey
  omega
theorem at_val0 (p : Int) : at_ (valB p) 0 = 1 := rfl
theorem at_val1 (p : Int) : at_ (valB p) 1 = u8of p := rfl
theorem val_drop (p : Int) : (valB p).drop 30 = [85, 170] := rfl
theorem step_val {p : Int} (hp : plat p = true) : stepR init (valB p) = .inl ⟨p, 1, true, false, 0, []⟩ := by
  simp [stepR, init, at_val0, at_val1, val_drop, wsum_val, plat_u8 hp, hp]
/-! ### Encode, then Decode -/
def zeroE (k : Nat) : List (List UInt8) := List.replicate k (zeros 32)
theorem zeroE_flat : ∀ k, (zeroE k).flatten = zeros (32 * k)
  | 0 => rfl
  | k + 1 => by
    rw [zeroE, List.replicate_succ, List.flatten_cons, show (List.replicate k (zeros 32)).flatten = zeros (32 * k) from zeroE_flat k]
    simp only [zeros, List.replicate_append_replicate]
    congr 1; omega
def encE : List Img → List (List UInt8)
  | [] => []
  | x :: t => valB x.P :: imgB x :: (tailE t ++ zeroE (62 - 2 * t.length))
theorem encE_32 (l : List Img) : ∀ e ∈ encE l, e.length = 32 := by
  intro e he
  cases l with
  | nil => cases he
  | cons x t =>
    rw [encE] at he
    rcases List.mem_cons.1 he with rfl | he
    · exact valB_length _
    · rcases List.mem_cons.1 he with rfl | he
      · exact imgB_length _
      · rcases List.mem_append.1 he with he | he
        · exact tailE_32 t e he
        · rw [List.eq_of_mem_replicate he]; simp
theorem encE_len {l : List Img} (h0 : l.length ≠ 0) (h : ¬ 32 < l.length) : (encE l).length = 64 := by
  cases l with
  | nil => simp at h0
  | cons x t => simp only [encE, List.length_cons, List.length_append, tailE_len, zeroE, List.length_replicate] at *; omega
theorem encE_flat {l : List Img} (h0 : l.length ≠ 0) (h : ¬ 32 < l.length) : (encE l).flatten = encB l ++ zeros (2048 - 64 * l.length) := by
  cases l with
  | nil => simp at h0
  | cons x t =>
    simp only [encE, encB, List.flatten_cons, List.flatten_append, tailE_flat, zeroE_flat, List.append_assoc, List.length_cons] at *
    rw [show 32 * (62 - 2 * t.length) = 2048 - 64 * (t.length + 1) from by omega]
theorem run_enc {l : List Img} (h0 : l.length ≠ 0) (h : ¬ 32 < l.length) (hv : l.all Img.valid = true) : runS init (encE l) = (l, 0) := by
  cases l with
  | nil => simp at h0
  | cons x t =>
    rw [List.all_cons, Bool.and_eq_true] at hv
    have hpl := (Img.okv hv.1).pl
    rw [encE, runS_inl (step_val hpl), runF_go (by simp), runS_inl (t' := ⟨x.P, 0, true, false, 0, [x]⟩) (by rw [step_img (by decide), readR_img hv.1]; simp), runF_go (by simp)]
    by_cases ht : t = []
    · subst ht
      rw [tailE, List.nil_append, show zeroE (62 - 2 * ([] : List Img).length) = zeros 32 :: zeroE 61 from rfl]
      exact runS_inr (by rfl)
    · rw [run_tail t x.P 0 [x] _ ht hv.2]; rfl
/-- What Encode returned with no error. -/
theorem enc_ok {l : List Img} (h : (encR l).2 = 0) : l.length ≠ 0 ∧ ¬ 32 < l.length ∧ l.all Img.valid = true ∧ (encR l).1 = (encE l).flatten := by
  by_cases h0 : l.length = 0
  · rw [encR_nil h0] at h; cases h
  · by_cases h1 : 32 < l.length
    · rw [encR_many h1] at h; cases h
    · cases hv : l.all Img.valid with
      | false => rw [encR_bad h0 h1 hv] at h; cases h
      | true => exact ⟨h0, h1, rfl, by rw [encR_good h0 h1 hv, encE_flat h0 h1]⟩
theorem enc_bad {l : List Img} (h : (encR l).2 ≠ 0) : (encR l).1 = [] := by
  by_cases h0 : l.length = 0
  · rw [encR_nil h0]
  · by_cases h1 : 32 < l.length
    · rw [encR_many h1]
    · cases hv : l.all Img.valid with
      | false => rw [encR_bad h0 h1 hv]
      | true => rw [encR_good h0 h1 hv] at h; exact absurd rfl h
theorem enc_length {l : List Img} (h : (encR l).2 = 0) : (encR l).1.length = 2048 := by
  obtain ⟨h0, h1, hv, he⟩ := enc_ok h
  rw [he, flat_length _ (encE_32 l), encE_len h0 h1]
theorem dec_enc {l : List Img} (h : (encR l).2 = 0) : decR (encR l).1 = (l, 0) := by
  obtain ⟨h0, h1, hv, he⟩ := enc_ok h
  rw [he, decR_flat _ (encE_32 l) (encE_len h0 h1), run_enc h0 h1 hv]
theorem enc_sum {l : List Img} (h : (encR l).2 = 0) : wsum 0 (((encR l).1.take 32).drop 0) = 0 := by
  obtain ⟨h0, h1, hv, he⟩ := enc_ok h
  rw [he, List.drop_zero]
  cases l with
  | nil => simp at h0
  | cons x t => rw [encE, List.flatten_cons, List.take_left' (valB_length _)]; exact wsum_val _
end Go.Proofs.Ytlgkjpmaekkpjaa
