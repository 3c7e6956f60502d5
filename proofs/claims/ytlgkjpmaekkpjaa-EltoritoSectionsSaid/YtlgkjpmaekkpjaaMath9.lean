/- Chapter 27 in plain Lean: images of one platform in one section. My own text. -/
import Derived.Test.YtlgkjpmaekkpjaaMath8
set_option linter.unusedVariables false
set_option linter.unusedSimpArgs false
namespace Go.Proofs.Ytlgkjpmaekkpjaa
open Go.XK
/-- Entries whose bytes are s. -/
def Ents (s : List UInt8) (es : List (List UInt8)) : Prop := s = es.flatten ∧ ∀ e ∈ es, e.length = 32
theorem Ents.snoc {s : List UInt8} {es : List (List UInt8)} {e : List UInt8} (h : Ents s es) (he : e.length = 32) : Ents (s ++ e) (es ++ [e]) := by
  obtain ⟨rfl, h32⟩ := h
  refine ⟨by simp, fun x hx => ?_⟩
  rcases List.mem_append.1 hx with hx | hx
  · exact h32 x hx
  · rw [List.mem_singleton.1 hx]; exact he
theorem Ents.length {s : List UInt8} {es : List (List UInt8)} (h : Ents s es) : s.length = 32 * es.length := by
  obtain ⟨rfl, h32⟩ := h
  exact flat_length es h32
theorem Ents.dec {s : List UInt8} {es : List (List UInt8)} (h : Ents s es) (hl : es.length ≤ 64) : decR (s ++ zeros (2048 - s.length)) = runS init (es ++ zeroE (64 - es.length)) := by
  have hlen := h.length
  obtain ⟨rfl, h32⟩ := h
  have : es.flatten ++ zeros (2048 - es.flatten.length) = (es ++ zeroE (64 - es.length)).flatten := by
    rw [List.flatten_append, zeroE_flat, hlen, show 32 * (64 - es.length) = 2048 - 32 * es.length from by omega]
  rw [this]
  refine decR_flat _ (fun e he => ?_) (by simp [zeroE]; omega)
  rcases List.mem_append.1 he with he | he
  · exact h32 e he
  · rw [List.eq_of_mem_replicate he]; simp
/-- The header of a section of n images. -/
def secB (k : UInt8) (p n : Int) : List UInt8 := [k, u8of p, u8of n, 0] ++ zeros 28
theorem secB_length (k : UInt8) (p n : Int) : (secB k p n).length = 32 := by simp [secB]
theorem step_sec {k : UInt8} {q p h n : Int} {o : List Img} (hk : k = 144 ∨ k = 145) (hp : plat p = true) (hn : 0 ≤ n ∧ n < 256) : stepR ⟨q, 0, true, false, h, o⟩ (secB k p n) = .inl ⟨p, n, decide (k = 144), false, h + 1, o⟩ := by
  have h0 : k ≠ 0 := by rcases hk with rfl | rfl <;> decide
  have h1 : ¬ (k ≠ 144 ∧ k ≠ 145) := fun hc => by rcases hk with h | h; exact hc.1 h; exact hc.2 h
  have a0 : at_ (secB k p n) 0 = k := rfl
  have a1 : at_ (secB k p n) 1 = u8of p := rfl
  have a2 : sub (secB k p n) 2 2 = [u8of n, 0] := rfl
  have hr : rdle [u8of n, 0] = n := by
    simp only [rdle, u8of_toNat, show ((0 : UInt8).toNat : Int) = 0 from rfl]; omega
  simp [stepR, a0, a1, a2, h0, h1, plat_u8 hp, hp, hr]
  try (first | rfl | exact decide_eq_decide.mpr Iff.rfl)
/-- Image i of the encoded catalog. -/
theorem encE_img : ∀ (t : List Img) (i : Nat) (y : Img), t[i]? = some y → (tailE t)[2 * i + 1]? = some (imgB y)
  | [], i, y, h => by simp at h
  | x :: r, 0, y, h => by simp at h; subst h; rfl
  | x :: r, i + 1, y, h => by
    rw [tailE, show 2 * (i + 1) + 1 = (2 * i + 1) + 1 + 1 from by omega, List.getElem?_cons_succ, List.getElem?_cons_succ]
    exact encE_img r i y (by simpa using h)
theorem flat_sub {es : List (List UInt8)} (h32 : ∀ e ∈ es, e.length = 32) : ∀ {i : Nat} {e : List UInt8}, es[i]? = some e → (es.flatten.take (32 * i + 32)).drop (32 * i) = e := by
  intro i
  induction es generalizing i with
  | nil => intro e h; simp at h
  | cons f es ih =>
    intro e h
    have hf := h32 f (by simp)
    cases i with
    | zero =>
      simp at h; subst h
      rw [List.flatten_cons, Nat.mul_zero, Nat.zero_add, List.take_left' hf, List.drop_zero]
    | succ i =>
      have := ih (fun x hx => h32 x (by simp [hx])) (i := i) (e := e) (by simpa using h)
      rw [List.flatten_cons, List.take_append, List.take_of_length_le (by omega), List.drop_append, List.drop_eq_nil_of_le (by omega), hf, List.nil_append, show 32 * (i + 1) + 32 - 32 = 32 * i + 32 from by omega, show 32 * (i + 1) - 32 = 32 * i from by omega]
      exact this
theorem enc_img_at {l : List Img} (he0 : (encR l).2 = 0) {i : Nat} {y : Img} (hy : l[i]? = some y) : ((encR l).1.take (64 + 64 * i)).drop (32 + 64 * i) = imgB y := by
  obtain ⟨h0, h32, hv, hS⟩ := enc_ok he0
  have hg : (encE l)[2 * i + 1]? = some (imgB y) := by
    cases l with
    | nil => simp at hy
    | cons x t =>
      cases i with
      | zero => simp at hy; subst hy; rfl
      | succ i =>
        rw [encE, show 2 * (i + 1) + 1 = (2 * i + 1) + 1 + 1 from by omega, List.getElem?_cons_succ, List.getElem?_cons_succ]
        have := encE_img t i y (by simpa using hy)
        rw [List.getElem?_append_left (List.getElem?_eq_some_iff.1 this).1]
        exact this
  have := flat_sub (encE_32 l) hg
  rw [hS, show 64 + 64 * i = 32 * (2 * i + 1) + 32 from by omega, show 32 + 64 * i = 32 * (2 * i + 1) from by omega]
  exact this
end Go.Proofs.Ytlgkjpmaekkpjaa
