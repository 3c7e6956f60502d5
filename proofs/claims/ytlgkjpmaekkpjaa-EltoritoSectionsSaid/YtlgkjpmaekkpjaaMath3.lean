/- Chapter 27 in plain Lean: decoding. My own text. -/
import Derived.Test.YtlgkjpmaekkpjaaMath2
set_option linter.unusedVariables false
namespace Go.Proofs.Ytlgkjpmaekkpjaa
open Go.XK
theorem at_sub {s : List UInt8} {p j : Int} {z : Nat} (h0 : 0 ≤ p) (hj : 0 ≤ j) (hz : j < z) : at_ (sub s p z) j = at_ s (p + j) := by
  unfold at_ sub
  rw [List.getD_eq_getElem?_getD, List.getD_eq_getElem?_getD, List.getElem?_take, if_pos (by omega), List.getElem?_drop, show (p + j).toNat = p.toNat + j.toNat from by omega]
theorem sub_sub {s : List UInt8} {p q : Int} {z y : Nat} (h0 : 0 ≤ p) (hq : 0 ≤ q) (h : q + y ≤ z) : sub (sub s p z) q y = sub s (p + q) y := by
  unfold sub
  rw [List.drop_take, List.take_take, List.drop_drop, show min y (z - q.toNat) = y from by omega, show p.toNat + q.toNat = (p + q).toNat from by omega]
theorem sub_drop30 {s : List UInt8} (h : s.length = 32) : (s.drop 30 = [85, 170]) ↔ (at_ s 30 = 85 ∧ at_ s 31 = 170) := by
  have e : s.drop 30 = [at_ s 30, at_ s 31] := by
    rw [List.drop_eq_getElem_cons (by omega), List.drop_eq_getElem_cons (by omega), List.drop_eq_nil_of_le (by omega)]
    have e0 : at_ s 30 = s[30] := by simp [at_, List.getD_eq_getElem?_getD, h]
    have e1 : at_ s 31 = s[31] := by simp [at_, List.getD_eq_getElem?_getD, h]
    rw [e0, e1]
  rw [e]
  simp
/-- The entries from the i-th on. -/
def ents : Nat → List UInt8 → List (List UInt8)
  | 0, _ => []
  | k + 1, s => s.take 32 :: ents k (s.drop 32)
def E (s : List UInt8) (i : Nat) : List (List UInt8) := ents (64 - i) (s.drop (32 * i))
theorem E_cons {s : List UInt8} {i : Nat} (h : i < 64) : E s i = sub s (32 * (i : Int)) 32 :: E s (i + 1) := by
  unfold E
  rw [show 64 - i = (64 - (i + 1)) + 1 from by omega, ents, List.drop_drop]
  congr 1
theorem E_zero (s : List UInt8) : E s 0 = sub s 0 32 :: E s 1 := E_cons (by decide)
theorem E_one (s : List UInt8) : E s 1 = sub s 32 32 :: E s 2 := E_cons (by decide)
theorem E_end (s : List UInt8) : E s 64 = [] := rfl
structure St where
  p : Int
  left : Int
  more : Bool
  first : Bool
  hd : Int
  out : List Img
def stepR (t : St) (x : List UInt8) : St ⊕ (List Img × Int) :=
  if t.first then
    if at_ x 0 ≠ 1 ∨ x.drop 30 ≠ [85, 170] ∨ wsum 0 x ≠ 0 then .inr ([], 10)
    else if plat (at_ x 1).toNat = false then .inr ([], 14)
    else .inl { t with first := false, p := (at_ x 1).toNat }
  else if 0 < t.left then
    if (readR x t.p).2 ≠ 0 then .inr ([], (readR x t.p).2)
    else .inl { t with left := t.left - 1, out := t.out ++ [(readR x t.p).1] }
  else if at_ x 0 = 0 ∧ t.hd = 0 then .inr (t.out, 0)
  else if at_ x 0 ≠ 144 ∧ at_ x 0 ≠ 145 then .inr ([], 10)
  else if plat (at_ x 1).toNat = false then .inr ([], 14)
  else .inl { t with p := (at_ x 1).toNat, left := rdle (sub x 2 2), more := decide (at_ x 0 = 144), hd := t.hd + 1 }
def runS : St → List (List UInt8) → List Img × Int
  | _, [] => ([], 10)
  | t, x :: xs => match stepR t x with
    | .inr r => r
    | .inl t' => if t'.left = 0 ∧ t'.more = false then (t'.out, 0) else runS t' xs
def runF (t : St) (xs : List (List UInt8)) : List Img × Int := if t.left = 0 ∧ t.more = false then (t.out, 0) else runS t xs
theorem runS_inl {t t' : St} {x : List UInt8} {xs : List (List UInt8)} (h : stepR t x = .inl t') : runS t (x :: xs) = runF t' xs := by simp [runS, h, runF]
theorem runS_inr {t : St} {r : List Img × Int} {x : List UInt8} {xs : List (List UInt8)} (h : stepR t x = .inr r) : runS t (x :: xs) = r := by simp [runS, h]
theorem runF_go {t : St} {xs : List (List UInt8)} (h : ¬ (t.left = 0 ∧ t.more = false)) : runF t xs = runS t xs := if_neg h
theorem runF_stop {t : St} {xs : List (List UInt8)} (h1 : t.left = 0) (h2 : t.more = false) : runF t xs = (t.out, 0) := if_pos ⟨h1, h2⟩
def init : St := ⟨0, 1, true, true, 0, []⟩
/-- What Decode returns. -/
def decR (s : List UInt8) : List Img × Int := if s.length ≠ 2048 then ([], 1) else runS init (E s 0)
theorem readR_sub {s : List UInt8} {a p : Int} (h0 : 0 ≤ a) : readR (sub s a 32) p = if at_ s a ≠ 136 ∧ at_ s a ≠ 0 then (imgZ, 10) else if 4 < at_ s (a + 1) then (imgZ, 14) else (⟨p, (at_ s (a + 1)).toNat, rdle (sub s (a + 2) 2), rdle (sub s (a + 6) 2), rdle (sub s (a + 8) 4), decide (at_ s a = 136)⟩, 0) := by
  unfold readR imgR
  rw [at_sub h0 (by decide) (by decide), at_sub h0 (by decide) (by decide), sub_sub h0 (by decide) (by decide), sub_sub h0 (by decide) (by decide), sub_sub h0 (by decide) (by decide), Int.add_zero]
section
variable {P : Program} {n : Nat} {ds : List Deferred} {l : Env} {w : World} {ty t : TypeId} {k k2 : IntKind} {x y zz : Operand} {s : List UInt8} {p : Int}
theorem e_ssub (z : Nat) (ht : P.underlying t = some .string) (hx : val l x = some (.string (B s))) (hy : val l y = some (.int k p)) (hz : val l zz = some (.int k2 (p + (z : Int)))) (h0 : 0 ≤ p) (h : p + z ≤ s.length) : Ev P n ds l w (.slice t x (some y) (some zz) none) ty (.string (B (sub s p z))) w := by
  have h := e_sslice (P := P) (n := n) (ds := ds) (w := w) (ty := ty) (lo := p.toNat) (hi := (p + (z : Int)).toNat) ht hx (Bd.at_ hy (by omega)) (Bd.at_ hz (by omega)) (by omega) (by omega)
  rwa [show (s.take (p + (z : Int)).toNat).drop p.toNat = sub s p z from by rw [sub, show (p + (z : Int)).toNat = p.toNat + z from by omega, List.drop_take]; simp] at h
end
/-! ### The steps -/
theorem step_hdr {s : List UInt8} {a p h : Int} {o : List Img} (ha : 0 ≤ a) (hno : ¬ (at_ s a = 0 ∧ h = 0)) : stepR ⟨p, 0, true, false, h, o⟩ (sub s a 32) = if at_ s a ≠ 144 ∧ at_ s a ≠ 145 then .inr ([], 10) else if plat (at_ s (a + 1)).toNat = false then .inr ([], 14) else .inl ⟨(at_ s (a + 1)).toNat, rdle (sub s (a + 2) 2), decide (at_ s a = 144), false, h + 1, o⟩ := by
  have e0 : at_ (sub s a 32) 0 = at_ s a := by rw [at_sub ha (by decide) (by decide), Int.add_zero]
  have e1 : at_ (sub s a 32) 1 = at_ s (a + 1) := at_sub ha (by decide) (by decide)
  have e2 : sub (sub s a 32) 2 2 = sub s (a + 2) 2 := sub_sub ha (by decide) (by decide)
  simp [stepR, e0, e1, e2, hno]
theorem step_img {x : List UInt8} {p left h : Int} {more : Bool} {o : List Img} (hl : 0 < left) : stepR ⟨p, left, more, false, h, o⟩ x = if (readR x p).2 ≠ 0 then .inr ([], (readR x p).2) else .inl ⟨p, left - 1, more, false, h, o ++ [(readR x p).1]⟩ := by simp [stepR, hl]
theorem step_end {s : List UInt8} {a p : Int} {o : List Img} (ha : 0 ≤ a) (h0 : at_ s a = 0) : stepR ⟨p, 0, true, false, 0, o⟩ (sub s a 32) = .inr (o, 0) := by
  have e0 : at_ (sub s a 32) 0 = at_ s a := by rw [at_sub ha (by decide) (by decide), Int.add_zero]
  simp [stepR, e0, h0]
def keyB (s : List UInt8) : Bool := ((decide (at_ s 0 ≠ 1) || decide (at_ s 30 ≠ 85)) || decide (at_ s 31 ≠ 170)) || decide (wsum 0 ((s.take 32).drop 0) ≠ 0)
theorem keyB_iff {s : List UInt8} (hs : s.length = 2048) : keyB s = true ↔ (at_ (sub s 0 32) 0 ≠ 1 ∨ (sub s 0 32).drop 30 ≠ [85, 170] ∨ wsum 0 (sub s 0 32) ≠ 0) := by
  have e30 := sub_drop30 (s := sub s 0 32) (sub_length (by decide) (by omega))
  rw [at_sub (by decide) (by decide) (by decide), at_sub (by decide) (by decide) (by decide)] at e30
  rw [at_sub (by decide) (by decide) (by decide), show (sub s 0 32) = s.take 32 from by simp [sub], ← show (sub s 0 32) = s.take 32 from by simp [sub], ne_eq, ne_eq, e30]
  simp only [keyB, Bool.or_eq_true, decide_eq_true_eq, List.drop_zero, show (sub s 0 32) = s.take 32 from by simp [sub]]
  simp only [show (0 : Int) + 0 = 0 from rfl, show (0 : Int) + 30 = 30 from rfl, show (0 : Int) + 31 = 31 from rfl]
  constructor
  · rintro (((h | h) | h) | h)
    · exact .inl h
    · exact .inr (.inl fun h2 => h h2.1)
    · exact .inr (.inl fun h2 => h h2.2)
    · exact .inr (.inr h)
  · rintro (h | h | h)
    · exact .inl (.inl (.inl h))
    · rcases Classical.em (at_ s 30 = 85) with h1 | h1
      · exact .inl (.inr fun h2 => h ⟨h1, h2⟩)
      · exact .inl (.inl (.inr h1))
    · exact .inr h
theorem decR_size {s : List UInt8} (hs : ¬ s.length = 2048) : decR s = ([], 1) := by simp [decR, hs]
theorem decR_key {s : List UInt8} (hs : s.length = 2048) (h : keyB s = true) : decR s = ([], 10) := by
  rw [decR, if_neg (by simp [hs]), E_zero]
  exact runS_inr (by rw [stepR, if_pos (show init.first = true from rfl), if_pos ((keyB_iff hs).1 h)])
theorem at1_sub {s : List UInt8} : at_ (sub s 0 32) 1 = at_ s 1 := at_sub (by decide) (by decide) (by decide)
theorem decR_plat {s : List UInt8} (hs : s.length = 2048) (h : keyB s = false) (hp : plat (at_ s 1).toNat = false) : decR s = ([], 14) := by
  rw [decR, if_neg (by simp [hs]), E_zero]
  refine runS_inr ?_
  rw [stepR, if_pos (show init.first = true from rfl), if_neg (fun hc => by rw [(keyB_iff hs).2 hc] at h; cases h), if_pos (by rw [at1_sub]; exact hp)]
theorem decR_two {s : List UInt8} (hs : s.length = 2048) (h : keyB s = false) (hp : plat (at_ s 1).toNat = true) : decR s = runS ⟨(at_ s 1).toNat, 1, true, false, 0, []⟩ (E s 1) := by
  rw [decR, if_neg (by simp [hs]), E_zero]
  rw [runS_inl (t' := ⟨(at_ s 1).toNat, 1, true, false, 0, []⟩), runF_go (by simp)]
  rw [stepR, if_pos (show init.first = true from rfl), if_neg (fun hc => by rw [(keyB_iff hs).2 hc] at h; cases h), if_neg (by rw [at1_sub, hp]; simp), at1_sub]
  rfl
theorem decR_one_bad {s : List UInt8} (hs : s.length = 2048) (h : keyB s = false) (hp : plat (at_ s 1).toNat = true) (hr : (readR (sub s 32 32) (at_ s 1).toNat).2 ≠ 0) : decR s = ([], (readR (sub s 32 32) (at_ s 1).toNat).2) := by
  rw [decR_two hs h hp, E_one]
  refine runS_inr ?_
  rw [step_img (by decide), if_pos hr]
theorem decR_one {s : List UInt8} (hs : s.length = 2048) (h : keyB s = false) (hp : plat (at_ s 1).toNat = true) (hr : ¬ (readR (sub s 32 32) (at_ s 1).toNat).2 ≠ 0) : decR s = runS ⟨(at_ s 1).toNat, 0, true, false, 0, [(readR (sub s 32 32) (at_ s 1).toNat).1]⟩ (E s 2) := by
  rw [decR_two hs h hp, E_one, runS_inl (t' := ⟨(at_ s 1).toNat, 0, true, false, 0, [(readR (sub s 32 32) (at_ s 1).toNat).1]⟩), runF_go (by simp)]
  rw [step_img (by decide), if_neg hr]
  rfl
theorem one_Img : ∀ (x : Img), ∀ u ∈ x.enc, u.oneCell' = true := fun x u hu => by
  simp only [Img.enc, List.mem_cons, List.not_mem_nil, or_false] at hu
  rcases hu with rfl | rfl | rfl | rfl | rfl | rfl <;> rfl
end Go.Proofs.Ytlgkjpmaekkpjaa
