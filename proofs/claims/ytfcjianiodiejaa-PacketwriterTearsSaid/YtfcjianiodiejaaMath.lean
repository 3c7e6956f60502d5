/- Chapter 52: writes, steps, images, in plain words. My own text. -/
import Derived.Test.YtfcjianiodiejaaXKl
set_option linter.unusedVariables false
set_option linter.unusedSimpArgs false
namespace Go.Proofs.Ytfcjianiodiejaa
open Go.XK Go.RowKit
/-- A write, and where its blocks lie. -/
structure Wr where
  p : Int
  bl : List (List UInt8)
  sy : Bool
  cl : Bool
  A : Option Addr
  c : Nat
def encW (x : Wr) : List Value := [.int .i64 x.p, .slice x.A x.bl.length x.c, .bool x.sy, .bool x.cl]
/-- The blocks of the writes can be read. -/
def Inn (w : World) (ws : List Wr) : Prop := ∀ x ∈ ws, SlR w x.A x.c 1 encS x.bl
theorem Inn.ext {w w' : World} {ws : List Wr} (h : Inn w ws) (he : Ext w w') : Inn w' ws := fun x hx => (h x hx).ext he
structure Stp where
  p : Int
  b : List UInt8
  cl : Bool
def encT (s : Stp) : List Value := [.int .i64 s.p, .string (B s.b), .bool s.cl]
def wr64 (i : Int) : Int := IntKind.i64.wrap i
def stB (a : Int) (bl : List (List UInt8)) : List Stp := bl.mapIdx fun (k : Nat) b => ⟨wr64 (a + (k : Int)), b, false⟩
def stW (x : Wr) : List Stp := stB x.p x.bl ++ if x.cl then [⟨0, [], true⟩] else []
def stL (ws : List Wr) : List Stp := ws.flatMap stW
theorem stB_length (a : Int) (bl : List (List UInt8)) : (stB a bl).length = bl.length := by simp [stB]
theorem stB_take {a : Int} {bl : List (List UInt8)} {k : Nat} {b : List UInt8} (h : bl[k]? = some b) : stB a (bl.take (k + 1)) = stB a (bl.take k) ++ [⟨wr64 (a + (k : Int)), b, false⟩] := by
  have hk := (List.getElem?_eq_some_iff.1 h).1
  rw [List.take_add_one, h]
  simp [stB, List.mapIdx_append, Nat.min_eq_left (Nat.le_of_lt hk)]
theorem stL_take {ws : List Wr} {i : Nat} {x : Wr} (h : ws[i]? = some x) : stL (ws.take (i + 1)) = stL (ws.take i) ++ stW x := by
  rw [List.take_add_one, h]
  simp [stL]
theorem stL_pre (ws : List Wr) (i : Nat) : stL (ws.take i) <+: stL ws := by
  refine ⟨stL (ws.drop i), ?_⟩
  rw [stL, stL, ← List.flatMap_append, List.take_append_drop]; rfl
theorem stB_pre (a : Int) (bl : List (List UInt8)) (k : Nat) : stB a (bl.take k) <+: stB a bl := by
  refine ⟨(stB a bl).drop k, ?_⟩
  have : stB a (bl.take k) = (stB a bl).take k := by
    apply List.ext_getElem?
    intro i
    simp [stB, List.getElem?_mapIdx, List.getElem?_take]
    split <;> simp
  rw [this, List.take_append_drop]
theorem pre_trans {α : Type} {a b c : List α} (h : a <+: b) (k : b <+: c) : a <+: c := h.trans k
theorem pre_snoc {ws : List Wr} {i k : Nat} {x : Wr} {b : List UInt8} (hx : ws[i]? = some x) (hb : x.bl[k]? = some b) : stL (ws.take i) ++ stB x.p (x.bl.take k) ++ [⟨wr64 (x.p + (k : Int)), b, false⟩] <+: stL ws := by
  have h1 := stL_pre ws (i + 1)
  rw [stL_take hx] at h1
  refine pre_trans ?_ h1
  rw [List.append_assoc, ← stB_take hb]
  exact List.prefix_append_right_inj _ |>.2 (pre_trans (stB_pre x.p x.bl (k + 1)) (by simp [stW]))
theorem pre_close {ws : List Wr} {i : Nat} {x : Wr} (hx : ws[i]? = some x) (hc : x.cl = true) : stL (ws.take i) ++ stB x.p x.bl ++ [⟨0, [], true⟩] <+: stL ws := by
  have h1 := stL_pre ws (i + 1)
  rw [stL_take hx] at h1
  refine pre_trans ?_ h1
  rw [List.append_assoc]
  simp [stW, hc]
theorem mem_pre {α : Type} {pre L : List α} {x : α} (h : pre ++ [x] <+: L) : x ∈ L := h.subset (by simp)
theorem len_pre {α : Type} {pre L : List α} {x : α} (h : pre ++ [x] <+: L) : pre.length < L.length := by
  have := h.length_le
  simp at this; omega

/-! ### Images -/
abbrev Img := List (List UInt8)
def putI (im : Img) (p : Int) (b : List UInt8) : Img := (im ++ List.replicate (p.toNat + 1 - im.length) []).set p.toNat b
theorem putI_length (im : Img) (p : Int) (b : List UInt8) : (putI im p b).length = max im.length (p.toNat + 1) := by
  simp [putI]; omega
def putS (s : Stp) (im : Img) : Img := if s.cl then im else putI im s.p s.b
def tear (s : Stp) (im : Img) : Img := if s.cl then im else putI im s.p [33]
/-- The first n steps, and the torn one. -/
def cutL : List Stp → Nat → Img → Img
  | [], _, im => im
  | s :: _, 0, im => tear s im
  | s :: r, n + 1, im => cutL r n (putS s im)
theorem cutL_lt : ∀ (pre : List Stp) (s : Stp) (n : Nat) (im : Img), pre.length < n → cutL (pre ++ [s]) n im = putS s (cutL pre n im)
  | [], s, n + 1, im, _ => by cases n <;> rfl
  | t :: pre, s, n + 1, im, h => by
    show cutL (pre ++ [s]) n (putS t im) = putS s (cutL pre n (putS t im))
    exact cutL_lt pre s n _ (by simpa using h)
theorem cutL_eq : ∀ (pre : List Stp) (s : Stp) (im : Img), cutL (pre ++ [s]) pre.length im = tear s (cutL pre pre.length im)
  | [], s, im => rfl
  | t :: pre, s, im => by
    show cutL (pre ++ [s]) pre.length (putS t im) = tear s (cutL pre pre.length (putS t im))
    exact cutL_eq pre s _
theorem cutL_gt : ∀ (pre rest : List Stp) (n : Nat) (im : Img), n < pre.length → cutL (pre ++ rest) n im = cutL pre n im
  | t :: pre, rest, 0, im, _ => rfl
  | t :: pre, rest, n + 1, im, h => by
    show cutL (pre ++ rest) n (putS t im) = cutL pre n (putS t im)
    exact cutL_gt pre rest n _ (by simpa using h)
theorem cutL_pre {pre L : List Stp} {n : Nat} {im : Img} (h : pre <+: L) (hn : n < pre.length) : cutL L n im = cutL pre n im := by
  obtain ⟨r, rfl⟩ := h
  exact cutL_gt pre r n im hn
def inP (p : Int) : Bool := decide (0 ≤ p) && decide (p < 4096)
theorem putS_length {s : Stp} {im : Img} (hs : s.cl = false → s.p < 4096) (him : im.length ≤ 4096) : (putS s im).length ≤ 4096 := by
  unfold putS
  split
  · exact him
  · rename_i h
    have := hs (by simpa using h)
    rw [putI_length]; omega
theorem tear_length {s : Stp} {im : Img} (hs : s.cl = false → s.p < 4096) (him : im.length ≤ 4096) : (tear s im).length ≤ 4096 := by
  unfold tear
  split
  · exact him
  · rename_i h
    have := hs (by simpa using h)
    rw [putI_length]; omega
theorem cutL_length : ∀ (L : List Stp) (n : Nat) (im : Img), (∀ s ∈ L, s.cl = false → s.p < 4096) → im.length ≤ 4096 → (cutL L n im).length ≤ 4096
  | [], _, im, _, h => h
  | s :: r, 0, im, hs, h => tear_length (hs s (by simp)) h
  | s :: r, n + 1, im, hs, h => cutL_length r n _ (fun t ht => hs t (by simp [ht])) (putS_length (hs s (by simp)) h)

/-! ### What is valid -/
def okE (b : List UInt8) : Bool := !(decide (b ≠ []) && decide (b ≠ [33]) && decide ((b.length : Int) ≠ 2048))
def badB (b : List UInt8) : Bool := decide ((b.length : Int) ≠ 2048)
def badW (x : Wr) : Bool := decide (x.p < 0) || decide ((4096 : Int) < x.p) || decide (4096 - x.p < (x.bl.length : Int)) || (x.cl && decide ((0 : Int) < (x.bl.length : Int)))
def okW (x : Wr) : Bool := !badW x && !x.bl.any badB
def valid (im : Img) (ws : List Wr) : Bool := !(decide ((4096 : Int) < (im.length : Int)) || decide ((1024 : Int) < (ws.length : Int))) && (im.all okE && ws.all okW)
theorem all_no {α : Type} {p : α → Bool} {l : List α} {i : Nat} {x : α} (h : l[i]? = some x) (hx : p x = false) : l.all p = false := by
  rw [List.all_eq_false]
  exact ⟨x, List.mem_of_getElem? h, by simp [hx]⟩
theorem all_take {α : Type} {p : α → Bool} {l : List α} {i : Nat} {x : α} (h : l[i]? = some x) (hp : (l.take i).all p = true) (hx : p x = true) : (l.take (i + 1)).all p = true := by
  rw [List.take_add_one, h, List.all_append, hp]; simp [hx]
theorem all_end {α : Type} {p : α → Bool} {l : List α} {i : Nat} (hp : (l.take i).all p = true) (hi : l.length ≤ i) : l.all p = true := by rwa [List.take_of_length_le hi] at hp
theorem wr64_id {i : Int} (h : 0 ≤ i) (h2 : i ≤ 9223372036854775807) : wr64 i = i := IntWalk.i64_in _ ⟨by omega, by omega⟩
theorem okW_spec {x : Wr} (h : okW x = true) : 0 ≤ x.p ∧ x.p ≤ 4096 ∧ (x.bl.length : Int) ≤ 4096 - x.p ∧ (x.cl = true → x.bl = []) ∧ ∀ b ∈ x.bl, b.length = 2048 := by
  simp only [okW, badW, Bool.and_eq_true, Bool.not_eq_true', Bool.or_eq_false_iff, decide_eq_false_iff_not, List.any_eq_false, badB] at h
  obtain ⟨⟨⟨⟨h1, h2⟩, h3⟩, h4⟩, h5⟩ := h
  refine ⟨by omega, by omega, by omega, fun hc => ?_, fun b hb => ?_⟩
  · simp [hc] at h4; exact h4
  · have := h5 b hb
    simp at this; omega
theorem stB_mem {a : Int} {bl : List (List UInt8)} {s : Stp} (h : s ∈ stB a bl) : ∃ (k : Nat) (b : List UInt8), bl[k]? = some b ∧ s = ⟨wr64 (a + (k : Int)), b, false⟩ := by
  obtain ⟨k, hk⟩ := List.getElem?_of_mem h
  simp only [stB, List.getElem?_mapIdx] at hk
  cases hb : bl[k]? with
  | none => simp [hb] at hk
  | some b => simp [hb] at hk; exact ⟨k, b, hb, hk.symm⟩
theorem okL_mem {ws : List Wr} (h : ws.all okW = true) {s : Stp} (hs : s ∈ stL ws) : s.cl = false → 0 ≤ s.p ∧ s.p < 4096 ∧ s.b.length = 2048 := by
  intro hc
  simp only [stL, List.mem_flatMap] at hs
  obtain ⟨x, hx, hs⟩ := hs
  obtain ⟨h1, h2, h3, h4, h5⟩ := okW_spec (List.all_eq_true.1 h x hx)
  rw [stW, List.mem_append] at hs
  rcases hs with hs | hs
  · obtain ⟨k, b, hb, rfl⟩ := stB_mem hs
    have hk := (List.getElem?_eq_some_iff.1 hb).1
    have e : wr64 (x.p + (k : Int)) = x.p + k := wr64_id (by omega) (by omega)
    show 0 ≤ wr64 _ ∧ wr64 _ < 4096 ∧ _
    rw [e]
    exact ⟨by omega, by omega, h5 b (List.mem_of_getElem? hb)⟩
  · split at hs
    · simp at hs; subst hs; cases hc
    · simp at hs
theorem stL_length_le : ∀ (ws : List Wr), (∀ x ∈ ws, x.bl.length ≤ 8192) → (stL ws).length ≤ ws.length * 8193
  | [], _ => by simp [stL]
  | x :: ws, h => by
    have h1 := stL_length_le ws (fun y hy => h y (by simp [hy]))
    have h2 := h x (by simp)
    have h3 : (stW x).length ≤ 8193 := by
      rw [stW, List.length_append, stB_length]; split <;> simp <;> omega
    simp only [stL, List.flatMap_cons, List.length_append, List.length_cons] at h1 ⊢
    omega
theorem valid_spec {im : Img} {ws : List Wr} (h : valid im ws = true) : im.length ≤ 4096 ∧ ws.length ≤ 1024 ∧ im.all okE = true ∧ ws.all okW = true := by
  simp only [valid, Bool.and_eq_true, Bool.not_eq_true', Bool.or_eq_false_iff, decide_eq_false_iff_not] at h
  exact ⟨by omega, by omega, h.2.1, h.2.2⟩
theorem valid_len {im : Img} {ws : List Wr} (h : valid im ws = true) : (stL ws).length ≤ 8390656 := by
  obtain ⟨_, h2, _, h4⟩ := valid_spec h
  have := stL_length_le ws (fun x hx => by have := okW_spec (List.all_eq_true.1 h4 x hx); omega)
  have : ws.length * 8193 ≤ 1024 * 8193 := Nat.mul_le_mul_right _ h2
  omega
end Go.Proofs.Ytfcjianiodiejaa
