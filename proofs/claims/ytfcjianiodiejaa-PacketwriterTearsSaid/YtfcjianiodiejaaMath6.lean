/- Chapter 52: sessions. My own text. -/
import Derived.Test.YtfcjianiodiejaaMath5
set_option linter.unusedVariables false
set_option linter.unusedSimpArgs false
namespace Go.Proofs.Ytfcjianiodiejaa
open Go.XK Go.RowKit
structure Ses where
  s : Int
  n : Int
  cl : Bool
  deriving DecidableEq
def encX (x : Ses) : List Value := [.int .i64 x.s, .int .i64 x.n, .bool x.cl]
theorem one_encX : ∀ (x : Ses), ∀ u ∈ encX x, u.oneCell' = true := fun x u hu => by simp [encX] at hu; rcases hu with rfl | rfl | rfl <;> rfl
theorem take_pre {a b : List Stp} {n : Nat} (h : a <+: b) (hn : n ≤ a.length) : a.take n = b.take n := by
  obtain ⟨r, rfl⟩ := h
  rw [List.take_append_of_le_length hn]
/-- A step that closes. -/
def closeS (st ct : Int) (ss : List Ses) : List Ses := match ss.getLast? with
  | some x => if x.cl = true then ss ++ [⟨st, ct, true⟩] else ss.set (ss.length - 1) ⟨x.s, x.n, true⟩
  | none => ss ++ [⟨st, ct, true⟩]
theorem closeS_last {st ct : Int} {ss : List Ses} {x : Ses} (h : ss[ss.length - 1]? = some x) : closeS st ct ss = if x.cl = true then ss ++ [⟨st, ct, true⟩] else ss.set (ss.length - 1) ⟨x.s, x.n, true⟩ := by
  rw [closeS, List.getLast?_eq_getElem?, h]
theorem closeS_nil {st ct : Int} {ss : List Ses} (h : ss.length = 0) : closeS st ct ss = ss ++ [⟨st, ct, true⟩] := by
  rw [List.eq_nil_of_length_eq_zero h]; rfl
theorem closeS_length (st ct : Int) (ss : List Ses) : (closeS st ct ss).length ≤ ss.length + 1 := by
  unfold closeS
  split
  · split <;> simp
  · simp
def stepX (st ct : Int) (ss : List Ses) (s : Stp) : List Ses := if s.cl = true then closeS st ct ss else ss
def runX (st ct : Int) (L : List Stp) (ss : List Ses) : List Ses := L.foldl (stepX st ct) ss
theorem runX_snoc (st ct : Int) (L : List Stp) (s : Stp) (ss : List Ses) : runX st ct (L ++ [s]) ss = stepX st ct (runX st ct L ss) s := by simp [runX]
theorem runX_length (st ct : Int) : ∀ (L : List Stp) (ss : List Ses), (runX st ct L ss).length ≤ ss.length + L.length
  | [], ss => by simp [runX]
  | s :: L, ss => by
    have h := runX_length st ct L (stepX st ct ss s)
    have h2 : (stepX st ct ss s).length ≤ ss.length + 1 := by
      unfold stepX
      split
      · exact closeS_length _ _ _
      · omega
    show (runX st ct L (stepX st ct ss s)).length ≤ _
    simp only [List.length_cons]; omega
/-- The number of the closing steps among the first n. -/
def clsN (L : List Stp) (n : Nat) : Nat := ((L.take n).filter (·.cl)).length
def iterX (st ct : Int) : Nat → List Ses → List Ses
  | 0, ss => ss
  | k + 1, ss => iterX st ct k (closeS st ct ss)
theorem runX_iter (st ct : Int) : ∀ (L : List Stp) (ss : List Ses), runX st ct L ss = iterX st ct (L.filter (·.cl)).length ss
  | [], ss => rfl
  | s :: L, ss => by
    show runX st ct L (stepX st ct ss s) = _
    rw [runX_iter st ct L, stepX, List.filter_cons]
    cases hc : s.cl <;> simp [hc, iterX]
def exR (im : Img) (ss : List Ses) (st ct : Int) (ws : List Wr) (z : Int) : Img × List Ses × Int :=
  if (cutR im ws z).2 ≠ 0 then ([], [], (cutR im ws z).2)
  else if 16 < (runX st ct ((stL ws).take z.toNat) ss).length then ([], [], 12)
  else ((cutR im ws z).1, runX st ct ((stL ws).take z.toNat) ss, 0)
theorem runX_none {st ct : Int} : ∀ {L : List Stp} {ss : List Ses}, (∀ s ∈ L, s.cl = false) → runX st ct L ss = ss
  | [], ss, _ => rfl
  | s :: L, ss, h => by
    show runX st ct L (stepX st ct ss s) = ss
    rw [stepX, if_neg (by rw [h s (by simp)]; decide)]
    exact runX_none (fun t ht => h t (by simp [ht]))
theorem cut_range {im : Img} {ws : List Wr} {z : Int} (h : (cutR im ws z).2 = 0) : valid im ws = true ∧ 0 ≤ z ∧ z ≤ ((stL ws).length : Int) ∧ cutR im ws z = (cutL (stL ws) z.toNat im, 0) := by
  unfold cutR at h
  split at h
  · cases h
  · split at h
    · cases h
    · rename_i h1 h2
      refine ⟨by simpa using h1, by omega, by omega, ?_⟩
      rw [cutR, if_neg h1, if_neg h2]
theorem okW_cl {ws : List Wr} {i : Nat} {x : Wr} (h : ws.all okW = true) (hx : ws[i]? = some x) (hc : x.cl = true) : x.bl = [] := (okW_spec (List.all_eq_true.1 h x (List.mem_of_getElem? hx))).2.2.2.1 hc
theorem stL_drop {ws : List Wr} {i : Nat} {x : Wr} (hx : ws[i]? = some x) : stL (ws.drop i) = stW x ++ stL (ws.drop (i + 1)) := by
  have hlt := (List.getElem?_eq_some_iff.1 hx).1
  rw [List.drop_eq_getElem_cons hlt, (List.getElem?_eq_some_iff.1 hx).2]
  simp [stL]
theorem cls_zero (L : List Stp) : clsN L 0 = 0 := by simp [clsN]
theorem cls_close {ws : List Wr} {i : Nat} {x : Wr} {m : Int} (hx : ws[i]? = some x) (hc : x.cl = true) (hb : x.bl = []) (hm : 0 < m) : clsN (stL (ws.drop i)) m.toNat = 1 + clsN (stL (ws.drop (i + 1))) (m - 1).toNat := by
  obtain ⟨k, hk⟩ : ∃ k, m.toNat = k + 1 := ⟨m.toNat - 1, by omega⟩
  rw [stL_drop hx, stW, hb, hc, hk, show (m - 1).toNat = k from by omega]
  simp [clsN, stB, Nat.add_comm]
theorem cls_open {ws : List Wr} {i : Nat} {x : Wr} {m : Int} (hx : ws[i]? = some x) (hc : x.cl = false) : clsN (stL (ws.drop i)) m.toNat = clsN (stL (ws.drop (i + 1))) (m - (x.bl.length : Int)).toNat := by
  rw [stL_drop hx, stW, hc]
  simp only [Bool.false_eq_true, if_false, List.append_nil, clsN]
  rw [List.take_append, List.filter_append, stB_length]
  have h : ((stB x.p x.bl).take m.toNat).filter (·.cl) = [] := by
    rw [List.filter_eq_nil_iff]
    intro s hs
    obtain ⟨k, b, _, rfl⟩ := stB_mem (List.mem_of_mem_take hs)
    simp
  rw [h, List.nil_append, show m.toNat - x.bl.length = (m - (x.bl.length : Int)).toNat from by omega]
theorem cls_le (ws : List Wr) (n : Nat) : clsN (stL ws) n ≤ (stL ws).length := by
  unfold clsN
  exact Nat.le_trans (List.length_filter_le _ _) (by simp; omega)
theorem iterX_length (st ct : Int) : ∀ (k : Nat) (ss : List Ses), (iterX st ct k ss).length ≤ ss.length + k
  | 0, ss => Nat.le_refl _
  | k + 1, ss => by
    have h := iterX_length st ct k (closeS st ct ss)
    have h2 := closeS_length st ct ss
    show (iterX st ct k (closeS st ct ss)).length ≤ _
    omega
theorem exR_iter (st ct : Int) (ss : List Ses) (ws : List Wr) (n : Nat) : runX st ct ((stL ws).take n) ss = iterX st ct (clsN (stL ws) n) ss := runX_iter st ct _ ss
theorem int_beq (a b : Int) : (a == b) = decide (a = b) := rfl
theorem ite_and (c d : Bool) (w : World) : (if c = false then Result.ok false w else Result.ok d w) = Result.ok (c && d) w := by cases c <;> rfl
end Go.Proofs.Ytfcjianiodiejaa
