/- Chapter 52: recording, once. My own text. -/
import Derived.Test.YtfcjianiodiejaaC3
set_option linter.unusedVariables false
set_option linter.unusedSimpArgs false
namespace Go.Proofs.Ytfcjianiodiejaa
open Go.XK Go.RowKit
def onceL : List Stp → Img → Bool
  | [], _ => true
  | s :: r, im => if s.cl then onceL r im else if (decide (s.p < (im.length : Int)) && decide (im.getD s.p.toNat [] ≠ [])) = true then false else onceL r (putI im s.p s.b)
def runL (L : List Stp) (im : Img) : Img := L.foldl (fun im s => putS s im) im
theorem runL_snoc (L : List Stp) (s : Stp) (im : Img) : runL (L ++ [s]) im = putS s (runL L im) := by simp [runL]
theorem runL_length : ∀ (L : List Stp) (im : Img), (∀ s ∈ L, s.cl = false → s.p < 4096) → im.length ≤ 4096 → (runL L im).length ≤ 4096
  | [], im, _, h => h
  | s :: r, im, hs, h => runL_length r _ (fun t ht => hs t (by simp [ht])) (putS_length (hs s (by simp)) h)
def onceR (im : Img) (ws : List Wr) : Bool := valid im ws && onceL (stL ws) im
theorem once_close {s : Stp} {rest : List Stp} {im : Img} (h : s.cl = true) : onceL (s :: rest) im = onceL rest im := by rw [onceL, if_pos h]
theorem once_bad {s : Stp} {rest : List Stp} {im : Img} (h : s.cl = false) (h2 : (decide (s.p < (im.length : Int)) && decide (im.getD s.p.toNat [] ≠ [])) = true) : onceL (s :: rest) im = false := by rw [onceL, if_neg (by simp [h]), if_pos h2]
theorem once_ok {s : Stp} {rest : List Stp} {im : Img} (h : s.cl = false) (h2 : (decide (s.p < (im.length : Int)) && decide (im.getD s.p.toNat [] ≠ [])) = false) : onceL (s :: rest) im = onceL rest (putI im s.p s.b) := by rw [onceL, if_neg (by simp [h]), if_neg (by rw [h2]; simp)]
theorem putI_get (im : Img) (p : Int) (b : List UInt8) (j : Nat) : (putI im p b).getD j [] = if j = p.toNat then b else im.getD j [] := by
  rw [List.getD_eq_getElem?_getD, List.getD_eq_getElem?_getD, putI, List.getElem?_set]
  by_cases h : p.toNat = j
  · rw [if_pos h, if_pos h.symm, if_pos (by simp; omega)]; rfl
  · rw [if_neg h, if_neg (fun e => h e.symm), List.getElem?_append]
    split
    · rfl
    · rename_i h2
      rw [List.getElem?_replicate, List.getElem?_eq_none (by omega)]
      split <;> rfl
/-- The flags of the blocks that are not blank. -/
def FL (us : List Bool) (im : Img) : Prop := us.length = 4096 ∧ ∀ j, j < 4096 → us[j]? = some (decide (im.getD j [] ≠ []))
theorem FL.nil : FL (List.replicate 4096 false) [] := ⟨List.length_replicate, fun j hj => by rw [List.getElem?_replicate, if_pos hj]; rfl⟩
theorem FL.take {us : List Bool} {im : Img} {i : Nat} {x : List UInt8} (h : FL us (im.take i)) (hx : im[i]? = some x) (hi : i < 4096) : FL (us.set i (decide (x ≠ []))) (im.take (i + 1)) := by
  refine ⟨by simp [h.1], fun j hj => ?_⟩
  rw [List.getElem?_set]
  by_cases e : i = j
  · subst e
    rw [if_pos rfl, if_pos (by rw [h.1]; exact hi), List.getD_eq_getElem?_getD, List.getElem?_take, if_pos (by omega), hx]; rfl
  · rw [if_neg e, h.2 j hj, List.getD_eq_getElem?_getD, List.getD_eq_getElem?_getD, List.getElem?_take, List.getElem?_take]
    by_cases h2 : j < i
    · rw [if_pos h2, if_pos (by omega)]
    · rw [if_neg h2, if_neg (by omega)]
theorem FL.put {us : List Bool} {im : Img} {p : Int} {b : List UInt8} (h : FL us im) (h0 : 0 ≤ p) (h1 : p < 4096) (hb : b ≠ []) : FL (us.set p.toNat true) (putI im p b) := by
  refine ⟨by simp [h.1], fun j hj => ?_⟩
  rw [List.getElem?_set, putI_get]
  by_cases e : p.toNat = j
  · rw [if_pos e, if_pos (by rw [h.1]; omega), if_pos e.symm]; simp [hb]
  · rw [if_neg e, if_neg (fun x => e x.symm), h.2 j hj]
theorem FL.at_ {us : List Bool} {im : Img} {p : Int} (h : FL us im) (h0 : 0 ≤ p) (h1 : p < 4096) : us[p.toNat]? = some (decide (p < (im.length : Int)) && decide (im.getD p.toNat [] ≠ [])) := by
  rw [h.2 _ (by omega)]
  by_cases hp : p < (im.length : Int)
  · rw [decide_eq_true hp]; simp
  · rw [decide_eq_false hp, List.getD_eq_getElem?_getD, List.getElem?_eq_none (by omega)]; simp
theorem cut_tearB {ws : List Wr} {i k : Nat} {x : Wr} {y : List UInt8} {z : Nat} {im xs : Img} (hx : ws[i]? = some x) (hy : x.bl[k]? = some y) (hp : wr64 (x.p + (k : Int)) = x.p + k) (hc : ∀ rest, cutL (stL (ws.take i) ++ stB x.p (x.bl.take k) ++ rest) z im = cutL rest 0 xs) : cutL (stL ws) z im = putI xs (x.p + k) [33] := by
  obtain ⟨r, hr⟩ := pre_snoc hx hy
  rw [List.append_assoc] at hr
  rw [← hr, hc, List.cons_append, cutL, tear, if_neg (by simp), hp]
theorem cut_putB {ws : List Wr} {i k m : Nat} {x : Wr} {y : List UInt8} {z : Nat} {im xs : Img} (hy : x.bl[k]? = some y) (hp : wr64 (x.p + (k : Int)) = x.p + k) (hc : ∀ rest, cutL (stL (ws.take i) ++ stB x.p (x.bl.take k) ++ rest) z im = cutL rest (m + 1) xs) : ∀ rest, cutL (stL (ws.take i) ++ stB x.p (x.bl.take (k + 1)) ++ rest) z im = cutL rest m (putI xs (x.p + k) y) := fun rest => by
  rw [stB_take hy, ← List.append_assoc, List.append_assoc, hc, List.cons_append, cutL, putS, if_neg (by simp), hp]; rfl
theorem cut_tearC {ws : List Wr} {i : Nat} {x : Wr} {z : Nat} {im xs : Img} (hx : ws[i]? = some x) (hcl : x.cl = true) (hb : x.bl = []) (hc : ∀ rest, cutL (stL (ws.take i) ++ rest) z im = cutL rest 0 xs) : cutL (stL ws) z im = xs := by
  obtain ⟨r, hr⟩ := pre_close hx hcl
  rw [hb, show stB x.p [] = [] from rfl, List.append_nil, List.append_assoc] at hr
  rw [← hr, hc, List.cons_append, cutL, tear, if_pos rfl]
theorem cut_putC {ws : List Wr} {i m : Nat} {x : Wr} {z : Nat} {im xs : Img} (hx : ws[i]? = some x) (hcl : x.cl = true) (hb : x.bl = []) (hc : ∀ rest, cutL (stL (ws.take i) ++ rest) z im = cutL rest (m + 1) xs) : ∀ rest, cutL (stL (ws.take (i + 1)) ++ rest) z im = cutL rest m xs := fun rest => by
  rw [stL_take hx, stW, hb, hcl, List.append_assoc, hc]; simp [stB, cutL, putS]
theorem cut_next {ws : List Wr} {i k m : Nat} {x : Wr} {z : Nat} {im xs : Img} (hx : ws[i]? = some x) (hcl : x.cl = false) (hk : x.bl.length ≤ k) (hc : ∀ rest, cutL (stL (ws.take i) ++ stB x.p (x.bl.take k) ++ rest) z im = cutL rest m xs) : ∀ rest, cutL (stL (ws.take (i + 1)) ++ rest) z im = cutL rest m xs := fun rest => by
  rw [List.take_of_length_le hk] at hc
  rw [stL_take hx, stW, hcl, ← hc]; simp
theorem once_putB {ws : List Wr} {i k : Nat} {x : Wr} {y : List UInt8} {im xs : Img} (hy : x.bl[k]? = some y) (hp : wr64 (x.p + (k : Int)) = x.p + k) (h2 : (decide (x.p + k < (xs.length : Int)) && decide (xs.getD (x.p + k).toNat [] ≠ [])) = false)
    (hc : ∀ rest, onceL (stL (ws.take i) ++ stB x.p (x.bl.take k) ++ rest) im = onceL rest xs) : ∀ rest, onceL (stL (ws.take i) ++ stB x.p (x.bl.take (k + 1)) ++ rest) im = onceL rest (putI xs (x.p + k) y) := fun rest => by
  have h3 : onceL (⟨wr64 (x.p + (k : Int)), y, false⟩ :: rest) xs = onceL rest (putI xs (wr64 (x.p + (k : Int))) y) := once_ok rfl (by show (decide (wr64 (x.p + (k : Int)) < _) && decide (xs.getD (wr64 (x.p + (k : Int))).toNat [] ≠ [])) = false; rw [hp]; exact h2)
  rw [hp] at h3
  rw [stB_take hy, ← List.append_assoc, List.append_assoc, hc, hp]
  exact h3
theorem once_badB {ws : List Wr} {i k : Nat} {x : Wr} {y : List UInt8} {im xs : Img} (hx : ws[i]? = some x) (hy : x.bl[k]? = some y) (hp : wr64 (x.p + (k : Int)) = x.p + k) (h2 : (decide (x.p + k < (xs.length : Int)) && decide (xs.getD (x.p + k).toNat [] ≠ [])) = true)
    (hc : ∀ rest, onceL (stL (ws.take i) ++ stB x.p (x.bl.take k) ++ rest) im = onceL rest xs) : onceL (stL ws) im = false := by
  obtain ⟨r, hr⟩ := pre_snoc hx hy
  rw [List.append_assoc] at hr
  rw [← hr, hc]
  exact once_bad rfl (by show (decide (wr64 (x.p + (k : Int)) < _) && decide (xs.getD (wr64 (x.p + (k : Int))).toNat [] ≠ [])) = true; rw [hp]; exact h2)
theorem once_next {ws : List Wr} {i k : Nat} {x : Wr} {im xs : Img} (hx : ws[i]? = some x) (hk : x.bl.length ≤ k) (hc : ∀ rest, onceL (stL (ws.take i) ++ stB x.p (x.bl.take k) ++ rest) im = onceL rest xs) : ∀ rest, onceL (stL (ws.take (i + 1)) ++ rest) im = onceL rest xs := fun rest => by
  rw [List.take_of_length_le hk] at hc
  rw [stL_take hx, stW]
  cases hcl : x.cl
  · rw [← hc]; simp
  · have := hc (⟨0, [], true⟩ :: rest)
    rw [once_close rfl] at this
    rw [← this]; simp
def encBo (b : Bool) : List Value := [.bool b]
theorem one_encBo : ∀ (x : Bool), ∀ u ∈ encBo x, u.oneCell' = true := fun x u hu => by simp [encBo] at hu; subst hu; rfl
theorem rep_flat {α : Type} (f : α → Value) (enc : α → List Value) (he : ∀ x, enc x = [f x]) (z : α) : ∀ n : Nat, (List.replicate n z).flatMap enc = List.replicate n (f z)
  | 0 => rfl
  | n + 1 => by rw [List.replicate_succ, List.flatMap_cons, rep_flat f enc he z n, he]; rfl
end Go.Proofs.Ytfcjianiodiejaa
