/- Chapter 52: addresses that are reserved and filled. My own text. -/
import Derived.Test.YtfcjianiodiejaaMath9
set_option linter.unusedVariables false
set_option linter.unusedSimpArgs false
namespace Go.Proofs.Ytfcjianiodiejaa
open Go.XK Go.RowKit
/-- The place of a pending address, or -1. -/
def idxP (ps : List Pn) (a : Int) : Int := if ps.any (fun x => decide (x.p = a)) then (ps.findIdx (fun x => decide (x.p = a)) : Int) else -1
theorem idxP_no {ps : List Pn} {a : Int} {i : Nat} (h : (ps.take i).any (fun x => decide (x.p = a)) = false) (hi : ps.length ≤ i) : idxP ps a = -1 := by
  rw [List.take_of_length_le hi] at h
  rw [idxP, h]; rfl
theorem idxP_at {ps : List Pn} {a : Int} {i : Nat} {x : Pn} (hx : ps[i]? = some x) (h : (ps.take i).any (fun x => decide (x.p = a)) = false) (hb : x.p = a) : idxP ps a = i := by
  have hlt := (List.getElem?_eq_some_iff.1 hx).1
  have hxx : ps[i] = x := (List.getElem?_eq_some_iff.1 hx).2
  have ha : ps.any (fun x => decide (x.p = a)) = true := List.any_eq_true.2 ⟨x, List.mem_of_getElem? hx, by simp [hb]⟩
  rw [idxP, ha, if_pos rfl]
  have : ps.findIdx (fun x => decide (x.p = a)) = i := by
    rw [List.findIdx_eq hlt]
    refine ⟨by rw [hxx]; simp [hb], fun j hj => ?_⟩
    rw [List.any_eq_false] at h
    have := h ps[j] (List.mem_iff_getElem?.2 ⟨j, by rw [List.getElem?_take, if_pos hj]; exact List.getElem?_eq_getElem _⟩)
    simpa using this
  rw [this]
theorem idxP_take {ps : List Pn} {a : Int} {i : Nat} {x : Pn} (hx : ps[i]? = some x) (h : (ps.take i).any (fun x => decide (x.p = a)) = false) (hb : ¬ x.p = a) : (ps.take (i + 1)).any (fun x => decide (x.p = a)) = false := by
  rw [List.take_add_one, hx, List.any_append, h]; simp [hb]
theorem idxP_ge (ps : List Pn) (a : Int) : -1 ≤ idxP ps a := by
  rw [idxP]; split <;> omega
theorem idxP_get {ps : List Pn} {a : Int} (h : ¬ idxP ps a < 0) : ∃ x, ps[(idxP ps a).toNat]? = some x ∧ x.p = a ∧ (idxP ps a).toNat < ps.length := by
  rw [idxP] at h ⊢
  split at h
  · rename_i h1
    rw [if_pos h1]
    have hlt : ps.findIdx (fun x => decide (x.p = a)) < ps.length := List.findIdx_lt_length_of_exists (by simpa using h1)
    rw [show ((ps.findIdx (fun x => decide (x.p = a)) : Nat) : Int).toNat = ps.findIdx (fun x => decide (x.p = a)) from by omega]
    refine ⟨_, List.getElem?_eq_getElem hlt, ?_, hlt⟩
    have := List.findIdx_getElem (w := hlt)
    simpa using this
  · exact absurd (by decide) h
/-- What Fill answers. -/
def fillE (a : Int) (b : List UInt8) (ps : List Pn) : Int := if ((b.length : Int) ≠ 2048) then 1 else if idxP ps a < 0 then 6 else if ((ps[(idxP ps a).toNat]?.map (·.b)).getD [] ≠ []) then 5 else 0
def fillP (a : Int) (b : List UInt8) (ps : List Pn) : List Pn := if fillE a b ps = 0 then ps.set (idxP ps a).toNat ⟨a, b⟩ else ps
def rsR (n : Nat) (start base : Int) (ps : List Pn) : Int × List Int × List Pn := match asgR start base ps n with
  | none => (12, [], ps)
  | some l => (0, l, ps ++ l.map fun a => ⟨a, []⟩)
def rsZ (z : Int) (start base : Int) (ps : List Pn) : Int × List Int × List Pn := if (decide (z < 0) || decide (1024 < z)) = true then (2, [], ps) else rsR z.toNat start base ps
theorem rsZ_out {z start base : Int} {ps : List Pn} (h : (decide (z < 0) || decide (1024 < z)) = true) : rsZ z start base ps = (2, [], ps) := by rw [rsZ, if_pos h]
theorem rsZ_none {z start base : Int} {ps : List Pn} {m : Nat} (h : (decide (z < 0) || decide (1024 < z)) = false) (hm : z = m) (h2 : asgR start base ps m = none) : rsZ z start base ps = (12, [], ps) := by
  rw [rsZ, if_neg (by simp [h]), rsR, hm, Int.toNat_natCast, h2]
theorem rsZ_some {z start base : Int} {ps : List Pn} {m : Nat} {l : List Int} (h : (decide (z < 0) || decide (1024 < z)) = false) (hm : z = m) (h2 : asgR start base ps m = some l) : rsZ z start base ps = (0, l, ps ++ l.map fun a => ⟨a, []⟩) := by
  rw [rsZ, if_neg (by simp [h]), rsR, hm, Int.toNat_natCast, h2]
theorem map_take_next {α β : Type} {l : List α} {i : Nat} {x : α} (f : α → β) (hx : l[i]? = some x) : (l.take (i + 1)).map f = (l.take i).map f ++ [f x] := by
  rw [List.take_add_one, hx]; simp
theorem fill_len {a : Int} {b : List UInt8} {ps : List Pn} (h : (b.length : Int) ≠ 2048) : fillE a b ps = 1 := by rw [fillE, if_pos h]
theorem fill_none {a : Int} {b : List UInt8} {ps : List Pn} (h : ¬ (b.length : Int) ≠ 2048) (h2 : idxP ps a < 0) : fillE a b ps = 6 := by rw [fillE, if_neg h, if_pos h2]
theorem fill_full {a : Int} {b : List UInt8} {ps : List Pn} {x : Pn} (h : ¬ (b.length : Int) ≠ 2048) (h2 : ¬ idxP ps a < 0) (hx : ps[(idxP ps a).toNat]? = some x) (h3 : x.b ≠ []) : fillE a b ps = 5 := by
  rw [fillE, if_neg h, if_neg h2, hx, if_pos (show (Option.map (fun x : Pn => x.b) (some x)).getD [] ≠ [] from h3)]
theorem fill_ok {a : Int} {b : List UInt8} {ps : List Pn} {x : Pn} (h : ¬ (b.length : Int) ≠ 2048) (h2 : ¬ idxP ps a < 0) (hx : ps[(idxP ps a).toNat]? = some x) (h3 : ¬ x.b ≠ []) : fillE a b ps = 0 := by
  rw [fillE, if_neg h, if_neg h2, hx, if_neg (show ¬ (Option.map (fun x : Pn => x.b) (some x)).getD [] ≠ [] from h3)]
theorem fillP_ok {a : Int} {b : List UInt8} {ps : List Pn} (h : fillE a b ps = 0) : fillP a b ps = ps.set (idxP ps a).toNat ⟨a, b⟩ := by rw [fillP, if_pos h]
theorem fillP_no {a : Int} {b : List UInt8} {ps : List Pn} {e : Int} (h : fillE a b ps = e) (he : e ≠ 0) : fillP a b ps = ps := by rw [fillP, if_neg (by rw [h]; exact he)]
end Go.Proofs.Ytfcjianiodiejaa
