/- Chapter 24: walking over areas. My own text. -/
import Derived.Test.YtnbclhbpjlpcoaaMath3
import Derived.Test.YtnbclhbpjlpcoaaXKs
set_option linter.unusedVariables false
set_option linter.unusedSimpArgs false
namespace Go.Proofs.Ytnbclhbpjlpcoaa
open Go.XK Go.RowKit
def isCE (x : En) : Bool := decide (x.g = [67, 69])
def nonCE (l : List En) : List En := l.filter fun x => !isCE x
/-- Where the last entry CE stands. -/
def lastCE : List En → Option Nat
  | [] => none
  | x :: t => match lastCE t with
    | some j => some (j + 1)
    | none => if isCE x = true then some 0 else none
theorem lastCE_snoc (l : List En) (x : En) : lastCE (l ++ [x]) = if isCE x = true then some l.length else lastCE l := by
  induction l with
  | nil => simp [lastCE]
  | cons y t ih =>
    rw [List.cons_append, lastCE, ih]
    by_cases h : isCE x = true
    · simp [h]
    · simp only [h, if_false, lastCE]; rfl
theorem nonCE_snoc (l : List En) (x : En) : nonCE (l ++ [x]) = nonCE l ++ if isCE x = true then [] else [x] := by
  rw [nonCE, List.filter_append]
  cases h : isCE x <;> simp [nonCE, h]
theorem take_snoc {α : Type} {l : List α} {i : Nat} {x : α} (h : l[i]? = some x) : l.take (i + 1) = l.take i ++ [x] := by rw [List.take_add_one, h]; rfl
theorem lastCE_yes {l : List En} {i : Nat} {x : En} (h : l[i]? = some x) (hx : x.g = [67, 69]) : lastCE (l.take (i + 1)) = some i := by
  have hi := (List.getElem?_eq_some_iff.1 h).1
  rw [take_snoc h, lastCE_snoc, if_pos (by simp [isCE, hx]), List.length_take, Nat.min_eq_left (by omega)]
theorem lastCE_no {l : List En} {i : Nat} {x : En} (h : l[i]? = some x) (hx : ¬ x.g = [67, 69]) : lastCE (l.take (i + 1)) = lastCE (l.take i) := by
  rw [take_snoc h, lastCE_snoc, if_neg (by simp [isCE, hx])]
theorem nonCE_yes {l : List En} {i : Nat} {x : En} (h : l[i]? = some x) (hx : x.g = [67, 69]) : nonCE (l.take (i + 1)) = nonCE (l.take i) := by
  rw [take_snoc h, nonCE_snoc, if_pos (by simp [isCE, hx]), List.append_nil]
theorem nonCE_no {l : List En} {i : Nat} {x : En} (h : l[i]? = some x) (hx : ¬ x.g = [67, 69]) : nonCE (l.take (i + 1)) = nonCE (l.take i) ++ [x] := by
  rw [take_snoc h, nonCE_snoc, if_neg (by simp [isCE, hx])]
theorem nonCE_length (l : List En) : (nonCE l).length ≤ l.length := List.length_filter_le _ _
theorem lastCE_lt : ∀ {l : List En} {j : Nat}, lastCE l = some j → j < l.length
  | x :: t, j, h => by
    rw [lastCE] at h
    split at h
    · rename_i k hk
      have := lastCE_lt hk
      cases h; simp; omega
    · split at h
      · cases h; simp
      · cases h
/-- The places that an entry CE tells. -/
def plc (d : List UInt8) (k : Nat) : Int := (rd4 d (8 * (k : Int))).1
def badP (d : List UInt8) : Bool := (decide ((rd4 d 16).2 ≠ 0) || decide ((d.length : Int) ≠ 24)) || !area (plc d 1) (plc d 2)
def cells3 (d : List UInt8) (i : Nat) : List Value := [.int .i64 (if 0 < i then plc d 0 else 0), .int .i64 (if 1 < i then plc d 1 else 0), .int .i64 (if 2 < i then plc d 2 else 0)]
def errP (d : List UInt8) (i : Nat) (e : Int) : Int := if i = 0 then e else (rd4 d (8 * ((i : Int) - 1))).2
theorem plc_pos (d : List UInt8) (k : Nat) : 0 ≤ plc d k := by
  unfold plc rd4; split
  · exact (rdle_bound _).1
  · exact Int.le_refl 0
theorem plc_lt (d : List UInt8) (k : Nat) : plc d k < 4294967296 := by
  unfold plc rd4; split
  · rename_i h
    simp only [Bool.and_eq_true, decide_eq_true_eq] at h
    have h1 := rdle_bound (sub d (8 * (k : Int)) 4)
    rw [sub_length (by omega) (by omega)] at h1
    exact h1.2
  · decide
def nextU (im : List (List UInt8)) (d : List UInt8) : List UInt8 := ((im.getD (plc d 0).toNat []).take (plc d 1 + plc d 2).toNat).drop (plc d 1).toNat
def unr (im : List (List UInt8)) (d : List UInt8) : Bool := decide ((im.length : Int) ≤ plc d 0) || decide (((im.getD (plc d 0).toNat []).length : Int) ≠ 2048)
def linkD (all : List En) (j : Nat) : List UInt8 := (all.getD j ⟨[], 0, []⟩).d
/-- One area: how the walk ends with it, or what is next. -/
def ev (im : List (List UInt8)) (last : Bool) (at_ : Int) (us : List UInt8) : (List (List En × Int) × Int × Int) ⊕ (List En × Int × List UInt8) :=
  match decL us.length us with
  | none => .inl ([], at_, 10)
  | some all => match lastCE all with
    | none => .inl ([(nonCE all, at_)], at_, 0)
    | some j => if badP (linkD all j) = true then .inl ([(nonCE all, at_)], at_, 10) else if last = true then .inl ([(nonCE all, at_)], plc (linkD all j) 0, 13) else if unr im (linkD all j) = true then .inl ([(nonCE all, at_)], plc (linkD all j) 0, 9) else .inr (nonCE all, plc (linkD all j) 0, nextU im (linkD all j))
/-- What is yielded, with the block of it, and how it ends. -/
def wk (im : List (List UInt8)) : Nat → Int → List UInt8 → List (List En × Int) × Int × Int
  | 0, at_, us => match ev im true at_ us with
    | .inl r => r
    | .inr _ => ([], 0, 0)
  | k + 1, at_, us => match ev im false at_ us with
    | .inl r => r
    | .inr (z, a, u) => ((z, at_) :: (wk im k a u).1, (wk im k a u).2)
theorem wk_inl {im : List (List UInt8)} {k : Nat} {at_ : Int} {us : List UInt8} {r : List (List En × Int) × Int × Int} (h : ∀ b, ev im b at_ us = .inl r) : wk im k at_ us = r := by
  cases k with
  | zero => rw [wk, h]
  | succ k => rw [wk, h]
theorem linkD_get {all : List En} {j : Nat} {y : En} (hy : all[j]? = some y) : linkD all j = y.d := by rw [linkD, List.getD_eq_getElem?_getD, hy]; rfl
theorem wk_bad {im : List (List UInt8)} {k : Nat} {at_ : Int} {us : List UInt8} (h : decL us.length us = none) : wk im k at_ us = ([], at_, 10) := wk_inl fun b => by rw [ev, h]
theorem wk_last {im : List (List UInt8)} {k : Nat} {at_ : Int} {us : List UInt8} {all : List En} (h : decL us.length us = some all) (hl : lastCE all = none) : wk im k at_ us = ([(nonCE all, at_)], at_, 0) := wk_inl fun b => by rw [ev, h]; simp only [hl]
theorem wk_corrupt {im : List (List UInt8)} {k : Nat} {at_ : Int} {us : List UInt8} {all : List En} {j : Nat} {y : En} (h : decL us.length us = some all) (hl : lastCE all = some j) (hy : all[j]? = some y) (hb : badP y.d = true) : wk im k at_ us = ([(nonCE all, at_)], at_, 10) := wk_inl fun b => by
  rw [ev, h]; simp only [hl, linkD_get hy]; rw [if_pos hb]
theorem wk_loop {im : List (List UInt8)} {at_ : Int} {us : List UInt8} {all : List En} {j : Nat} {y : En} (h : decL us.length us = some all) (hl : lastCE all = some j) (hy : all[j]? = some y) (hb : badP y.d = false) : wk im 0 at_ us = ([(nonCE all, at_)], plc y.d 0, 13) := by
  have he : ev im true at_ us = .inl ([(nonCE all, at_)], plc y.d 0, 13) := by
    rw [ev, h]; simp only [hl, linkD_get hy]; rw [if_neg (by rw [hb]; simp), if_pos (by trivial)]
  rw [wk, he]
theorem wk_unread {im : List (List UInt8)} {k : Nat} {at_ : Int} {us : List UInt8} {all : List En} {j : Nat} {y : En} (h : decL us.length us = some all) (hl : lastCE all = some j) (hy : all[j]? = some y) (hb : badP y.d = false) (hu : unr im y.d = true) : wk im (k + 1) at_ us = ([(nonCE all, at_)], plc y.d 0, 9) := by
  have he : ev im false at_ us = .inl ([(nonCE all, at_)], plc y.d 0, 9) := by
    rw [ev, h]; simp only [hl, linkD_get hy]; rw [if_neg (by rw [hb]; simp), if_neg (by simp), if_pos hu]
  rw [wk, he]
theorem wk_next {im : List (List UInt8)} {k : Nat} {at_ : Int} {us : List UInt8} {all : List En} {j : Nat} {y : En} (h : decL us.length us = some all) (hl : lastCE all = some j) (hy : all[j]? = some y) (hb : badP y.d = false) (hu : unr im y.d = false) : wk im (k + 1) at_ us = ((nonCE all, at_) :: (wk im k (plc y.d 0) (nextU im y.d)).1, (wk im k (plc y.d 0) (nextU im y.d)).2) := by
  have he : ev im false at_ us = .inr (nonCE all, plc y.d 0, nextU im y.d) := by
    rw [ev, h]; simp only [hl, linkD_get hy]; rw [if_neg (by rw [hb]; simp), if_neg (by simp), if_neg (by rw [hu]; simp)]
  rw [wk, he]
/-! ### What is yielded, in the calculus -/
structure Yl where
  l : List En
  A : Option Addr
  c : Nat
  v : Value
  all : List En
  b0 : Nat
def encY (x : Yl) : List Value := [.slice x.A x.l.length x.c]
/-- The called function's own steps: the walk's state, the field's string. -/
def StW (bw b1 : Nat) (A B : World) : Prop := (∃ cs cs', Blk A bw 89 cs ∧ Blk B bw 89 cs' ∧ Mut A B bw) ∨ (∃ cs cs', Blk A b1 9 cs ∧ Blk B b1 9 cs' ∧ Mut A B b1)
theorem StW.kb {bw b1 : Nat} {A B : World} (h : StW bw b1 A B) : KB A B := by
  rcases h with ⟨_, _, h1, _, h2⟩ | ⟨_, _, h1, _, h2⟩ <;> exact KB.ofMut h2 h1
def KpW (B0 : Nat) (x : Yl) (W W' : World) : Prop := KpT [9, 87, 56, 89] B0 W W' ∧ (Go.XK.Own W x.b0 41 3 encE x.v x.all → Go.XK.Own W' x.b0 41 3 encE x.v x.all)
theorem KpW.tr {B0 : Nat} {x : Yl} {A B C : World} (h : KpW B0 x A B) (k : KpW B0 x B C) : KpW B0 x A C := ⟨h.1.tr k.1, fun o => k.2 (h.2 o)⟩
theorem KpW.put {B0 : Nat} (x : Yl) {B1 : Nat} (hB : B0 ≤ B1) (W : World) (k : Nat) (o o' : Obj) (hk : B1 ≤ k) (hh : W.heap[k]? = some o) (hc : o.isCells = false) : KpW B0 x W (W.putObj k o') :=
  ⟨KpT.put hB W k o o' hk hh hc, fun ho => Go.XK.Own.mut ho (mut_put W k o') (own_ne_of ho hh hc)⟩
/-- All cells lie as they lay. -/
def KC (W W' : World) : Prop := ∀ (k : Nat) (t : TypeId) (cs : List Value), Blk W k t cs → Blk W' k t cs
theorem KC.ofExt {W W' : World} (h : Ext W W') : KC W W' := fun _ _ _ hb => Blk.ext hb h
/-- Of the k-th element that is yielded. -/
def YW (im : List (List UInt8)) (us0 : List UInt8) (bw : Nat) (W0 : World) (pre : List Yl) (x : Yl) (W : World) : Prop :=
  Go.XK.Own W x.b0 41 3 encE (.slice x.A x.l.length x.c) x.l ∧ Go.XK.Own W x.b0 41 3 encE x.v x.all ∧ W0.heap.size ≤ x.b0 ∧ KC W0 W ∧ ∃ at_, (wk im 64 0 us0).1[pre.length]? = some (x.l, at_) ∧ Blk W bw 89 [.int .i64 at_, .int .i64 0]
def SW (im : List (List UInt8)) (us0 : List UInt8) (bw : Nat) (xs : List Yl) (W : World) : Prop :=
  xs.map (·.l) = (wk im 64 0 us0).1.map (·.1) ∧ Blk W bw 89 [.int .i64 (wk im 64 0 us0).2.1, .int .i64 (wk im 64 0 us0).2.2]
def SpW (im : List (List UInt8)) (us0 : List UInt8) (pre : List Yl) : Prop := pre.map (·.l) = ((wk im 64 0 us0).1.take pre.length).map (·.1) ∧ pre.length ≤ (wk im 64 0 us0).1.length
/-- Behind the first yields. -/
def AtW (im : List (List UInt8)) (us0 : List UInt8) (pre : List Yl) (k : Nat) (at_ : Int) (us : List UInt8) : Prop :=
  ∃ ys, ys.map (·.1) = pre.map (·.l) ∧ wk im 64 0 us0 = (ys ++ (wk im (64 - k) at_ us).1, (wk im (64 - k) at_ us).2) ∧ pre.length = k
theorem AtW.start (im : List (List UInt8)) (us0 : List UInt8) : AtW im us0 [] 0 0 us0 := ⟨[], rfl, rfl, rfl⟩
theorem AtW.get {im : List (List UInt8)} {us0 us : List UInt8} {pre : List Yl} {k : Nat} {at_ : Int} {z : List En × Int} {r : List (List En × Int)} {e : Int × Int} (h : AtW im us0 pre k at_ us) (hw : wk im (64 - k) at_ us = (z :: r, e)) : (wk im 64 0 us0).1[pre.length]? = some z := by
  obtain ⟨ys, h1, h2, h3⟩ := h
  have hl : ys.length = pre.length := by have := congrArg List.length h1; simpa using this
  rw [h2, hw, List.getElem?_append_right (by omega), hl, Nat.sub_self]; rfl
theorem AtW.sp {im : List (List UInt8)} {us0 us : List UInt8} {pre : List Yl} {k : Nat} {at_ : Int} {z : List En × Int} {r : List (List En × Int)} {e : Int × Int} {x : Yl} (h : AtW im us0 pre k at_ us) (hw : wk im (64 - k) at_ us = (z :: r, e)) (hx : x.l = z.1) : SpW im us0 (pre ++ [x]) := by
  obtain ⟨ys, h1, h2, h3⟩ := h
  have hl : ys.length = pre.length := by have := congrArg List.length h1; simpa using this
  refine ⟨?_, by rw [h2, hw]; simp; omega⟩
  rw [h2, hw, List.length_append, List.length_singleton, ← hl, List.map_append, List.map_take, List.map_append]
  rw [List.take_append, List.take_of_length_le (by simp)]
  simp [h1, hx, hl]
theorem AtW.fin {im : List (List UInt8)} {us0 us : List UInt8} {pre : List Yl} {k : Nat} {at_ a2 e2 : Int} {z : List En × Int} {x : Yl} {bw : Nat} {W : World} (h : AtW im us0 pre k at_ us) (hw : wk im (64 - k) at_ us = ([z], a2, e2)) (hx : x.l = z.1) (hb : Blk W bw 89 [.int .i64 a2, .int .i64 e2]) : SW im us0 bw (pre ++ [x]) W := by
  obtain ⟨ys, h1, h2, h3⟩ := h
  refine ⟨by rw [h2, hw]; simp [h1, hx], by rw [h2, hw]; exact hb⟩
theorem AtW.fin0 {im : List (List UInt8)} {us0 us : List UInt8} {pre : List Yl} {k : Nat} {at_ a2 e2 : Int} {bw : Nat} {W : World} (h : AtW im us0 pre k at_ us) (hw : wk im (64 - k) at_ us = ([], a2, e2)) (hb : Blk W bw 89 [.int .i64 a2, .int .i64 e2]) : SW im us0 bw pre W := by
  obtain ⟨ys, h1, h2, h3⟩ := h
  refine ⟨by rw [h2, hw]; simp [h1], by rw [h2, hw]; exact hb⟩
theorem AtW.next {im : List (List UInt8)} {us0 us us' : List UInt8} {pre : List Yl} {k : Nat} {at_ at' : Int} {z : List En × Int} {x : Yl} (h : AtW im us0 pre k at_ us) (hk : k < 64) (hw : wk im (64 - k) at_ us = (z :: (wk im (64 - (k + 1)) at' us').1, (wk im (64 - (k + 1)) at' us').2)) (hx : x.l = z.1) : AtW im us0 (pre ++ [x]) (k + 1) at' us' := by
  obtain ⟨ys, h1, h2, h3⟩ := h
  refine ⟨ys ++ [z], by simp [h1, hx], ?_, by simp; omega⟩
  rw [h2, hw]; simp
/-- What Walk returns. -/
def walkN : List (List En × Int) → Int → Int → List En → List En × Int × Int
  | [], a, e, out => if e ≠ 0 then ([], a, e) else (out, 0, 0)
  | z :: r, a, e, out => if (1024 : Int) < ((out ++ z.1).length : Int) then ([], z.2, 7) else walkN r a e (out ++ z.1)
def walkR (im : List (List UInt8)) (use : List UInt8) (skip : Int) : List En × Int × Int :=
  let w := wk im 64 0 (use.drop (min use.length (max 0 skip).toNat))
  walkN w.1 w.2.1 w.2.2 []
end Go.Proofs.Ytnbclhbpjlpcoaa
