/- The calculus of the walks, part 4: the world: what stays, boxes, slices that are read, rows of one's own. My own text. -/
import Derived.Test.YtnbclhbpjlpcoaaXKc
import Derived.Shelf.SlicesQ.Load
import Derived.Maps.AppendAt
import Derived.Laws.CopyRow
import Derived.Laws.IdiomCopy
import Derived.Deep.OwnRows
set_option linter.unusedVariables false
set_option linter.unusedSimpArgs false
namespace Go.XK
open Go.RowKit

/-- All that lay in w lies unturned in w'. -/
abbrev Ext (w w' : World) : Prop := Below w.heap.size w w'
theorem Ext.rfl' (w : World) : Ext w w := Below.refl _ _
theorem Ext.tr {a b c : World} (h : Ext a b) (k : Ext b c) : Ext a c := Below.trans h (k.mono h.size)
theorem Ext.alloc (w : World) (o : Obj) : Ext w (w.alloc o) := (Below.refl _ _).alloc (Nat.le_refl _) o
theorem Ext.blk {w w' : World} (h : Ext w w') {b : Nat} {o : Obj} (hb : w.heap[b]? = some o) : w'.heap[b]? = some o := by
  rw [h.block b (Array.getElem?_eq_some_iff.1 hb).1]; exact hb
theorem Ext.cell {w w' : World} (h : Ext w w') {a : Addr} {v : Value} (hc : w.cell? a = some v) : w'.cell? a = some v :=
  (Below.cell h (World.block_lt_of_cell? w a hc)).trans hc
theorem below_tr {B : Nat} {a b c : World} (h : Below B a b) (hB : B ≤ b.heap.size) (k : Ext b c) : Below B a c := h.trans (k.mono hB)
theorem ext_of_heap {w w1 : World} (hh : w1.heap = w.heap) (hb : Below w.heap.size w w1) : Ext w1 w := ⟨hb.os.symm, hb.tape.symm, hb.output.symm, by rw [hh]; exact Nat.le_refl _, fun k _ => by rw [hh]⟩

/-- One block has been written, new ones laid. -/
abbrev Mut (w w' : World) (b : Nat) : Prop := w.grownBy w' (some b)
theorem Mut.blk {w w' : World} {b c : Nat} {o : Obj} (h : Mut w w' b) (hc : w.heap[c]? = some o) (hne : c ≠ b) : w'.heap[c]? = some o := by
  rw [h.block c (Array.getElem?_eq_some_iff.1 hc).1 (by simpa using hne)]; exact hc
theorem Mut.cell {w w' : World} {b : Nat} {a : Addr} {v : Value} (h : Mut w w' b) (hc : w.cell? a = some v) (hne : a.block ≠ b) : w'.cell? a = some v :=
  World.grownBy.cell h hc (by simpa using hne)
theorem Mut.below {w0 w w' : World} {b B : Nat} (h : Mut w w' b) (h0 : Below B w0 w) (hB : B ≤ w.heap.size) (hb : B ≤ b) : Below B w0 w' := h0.grown h hB (fun k e => by cases e; exact hb)
theorem Mut.set (w : World) (a : Addr) (v : Value) : Mut w (w.setCell a v) a.block := ⟨rfl, rfl, rfl, by simp [World.setCell], fun k hk hne => Below.heap_setCell _ _ _ _ (by simpa using hne)⟩
theorem Mut.ofExt {w w' : World} (h : Ext w w') (b : Nat) : Mut w w' b := ⟨h.os, h.tape, h.output, h.size, fun k hk _ => h.block k hk⟩
theorem Mut.tr {a b c : World} {g : Nat} (h : Mut a b g) (k : Mut b c g) : Mut a c g := World.grownBy.trans h k

/-! ### A variable in a block of its own -/
def Box (w : World) (b : Nat) (t : TypeId) (v : Value) : Prop := w.heap[b]? = some (.cells #[v] t (0, 0))
theorem Box.cell {w : World} {b : Nat} {t : TypeId} {v : Value} (h : Box w b t v) : w.cell? ⟨b, 0, none⟩ = some v := by simp [World.cell?, show w.heap[b]? = _ from h]
theorem Box.free {w : World} {b : Nat} {t : TypeId} {v : Value} (h : Box w b t v) : w.frozen? ⟨b, 0, none⟩ = false := by simp [World.frozen?, show w.heap[b]? = _ from h]
theorem Box.new (w : World) (t : TypeId) (v : Value) : Box (w.alloc (.cells #[v] t)) w.heap.size t v := World.alloc_heap_new w _
theorem Box.ext {w w' : World} {b : Nat} {t : TypeId} {v : Value} (h : Box w b t v) (he : Ext w w') : Box w' b t v := he.blk h
theorem Box.mut {w w' : World} {b c : Nat} {t : TypeId} {v : Value} (h : Box w b t v) (he : Mut w w' c) (hne : b ≠ c) : Box w' b t v := he.blk h hne
theorem Box.lt {w : World} {b : Nat} {t : TypeId} {v : Value} (h : Box w b t v) : b < w.heap.size := (Array.getElem?_eq_some_iff.1 h).1
theorem Box.set {w : World} {b : Nat} {t : TypeId} {v : Value} (h : Box w b t v) (u : Value) : Box (w.setCell ⟨b, 0, none⟩ u) b t u := by
  unfold Box at *
  simp only [World.setCell, Array.getElem?_modify, if_true, h]
  simp
section
variable {P : Program} {w : World} {t : TypeId} {ad : Addr} {v u : Value}
theorem load1 (hagg : ∀ w, (isAgg t).run P w = .ok false w) (hc : w.cell? ad = some v) : (loadVar t ad).run P w = .ok v w := by
  simp only [loadVar, Sem.run_bind, hagg, Result.andThen_ok, Bool.false_eq_true, if_false]
  simp [load, Sem.run, hc]
theorem loadA {cs : List Value} {k : Nat} (hagg : ∀ w, (isAgg t).run P w = .ok true w) (hsz : ∀ w, (sizeOf t).run P w = .ok k w) (hk : cs.length = k) (hc : ∀ j v, cs[j]? = some v → w.cell? (ad.add j) = some v) : (loadVar t ad).run P w = .ok (.agg cs.toArray) w := by
  simp only [loadVar, Sem.run_bind, hagg, Result.andThen_ok, if_true, hsz, loadCells, Go.Proofs.run_loadCellsFrom_list P w ad cs k hk hc, Sem.run_pure]
theorem store1 (hsz : ∀ w, (sizeOf t).run P w = .ok 1 w) (h1 : v.cells = #[v]) (ho : v.oneCell' = true) (hc : w.cell? ad = some u) (hf : w.frozen? ad = false) : (storeVar t ad v).run P w = .ok () (w.setCell ad v) := by
  have hadd : ad.add 0 = ad := by simp [Addr.add]
  simp only [storeVar, Sem.run_bind, hsz, Result.andThen_ok, h1]
  simp only [show (#[v] : Array Value).size = 1 from rfl, ne_eq, not_true_eq_false, if_false, show (#[v] : Array Value).toList = [v] from rfl, storeCells, hadd, Sem.run_bind]
  have : (store ad v).run P w = .ok () (w.setCell ad v) := by
    cases v <;> first | (simp [Value.oneCell'] at ho; done) | simp [store, Sem.run, hc, hf]
  rw [this]
  simp [storeCells]
theorem Box.load (hagg : ∀ w, (isAgg t).run P w = .ok false w) {b : Nat} {t' : TypeId} (h : Box w b t' v) : (loadVar t ⟨b, 0, none⟩).run P w = .ok v w := load1 hagg h.cell
theorem Box.store (hsz : ∀ w, (sizeOf t).run P w = .ok 1 w) (h1 : v.cells = #[v]) (ho : v.oneCell' = true) {b : Nat} {t' : TypeId} (h : Box w b t' u) : (storeVar t ⟨b, 0, none⟩ v).run P w = .ok () (w.setCell ⟨b, 0, none⟩ v) := store1 hsz h1 ho h.cell h.free
end

/-! ### A block of several cells -/
def Blk (w : World) (b : Nat) (t : TypeId) (cs : List Value) : Prop := w.heap[b]? = some (.cells cs.toArray t (0, 0))
theorem Blk.cell {w : World} {b : Nat} {t : TypeId} {cs : List Value} (h : Blk w b t cs) {j : Nat} {v : Value} (hj : cs[j]? = some v) : w.cell? ⟨b, j, none⟩ = some v := by simp [World.cell?, show w.heap[b]? = _ from h, hj]
theorem Blk.free {w : World} {b : Nat} {t : TypeId} {cs : List Value} (h : Blk w b t cs) (j : Nat) : w.frozen? ⟨b, j, none⟩ = false := by simp [World.frozen?, show w.heap[b]? = _ from h]
theorem Blk.new (w : World) (t : TypeId) (cs : List Value) : Blk (w.alloc (.cells cs.toArray t)) w.heap.size t cs := World.alloc_heap_new w _
theorem Blk.ext {w w' : World} {b : Nat} {t : TypeId} {cs : List Value} (h : Blk w b t cs) (he : Ext w w') : Blk w' b t cs := he.blk h
theorem Blk.mut {w w' : World} {b c : Nat} {t : TypeId} {cs : List Value} (h : Blk w b t cs) (he : Mut w w' c) (hne : b ≠ c) : Blk w' b t cs := he.blk h hne
theorem Blk.lt {w : World} {b : Nat} {t : TypeId} {cs : List Value} (h : Blk w b t cs) : b < w.heap.size := (Array.getElem?_eq_some_iff.1 h).1
theorem Blk.set {w : World} {b : Nat} {t : TypeId} {cs : List Value} (h : Blk w b t cs) (j : Nat) (u : Value) : Blk (w.setCell ⟨b, j, none⟩ u) b t (cs.set j u) := by
  unfold Blk at *
  simp only [World.setCell, Array.getElem?_modify, if_true, h]
  simp
theorem add0 (b o j : Nat) : (⟨b, o, none⟩ : Addr).add j = ⟨b, o + j, none⟩ := by unfold Addr.add; split <;> simp_all
theorem Blk.loadA {P : Program} {w : World} {b : Nat} {t t' : TypeId} {cs : List Value} {k : Nat} (hagg : ∀ w, (isAgg t).run P w = .ok true w) (hsz : ∀ w, (sizeOf t).run P w = .ok k w) (hk : cs.length = k) (h : Blk w b t' cs) : (loadVar t ⟨b, 0, none⟩).run P w = .ok (.agg cs.toArray) w :=
  XK.loadA hagg hsz hk fun j v hj => by rw [add0, Nat.zero_add]; exact h.cell hj
theorem addadd (a : Addr) (i j : Nat) : (a.add i).add j = a.add (i + j) := by
  unfold Addr.add
  by_cases hi : i = 0 <;> by_cases hj : j = 0 <;> simp [hi, hj, Nat.add_assoc]

/-! ### A slice that is read: its elements' cells by a plain encoding -/
def Rd {α : Type} (w : World) (A : Option Addr) (k : Nat) (enc : α → List Value) (xs : List α) : Prop :=
  xs = [] ∨ ∃ ad, A = some ad ∧ ∀ j x, xs[j]? = some x → ∀ i v, (enc x)[i]? = some v → w.cell? (ad.add (j * k + i)) = some v
theorem Rd.ext {α : Type} {w w' : World} {A : Option Addr} {k : Nat} {enc : α → List Value} {xs : List α} (h : Rd w A k enc xs) (he : Ext w w') : Rd w' A k enc xs := by
  rcases h with h | ⟨ad, hA, h⟩
  · exact .inl h
  · exact .inr ⟨ad, hA, fun j x hj i v hv => he.cell (h j x hj i v hv)⟩
theorem Rd.at_ {α : Type} {w : World} {A : Option Addr} {k : Nat} {enc : α → List Value} {xs : List α} (h : Rd w A k enc xs) {j : Nat} {x : α} (hj : xs[j]? = some x) : ∃ ad, A = some ad ∧ ∀ i v, (enc x)[i]? = some v → w.cell? (ad.add (j * k + i)) = some v := by
  rcases h with h | ⟨ad, hA, h⟩
  · subst h; simp at hj
  · exact ⟨ad, hA, h j x hj⟩
theorem Rd.some_ {α : Type} {w : World} {A : Option Addr} {k : Nat} {enc : α → List Value} {xs : List α} (h : Rd w A k enc xs) (hne : xs ≠ []) : ∃ ad, A = some ad ∧ ∀ j x, xs[j]? = some x → ∀ i v, (enc x)[i]? = some v → w.cell? (ad.add (j * k + i)) = some v := by
  rcases h with h | h
  · exact absurd h hne
  · exact h
theorem Rd.nil {α : Type} (w : World) (A : Option Addr) (k : Nat) (enc : α → List Value) : Rd w A k enc ([] : List α) := .inl rfl
/-- xs[lo:hi] -/
theorem Rd.slice {α : Type} {w : World} {A : Option Addr} {k : Nat} {enc : α → List Value} {xs : List α} (h : Rd w A k enc xs) {cap lo hi : Nat} (hc : xs.length ≤ cap) (h2 : hi ≤ xs.length) :
    Rd w (if cap = lo then A else A.map (·.add (lo * k))) k enc ((xs.take hi).drop lo) := by
  rcases h with h | ⟨ad, hA, h⟩
  · subst h; left; simp
  · subst hA
    by_cases hl : hi ≤ lo
    · left
      apply List.drop_eq_nil_of_le
      simp; omega
    · rw [if_neg (by omega)]
      refine .inr ⟨_, rfl, fun j x hj i v hv => ?_⟩
      rw [addadd]
      have hj' : xs[lo + j]? = some x := by
        rw [List.getElem?_drop, List.getElem?_take] at hj
        split at hj
        · exact hj
        · cases hj
      rw [show lo * k + (j * k + i) = (lo + j) * k + i from by rw [Nat.add_mul]; omega]
      exact h (lo + j) x hj' i v hv

/-! ### A row of one's own -/
def Own {α : Type} (w : World) (base : Nat) (e : TypeId) (k : Nat) (enc : α → List Value) (v : Value) (xs : List α) : Prop := w.ownsRow base e k v xs.length (xs.flatMap enc)
theorem Own.nil {α : Type} (w : World) (base : Nat) (e : TypeId) (k : Nat) (enc : α → List Value) : Own w base e k enc (.slice none 0 0) ([] : List α) := World.ownsRow_nil w base e k
theorem flat_get {α : Type} {enc : α → List Value} {k : Nat} (hk : ∀ x, (enc x).length = k) : ∀ (xs : List α) (j i : Nat) (x : α) (v : Value), xs[j]? = some x → (enc x)[i]? = some v → (xs.flatMap enc)[j * k + i]? = some v
  | [], _, _, _, _, h, _ => by simp at h
  | y :: ys, 0, i, x, v, h, hv => by
    simp at h; subst h
    have hlt : i < (enc y).length := by
      rcases Nat.lt_or_ge i (enc y).length with h' | h'
      · exact h'
      · rw [List.getElem?_eq_none h'] at hv; cases hv
    rw [List.flatMap_cons, Nat.zero_mul, Nat.zero_add, List.getElem?_append_left hlt]; exact hv
  | y :: ys, j + 1, i, x, v, h, hv => by
    rw [List.flatMap_cons, List.getElem?_append_right (by rw [hk, Nat.add_mul]; omega), hk, show (j + 1) * k + i - k = j * k + i from by rw [Nat.add_mul]; omega]
    exact flat_get hk ys j i x v (by simpa using h) hv
theorem Own.shape {α : Type} {w : World} {base : Nat} {e : TypeId} {k : Nat} {enc : α → List Value} {v : Value} {xs : List α} (h : Own w base e k enc v xs) (hk : ∀ x, (enc x).length = k) : ∃ A c, v = .slice A xs.length c ∧ xs.length ≤ c ∧ c ≤ maxLen ∧ Rd w A k enc xs := by
  rcases h.2 with ⟨rfl, h0⟩ | ⟨g, cap, cur, rfl, hb, hh, h1, h2, h3, h4⟩
  · have : xs = [] := List.eq_nil_of_length_eq_zero h0
    subst this
    exact ⟨none, 0, rfl, Nat.le_refl _, Nat.zero_le _, .inl rfl⟩
  · refine ⟨_, cap, rfl, h1, h2, .inr ⟨_, rfl, fun j x hj i v hv => ?_⟩⟩
    exact World.ownsRow.cells h rfl _ _ (flat_get hk xs j i x v hj hv)
theorem Own.ext {α : Type} {w w' : World} {base : Nat} {e : TypeId} {k : Nat} {enc : α → List Value} {v : Value} {xs : List α} (h : Own w base e k enc v xs) (he : Ext w w') : Own w' base e k enc v xs :=
  World.ownsRow.kept h ⟨he.os, he.tape, he.output, he.size, fun k hk _ => he.block k hk⟩ (row := none) (by cases v.ownBlock <;> simp)
theorem Own.mut {α : Type} {w w' : World} {base b : Nat} {e : TypeId} {k : Nat} {enc : α → List Value} {v : Value} {xs : List α} (h : Own w base e k enc v xs) (he : Mut w w' b) (hne : v.ownBlock ≠ some b) : Own w' base e k enc v xs :=
  World.ownsRow.kept h he (.inr hne)
theorem Own.low {α : Type} {w : World} {base base' : Nat} {e : TypeId} {k : Nat} {enc : α → List Value} {v : Value} {xs : List α} (h : Own w base e k enc v xs) (hb : base' ≤ base) : Own w base' e k enc v xs := by
  refine ⟨h.1, ?_⟩
  rcases h.2 with h2 | ⟨g, cap, cur, hv, hg, r⟩
  · exact .inl h2
  · exact .inr ⟨g, cap, cur, hv, Nat.le_trans hb hg, r⟩
theorem Own.lt {α : Type} {w : World} {base : Nat} {e : TypeId} {k : Nat} {enc : α → List Value} {v : Value} {xs : List α} (h : Own w base e k enc v xs) : ∀ g, v.ownBlock = some g → base ≤ g ∧ g < w.heap.size := World.ownsRow.lt h
/-- A row of one's own lies in no block of another element type. -/
theorem Own.ne {α : Type} {w : World} {base b : Nat} {e t : TypeId} {k : Nat} {enc : α → List Value} {v : Value} {xs : List α} {cs : Array Value} {fz : Nat × Nat} (h : Own w base e k enc v xs) (hb : w.heap[b]? = some (.cells cs t fz)) (hne : e ≠ t) : v.ownBlock ≠ some b := by
  intro hv
  rcases h.2 with ⟨rfl, _⟩ | ⟨g, cap, cur, rfl, _, hh, _⟩
  · simp [Value.ownBlock] at hv
  · have : g = b := by simpa [Value.ownBlock] using hv
    subst this
    rw [hh] at hb
    injection hb with hb
    injection hb with _ ht _
    exact hne ht
/-- append(v, x..) where the new elements lie at A. -/
theorem Own.append {α : Type} {P : Program} {w : World} {base : Nat} {t ty e : TypeId} {z : Value} {k bytes m c : Nat} {enc : α → List Value} {v : Value} {xs ys : List α} {A : Addr}
    (ht : P.underlying t = some (.slice e)) (hi : (P.info? e).map (fun i => (i.zero, i.size, i.bytes)) = some (some z, k, bytes)) (hz : z.cells.size = k) (hk0 : 0 < k) (hk : ∀ x, (enc x).length = k) (h1 : ∀ x, ∀ u ∈ enc x, u.oneCell' = true)
    (h : Own w base e k enc v xs) (hm : ys.length = m) (hy : ∀ j u, (ys.flatMap enc)[j]? = some u → w.cell? (A.add j) = some u) (hbase : base ≤ w.heap.size) (hlen : xs.length + m ≤ maxLen) (hbytes : (xs.length + m) * bytes ≤ 140737488355328) :
    ∃ v' w', (Builtin.append_ #[t, t] ty #[v, .slice (some A) m c]).run P w = .ok v' w' ∧ Own w' base e k enc v' (xs ++ ys) ∧ w.grownBy w' v.ownBlock ∧ (v'.ownBlock = v.ownBlock ∨ v'.ownBlock = some w.heap.size) ∧ (v' = .slice none 0 0 ↔ v = .slice none 0 0 ∧ m = 0) := by
  obtain ⟨i0, hi, hzz⟩ := Option.map_eq_some_iff.1 hi
  simp only [Prod.mk.injEq] at hzz
  obtain ⟨hz0, hz1, hz2⟩ := hzz
  have hl : (ys.flatMap enc).length = m * k := by
    rw [← hm]
    clear hm hy hbytes hlen
    induction ys with
    | nil => simp
    | cons y ys ih => rw [List.flatMap_cons, List.length_append, ih, hk, List.length_cons, Nat.add_mul]; omega
  obtain ⟨v', w', hr, ho, hg, hn, hat⟩ := run_append_own_at (P := P) w base t ty e i0 z k bytes ht hi hz0 hz1 hz2 hz hk0 v xs.length (xs.flatMap enc) h A m c (ys.flatMap enc) hl hy
    (fun u hu => by obtain ⟨y, _, hu⟩ := List.mem_flatMap.1 hu; exact h1 y u hu) hlen hbytes hbase
  refine ⟨v', w', hr, ?_, hg, hat, hn⟩
  unfold Own
  rw [List.length_append, List.flatMap_append, hm]
  exact ho
end Go.XK
