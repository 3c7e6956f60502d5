/- The calculus of the walks, part 8: rows of one's own in use. My own text. -/
import Derived.Test.YtnbclhbpjlpcoaaXKg
set_option linter.unusedVariables false
set_option linter.unusedSimpArgs false
namespace Go.XK
open Go.RowKit
section
variable {r : Option Nat} {P : Program} {n : Nat} {ds : List Deferred} {ops : Array Oper} {q : QQ} {l : Env} {w w' w1 : World} {rest : List Oper} {ty t t1 t2 e : TypeId} {pos : String} {aft : Array Edge} {d : Nat} {u v : Value} {x y : Operand} {k : IntKind} {i j : Int} {b o base kk : Nat} {cs : List Value} {α : Type} {enc : α → List Value} {xs ys : List α}

theorem Blk.grown {g : Option Nat} (h : Blk w b t cs) (hg : w.grownBy w' g) (hne : g ≠ some b) : Blk w' b t cs := by
  unfold Blk at *
  rw [hg.block b (Array.getElem?_eq_some_iff.1 h).1 (Ne.symm hne)]; exact h
theorem Ext.grown {w0 : World} (h : Ext w0 w) (ho : Own w w0.heap.size e kk enc v xs) (hg : w.grownBy w' v.ownBlock) : Ext w0 w' := Below.grown h hg (Below.size h) (fun k e => (Own.lt ho k e).1)
theorem below_grown {B : Nat} {w0 : World} (h : Below B w0 w) (hB : B ≤ w.heap.size) (ho : Own w B e kk enc v xs) (hg : w.grownBy w' v.ownBlock) : Below B w0 w' := Below.grown h hg hB (fun k e => (Own.lt ho k e).1)
theorem Own.ofBlk (h : Blk w b e (xs.flatMap enc)) (hb : base ≤ b) (hk : ∀ x, (enc x).length = kk) (hm : xs.length ≤ maxLen) : Own w base e kk enc (.slice (some ⟨b, 0, none⟩) xs.length xs.length) xs := by
  have hl : (xs.flatMap enc).length = xs.length * kk := by
    clear h hm
    induction xs with
    | nil => simp
    | cons y ys ih => rw [List.flatMap_cons, List.length_append, ih, hk, List.length_cons, Nat.add_mul]; omega
  exact ⟨hl, .inr ⟨b, xs.length, _, rfl, hb, h, Nat.le_refl _, hm, by simp [hl], (show List.take _ (xs.flatMap enc) = _ from List.take_of_length_le (by omega))⟩⟩
/-- Bytes. -/
def encB8 (c : UInt8) : List Value := [.int .u8 (c.toNat : Int)]
theorem flat8 (s : List UInt8) : s.flatMap encB8 = s.map fun c => .int .u8 (c.toNat : Int) := by
  induction s with
  | nil => rfl
  | cons c s ih => rw [List.flatMap_cons, ih]; rfl
theorem Own.conv {s : List UInt8} (h : Own w base e 1 encB8 v s) (hs : P.underlying t1 = some (.slice e)) (he : P.underlying e = some (.int .u8)) (hd : P.underlying t2 = some .string) : (convert t1 t2 v).run P w = .ok (.string (B s)) w := by
  have hsh := h.2
  rcases hsh with ⟨rfl, h0⟩ | ⟨g, cap, cur, rfl, hb, hh, h1, h2, h3, h4⟩
  · have : s = [] := List.eq_nil_of_length_eq_zero h0
    subst this
    exact run_convert_bytes_nil (P := P) w t1 e hs he 0 0 t2 hd
  · refine conv_bytes hs he hd fun i c hc => ?_
    rw [Nat.zero_add]
    have hq := World.ownsRow.cells h rfl i (.int .u8 (c.toNat : Int)) (by rw [flat8, List.getElem?_map, hc]; rfl)
    rw [add0, Nat.zero_add] at hq
    exact hq
theorem e_convOwn {s : List UInt8} (hx : val l x = some v) (h : Own w base e 1 encB8 v s) (hs : P.underlying t1 = some (.slice e)) (he : P.underlying e = some (.int .u8)) (hd : P.underlying t2 = some .string) : Ev P n ds l w (.convert t1 t2 x) ty (.string (B s)) w := e_convr hx (h.conv hs he hd)
theorem e_lenOwn (ht : P.underlying t = some (.slice e)) (hx : val l x = some v) (h : Own w base e kk enc v xs) (hk : ∀ x, (enc x).length = kk) : Ev P n ds l w (.call ⟨.builtin .len, #[x], #[t]⟩) ty (.int .i64 xs.length) w := by
  obtain ⟨A, c, rfl, _⟩ := h.shape hk
  exact e_len ht hx
/-- append(v, literal) -/
theorem s_appendLit {w0 : World} {z : Value} {bytes m : Nat} (hx : val l x = some v) (hy : val l y = some (.slice (some ⟨b, 0, none⟩) m m)) (ht : P.underlying t = some (.slice e)) (hi : (P.info? e).map (fun i => (i.zero, i.size, i.bytes)) = some (some z, kk, bytes)) (hz : z.cells.size = kk) (hk0 : 0 < kk) (hk : ∀ x, (enc x).length = kk) (h1 : ∀ x, ∀ u ∈ enc x, u.oneCell' = true)
    (ys : List α) (ho : Own w w0.heap.size e kk enc v xs) (hext : Ext w0 w) (hb : Blk w b t2 cs) (hcs : ys.flatMap enc = cs) (hm : ys.length = m) (hlen : xs.length + m ≤ maxLen) (hbytes : (xs.length + m) * bytes ≤ 140737488355328)
    (h : ∀ v' w1, Own w1 w0.heap.size e kk enc v' (xs ++ ys) → Ext w0 w1 → w.grownBy w1 v.ownBlock → SL r P n ds ops q rest ((d, v') :: l) w1) (hd : d < n := by decide) :
    SL r P n ds ops q (⟨some d, .call ⟨.builtin .append, #[x, y], #[t, t]⟩, ty, pos, aft, none⟩ :: rest) l w := by
  subst hcs
  obtain ⟨v', w1, hr, ho', hg, hat, _⟩ := Own.append (P := P) (ty := ty) (A := ⟨b, 0, none⟩) (c := m) ht hi hz hk0 hk h1 ho hm (fun j u hj => by rw [add0, Nat.zero_add]; exact hb.cell hj) (Below.size hext) hlen hbytes
  exact s (e_append hx hy hr) (h v' w1 ho' (hext.grown ho hg) hg) rfl hd
/-- make([]T, m) for a T of one cell -/
theorem madeCells_one (z : Value) (m : Nat) : madeCells #[z] m = (List.replicate m z).toArray := by
  apply Array.ext
  · simp [madeCells]
  · intro i h1 h2
    simp [madeCells, Nat.mod_one]
theorem s_make1 {z : Value} {bytes : Nat} {m : Nat} {k2 : IntKind} (hx : val l x = some (.int k (m : Int))) (hy : val l y = some (.int k2 (m : Int))) (ht : P.underlying t = some (.slice e)) (hi : (P.info? e).map (fun i => (i.zero, i.size, i.bytes)) = some (some z, 1, bytes)) (hz : z.cells = #[z]) (hb : m * bytes ≤ 16777216) (hm : m ≤ 16777216)
    (h : ∀ b w1, Blk w1 b e (List.replicate m z) → b = w.heap.size → w1.heap.size = w.heap.size + 1 → Ext w w1 → SL r P n ds ops q rest ((d, .slice (some ⟨b, 0, none⟩) m m) :: l) w1) (hd : d < n := by decide) :
    SL r P n ds ops q (⟨some d, .makeSlice t x y, ty, pos, aft, none⟩ :: rest) l w := by
  obtain ⟨i0, hi, hzz⟩ := Option.map_eq_some_iff.1 hi
  simp only [Prod.mk.injEq] at hzz
  obtain ⟨hz0, hz1, hz2⟩ := hzz
  have hrun := run_makeSlice (P := P) w t e i0 z ht hi hz0 k k2 (m : Int) (m : Int) (by omega) (by omega) (by rw [hz1]; omega) (by rw [hz2, show (bytes : Int) * (m : Int) = ((m * bytes : Nat) : Int) from by rw [Nat.mul_comm]; rfl]; omega) (by omega)
  rw [hz1, hz, Nat.mul_one, madeCells_one] at hrun
  simp only [Int.toNat_natCast] at hrun
  exact s_makeF hx hy _ hrun h hd
theorem e_idxBlk1 {m c : Nat} (ht : P.underlying t = some (.slice e)) (hsz : ∀ w, (sizeOf e).run P w = .ok 1 w) (hx : val l x = some (.slice (some ⟨b, 0, none⟩) m c)) (hy : val l y = some (.int k i)) (o : Nat) (ho : i = o) (h1 : o < m) :
    Ev P n ds l w (.indexAddr t x y) ty (.pointer (some ⟨b, o, none⟩)) w := by
  subst ho
  have h := e_idxAddr (P := P) (n := n) (ds := ds) (w := w) (ty := ty) ht hsz hx hy (by omega) (by omega)
  rwa [add0, show 0 + (o : Int).toNat * 1 = o from by omega] at h
/-- []byte(s) -/
theorem s_bytesOf {s : List UInt8} (hx : val l x = some (.string (B s))) (hs : P.underlying t1 = some .string) (hd' : P.underlying t2 = some (.slice e)) (he : P.underlying e = some (.int .u8)) {v1 : Value}
    (hr : (convert t1 t2 (.string (B s))).run P w = .ok v1 w1) (h : SL r P n ds ops q rest ((d, v1) :: l) w1) (hd : d < n := by decide) :
    SL r P n ds ops q (⟨some d, .convert t1 t2 x, ty, pos, aft, none⟩ :: rest) l w := Go.XK.s (e_convr hx hr) h rfl hd
end
end Go.XK
namespace Go.XK
theorem one_encB8 : ∀ (c : UInt8), ∀ u ∈ encB8 c, u.oneCell' = true := fun c u hu => by
  simp only [encB8, List.mem_singleton] at hu
  subst hu; rfl
end Go.XK
namespace Go.XK
/-- Whole numbers. -/
def encI (i : Int) : List Value := [.int .i64 i]
theorem one_encI : ∀ (c : Int), ∀ u ∈ encI c, u.oneCell' = true := fun c u hu => by
  simp only [encI, List.mem_singleton] at hu
  subst hu; rfl
/-- Strings. -/
def encS (s : List UInt8) : List Value := [.string (B s)]
theorem one_encS : ∀ (c : List UInt8), ∀ u ∈ encS c, u.oneCell' = true := fun c u hu => by
  simp only [encS, List.mem_singleton] at hu
  subst hu; rfl
theorem Rd.ofBlk {α : Type} {w : World} {b kk : Nat} {t : TypeId} {enc : α → List Value} {xs : List α} (h : Blk w b t (xs.flatMap enc)) (hk : ∀ x, (enc x).length = kk) : Rd w (some ⟨b, 0, none⟩) kk enc xs :=
  .inr ⟨_, rfl, fun j x hj i v hv => by rw [add0, Nat.zero_add]; exact h.cell (flat_get hk xs j i x v hj hv)⟩
end Go.XK
namespace Go.XK
section
variable {r : Option Nat} {P : Program} {n : Nat} {ds : List Deferred} {ops : Array Oper} {q : QQ} {l : Env} {w w1 : World} {ty : TypeId} {pos : String} {aft : Array Edge} {d : Nat} {v : Value} {o : Op} {i : Nat} {dsts : List Nat} {Ds : List Pred} {Q : Exit → Act → World → Prop} {a : Act}
theorem h_evA (ha : Ok n ds l a) (ho : ops[i]? = some ⟨some d, o, ty, pos, aft, none⟩) (he : Ev P n ds l w o ty v w1) (hdi : dsts.getD i 0 = d) (hD : Ds.getD i (fun _ _ => True) v w1) (hx : Ext w w1) (hp : plain o = true := by rfl) :
    opOne r P ops Q i (fun a' w' => ∃ v, a' = a.put (some (dsts.getD i 0)) v ∧ Ds.getD i (fun _ _ => True) v w' ∧ Ext w w') a w := h_ev ho he ha hdi hD hx hp
theorem h_gevA {j t : Nat} {b want : Bool} (ha : Ok n ds l a) (ho : ops[i]? = some ⟨some d, o, ty, pos, aft, some (j, want)⟩) (hs : guardSlot ops j = some t) (hb : l.lookup t = some (.bool b)) (hw : b = want) (he : Ev P n ds l w o ty v w1) (hdi : dsts.getD i 0 = d) (hD : Ds.getD i (fun _ _ => True) v w1) (hx : Ext w w1) (hp : plain o = true := by rfl) :
    opOne r P ops Q i (fun a' w' => ∃ v, a' = a.put (some (dsts.getD i 0)) v ∧ Ds.getD i (fun _ _ => True) v w' ∧ Ext w w') a w := h_gev ho hs hb hw he ha hdi hD hx hp
theorem h_callA {f : FuncId} {fop : Operand} {xs : List Operand} {vs caps : List Value} {tys : Array TypeId} {R : Value → World → Prop} (ha : Ok n ds l a) (he : Ent P f) (ho : ops[i]? = some ⟨some d, .call ⟨.value fop, xs.toArray, tys⟩, ty, pos, aft, none⟩) (hf : val l fop = some (.func (.func f) #[] caps.toArray)) (hx : vals l xs = some vs) (hc : CallR P f (vs ++ caps) w R) (hdi : dsts.getD i 0 = d)
    (h : ∀ v w1, R v w1 → Ds.getD i (fun _ _ => True) v w1 ∧ Ext w w1) : opOne r P ops Q i (fun a' w' => ∃ v, a' = a.put (some (dsts.getD i 0)) v ∧ Ds.getD i (fun _ _ => True) v w' ∧ Ext w w') a w := h_call ho he hf hx hc ha hdi h
end
end Go.XK
namespace Go.XK
section
variable {r : Option Nat} {P : Program} {n : Nat} {ds : List Deferred} {l : Env} {w w1 : World} {ty t e : TypeId} {x y : Operand} {k : IntKind} {i : Int} {b o o' : Nat}
theorem e_fieldB {fs : Array Field} {f : Field} {fi sz : Nat} (ht : P.underlying t = some (.struct fs)) (hf : fs[fi]? = some f) (hsz : ∀ w, (sizeOf f.type).run P w = .ok sz w) (h0 : sz ≠ 0) (ho : o + f.offset = o') (hx : val l x = some (.pointer (some ⟨b, o, none⟩))) :
    Ev P n ds l w (.fieldAddr t x fi) ty (.pointer (some ⟨b, o', none⟩)) w := by
  have h := e_field (P := P) (n := n) (ds := ds) (w := w) (ty := ty) ht hf hsz h0 hx
  rwa [add0, ho] at h
theorem e_idxB {m c sz : Nat} (ht : P.underlying t = some (.slice e)) (hsz : ∀ w, (sizeOf e).run P w = .ok sz w) (hx : val l x = some (.slice (some ⟨b, o, none⟩) m c)) (hy : val l y = some (.int k i)) (h0 : 0 ≤ i) (h1 : i < m) (ho : o + i.toNat * sz = o') :
    Ev P n ds l w (.indexAddr t x y) ty (.pointer (some ⟨b, o', none⟩)) w := by
  have h := e_idxAddr (P := P) (n := n) (ds := ds) (w := w) (ty := ty) ht hsz hx hy h0 h1
  rwa [add0, ho] at h
end
end Go.XK
namespace Go.XK
section
variable {r : Option Nat} {P : Program} {n : Nat} {ds : List Deferred} {ops : Array Oper} {q : QQ} {l : Env} {w w0 w1 : World} {rest : List Oper} {ty t e : TypeId} {pos : String} {aft : Array Edge} {d : Nat} {x : Operand} {y z : Option Operand} {α : Type} {enc : α → List Value} {xs : List α} {A : Option Addr} {m cap kk lo hi : Nat}
/-- xs[lo:hi] of a slice that is read. -/
theorem s_slRd (ys : List α) (ht : P.underlying t = some (.slice e)) (hsz : ∀ w, (sizeOf e).run P w = .ok kk w) (hx : val l x = some (.slice A m cap)) (hR : Rd w0 A kk enc xs) (hm : m = xs.length) (hcap : xs.length ≤ cap) (hy : Bd l y 0 lo) (hz : Bd l z m hi) (h1 : lo ≤ hi) (h2 : hi ≤ xs.length) (hys : (xs.take hi).drop lo = ys)
    (h : ∀ A' c', Rd w0 A' kk enc ys → ys.length ≤ c' → SL r P n ds ops q rest ((d, .slice A' ys.length c') :: l) w) (hd : d < n := by decide) : SL r P n ds ops q (⟨some d, .slice t x y z none, ty, pos, aft, none⟩ :: rest) l w := by
  subst hys
  have hl : ((xs.take hi).drop lo).length = hi - lo := by simp; omega
  refine s (e_slslice ht hsz hx hy hz h1 (by omega)) ?_ rfl hd
  have := h _ (cap - lo) (hR.slice hcap h2) (by rw [hl]; omega)
  rw [hl] at this
  exact this
end
end Go.XK
