/- The calculus of the walks, part 16: maps that the call makes; their elements stand as values. My own text. -/
import Derived.Test.YtnbclhbpjlpcoaaXKo
import Derived.Maps.Range
import Derived.ChangeMaps5
set_option linter.unusedVariables false
set_option linter.unusedSimpArgs false
namespace Go.XK
open Go.RowKit Go.Maps
/-- An element reads as itself. -/
def rawR (v : Value) : Option (DataW Value × List MemPlace) := some (.held v, [])
/-- The keys of a type: their values, how they read. -/
structure KeyT (P : Program) (k : TypeId) {κ : Type} (kv : κ → Value) (kl : κ → Lit) (okk : κ → Prop) : Prop where
  K : Keyed P k
  of : ∀ x, okk x → keyOf P k (kv x) = some (kl x)
  inv : ∀ v l, keyOf P k v = some l → ∃ x, okk x ∧ v = kv x ∧ l = kl x
  inj : ∀ x y, kl x = kl y → x = y
theorem keyT_int {P : Program} {k : TypeId} (hk : P.underlying k = some (.int .i64)) : KeyT P k (fun x : Int => .int .i64 x) (fun x => .int .i64 x) (fun x => (Lit.int .i64 x).wf = true) where
  K := int_keyed hk
  of x h := keyOf_int_mk hk h
  inv v l h := by
    cases v <;> simp [keyOf, hk, mapKey] at h
    obtain ⟨⟨h1, h2⟩, rfl⟩ := h
    subst h1
    exact ⟨_, h2, rfl, rfl⟩
  inj x y h := by injection h
theorem keyT_str {P : Program} {k : TypeId} (hk : P.underlying k = some .string) : KeyT P k (fun x : List UInt8 => .string (B x)) (fun x => .string x) (fun x => x.length ≤ maxLen) where
  K := string_keyed hk
  of x h := by
    have hs := B_size x
    simp only [keyOf, hk, mapKey]
    rw [if_pos (by rw [hs]; exact h)]
    rfl
  inv v l h := by
    cases v <;> simp [keyOf, hk, mapKey] at h
    rename_i s
    obtain ⟨h1, rfl⟩ := h
    exact ⟨s.data.toList, (Array.length_toList (xs := s.data)).symm ▸ h1, by rw [B_data], rfl⟩
  inj x y h := by injection h
section
variable {κ : Type} {P : Program} {k e t : TypeId} {kv : κ → Value} {kl : κ → Lit} {okk : κ → Prop} {w w' w1 : World} {b m c : Nat} {f : κ → Option Value} {x : κ} {v z : Value}
/-- Block b is a map of at most m entries that holds f. -/
def Mp (w : World) (P : Program) (k : TypeId) (kl : κ → Lit) (okk : κ → Prop) (b m : Nat) (f : κ → Option Value) : Prop :=
  ∃ D : DataW Value, w.ownsMap P k rawR b m D ∧ ∀ x, okk x → has D (kl x) = (f x).isSome ∧ ∀ u, f x = some u → ∀ z, D.atKey (kl x) z = .held u
def updM [DecidableEq κ] (f : κ → Option Value) (x : κ) (v : Value) : κ → Option Value := fun y => if y = x then some v else f y
theorem Mp.made (w : World) (P : Program) (k : TypeId) (kl : κ → Lit) (okk : κ → Prop) : Mp (w.alloc (.map #[] 0)) P k kl okk w.heap.size 0 (fun _ => none) :=
  ⟨_, World.ownsMap_made w P k rawR, fun x _ => ⟨rfl, fun u h => by cases h⟩⟩
theorem Mp.lt (h : Mp w P k kl okk b m f) : b < w.heap.size := by obtain ⟨D, h, _⟩ := h; exact h.lt
theorem Mp.le (h : Mp w P k kl okk b m f) {m' : Nat} (hm : m ≤ m') : Mp w P k kl okk b m' f := by obtain ⟨D, h, h2⟩ := h; exact ⟨D, h.mono hm, h2⟩
theorem Mp.grown {g : Option Nat} (h : Mp w P k kl okk b m f) (hg : w.grownBy w' g) (hne : g ≠ some b) : Mp w' P k kl okk b m f := by
  obtain ⟨D, h, h2⟩ := h
  exact ⟨D, h.kept hg (fun e => hne e.symm), h2⟩
theorem Mp.ext (h : Mp w P k kl okk b m f) (he : Ext w w') : Mp w' P k kl okk b m f := h.grown (g := none) ⟨he.os, he.tape, he.output, he.size, fun i hi _ => he.block i hi⟩ (by simp)
theorem Mp.mut (h : Mp w P k kl okk b m f) (hm : Mut w w' c) (hne : b ≠ c) : Mp w' P k kl okk b m f := h.grown hm (fun e => hne (by injection e with e; exact e.symm))
theorem Mp.noCells (h : Mp w P k kl okk b m f) : ∃ es cl, w.heap[b]? = some (.map es cl) := by obtain ⟨D, ⟨es, cl, h, _⟩, _⟩ := h; exact ⟨es, cl, h⟩
theorem Mp.ne_blk (h : Mp w P k kl okk b m f) {c : Nat} {t : TypeId} {cs : List Value} (hb : Blk w c t cs) : b ≠ c := fun e => by
  obtain ⟨es, cl, h⟩ := h.noCells
  rw [e] at h; unfold Blk at hb; rw [h] at hb; cases hb
theorem Mp.ne_own (h : Mp w P k kl okk b m f) {α : Type} {base : Nat} {e : TypeId} {kk : Nat} {enc : α → List Value} {u : Value} {xs : List α} (ho : Own w base e kk enc u xs) : u.ownBlock ≠ some b := fun e => by
  obtain ⟨es, cl, h⟩ := h.noCells
  rcases ho.2 with h1 | ⟨g, cap, cur, hv, h2, hh, r⟩
  · rw [h1.1] at e; cases e
  · rw [hv] at e; have e : some g = some b := e; injection e with e; rw [e, h] at hh; cases hh
theorem Mp.store [DecidableEq κ] (T : KeyT P k kv kl okk) (ht : P.underlying t = some (.map k e)) (h : Mp w P k kl okk b m f) (hm : m < maxLen) (hx : okk x) (v : Value) :
    ∃ w', (Instr.mapUpdate t (.map (some b)) (kv x) v).run P w = .ok () w' ∧ Mp w' P k kl okk b (m + 1) (updM f x v) ∧ Mut w w' b ∧ w'.heap.size = w.heap.size := by
  obtain ⟨D, h, h2⟩ := h
  have hD := h.isMap
  obtain ⟨w', hr, ho, hg⟩ := h.store T.K ht hm (T.of x hx) (R := rawR) (val := v) rfl
  have hkl := T.K.key (T.of x hx)
  refine ⟨w', hr, ⟨_, ho, fun y hy => ?_⟩, hg.grown, by obtain ⟨es, cl, es', cl', hb, rfl⟩ := hg; simp [ChangeMaps.setBlock]⟩
  by_cases e : y = x
  · subst e
    rw [updM, if_pos rfl]
    exact ⟨has_put_same hD hkl _, fun u hu z => by injection hu with hu; subst hu; exact atKey_put_same hD hkl _ z⟩
  · have e2 : kl y ≠ kl x := fun h => e (T.inj _ _ h)
    rw [updM, if_neg e, has_put_other e2]
    exact ⟨(h2 y hy).1, fun u hu z => by rw [atKey_put_other e2]; exact (h2 y hy).2 u hu z⟩
theorem Mp.look (T : KeyT P k kv kl okk) (ht : P.underlying t = some (.map k e)) (hz : ∀ w, (zeroValue e).run P w = .ok z w) (h : Mp w P k kl okk b m f) (hx : okk x) :
    (Instr.lookup t (.map (some b)) (kv x) false).run P w = .ok ((f x).getD z) w := by
  obtain ⟨D, h, h2⟩ := h
  obtain ⟨v, ps, hr, hv⟩ := h.lookup T.K ht (hz w) (R := rawR) (zd := .held z) (zp := []) rfl (T.of x hx)
  rw [hr]
  have hv : DataW.held v = D.atKey (kl x) (.held z) := (Prod.mk.inj (Option.some.inj hv)).1
  obtain ⟨h3, h4⟩ := h2 x hx
  cases hf : f x with
  | none =>
    rw [hf] at h3
    rw [atKey_of_not_has h3] at hv
    injection hv with hv; rw [hv]; rfl
  | some u => rw [h4 u hf] at hv; injection hv with hv; rw [hv]; rfl
theorem Mp.lookOk (T : KeyT P k kv kl okk) (ht : P.underlying t = some (.map k e)) (hz : ∀ w, (zeroValue e).run P w = .ok z w) (h : Mp w P k kl okk b m f) (hx : okk x) :
    (Instr.lookup t (.map (some b)) (kv x) true).run P w = .ok (.tuple #[(f x).getD z, .bool (f x).isSome]) w := by
  obtain ⟨D, h, h2⟩ := h
  obtain ⟨v, ps, hr, hv⟩ := h.look_ok T.K ht (hz w) (R := rawR) (zd := .held z) (zp := []) rfl (T.of x hx)
  rw [hr]
  have hv : DataW.held v = D.atKey (kl x) (.held z) := (Prod.mk.inj (Option.some.inj hv)).1
  obtain ⟨h3, h4⟩ := h2 x hx
  rw [h3]
  cases hf : f x with
  | none =>
    rw [hf] at h3
    rw [atKey_of_not_has h3] at hv
    injection hv with hv; rw [hv]; rfl
  | some u => rw [h4 u hf] at hv; injection hv with hv; rw [hv]; rfl
/-- The map in block b, an iterator over it in block r. -/
def Rg (w : World) (P : Program) (k : TypeId) (kl : κ → Lit) (okk : κ → Prop) (b r m : Nat) (f : κ → Option Value) (cnt : Nat) : Prop :=
  ∃ (D : DataW Value) (left : Lit → Bool), w.ranges P k rawR b r m D left cnt ∧ (∀ x, okk x → has D (kl x) = (f x).isSome ∧ ∀ u, f x = some u → ∀ z, D.atKey (kl x) z = .held u) ∧ ∀ l, left l = true → has D l = true
theorem Rg.mp {r cnt : Nat} (h : Rg w P k kl okk b r m f cnt) : Mp w P k kl okk b m f := by obtain ⟨D, l, h, h2, _⟩ := h; exact ⟨D, h.owns, h2⟩
theorem Rg.grown {r cnt : Nat} {g : Option Nat} (h : Rg w P k kl okk b r m f cnt) (hg : w.grownBy w' g) (h1 : g ≠ some b) (h3 : g ≠ some r) : Rg w' P k kl okk b r m f cnt := by
  obtain ⟨D, l, h, h2⟩ := h
  exact ⟨D, l, h.kept hg (fun e => h1 e.symm) (fun e => h3 e.symm), h2⟩
theorem Rg.ext {r cnt : Nat} (h : Rg w P k kl okk b r m f cnt) (he : Ext w w') : Rg w' P k kl okk b r m f cnt := h.grown (g := none) ⟨he.os, he.tape, he.output, he.size, fun i hi _ => he.block i hi⟩ (by simp) (by simp)
theorem Rg.iter {r cnt : Nat} (h : Rg w P k kl okk b r m f cnt) : ∃ a s c d, w.heap[r]? = some (.mapIter a s c d) := by
  obtain ⟨D, l, ⟨es, clock, since, seen, c0, _, _, _, _, hr, _⟩, _⟩ := h
  exact ⟨_, _, _, _, hr⟩
theorem Rg.lt {r cnt : Nat} (h : Rg w P k kl okk b r m f cnt) : r < w.heap.size := by
  obtain ⟨_, _, _, _, h⟩ := h.iter
  exact (Array.getElem?_eq_some_iff.1 h).1
theorem Rg.ne_blk {r cnt : Nat} (h : Rg w P k kl okk b r m f cnt) {c : Nat} {t : TypeId} {cs : List Value} (hb : Blk w c t cs) : r ≠ c := fun e => by
  obtain ⟨_, _, _, _, h⟩ := h.iter
  rw [e] at h; unfold Blk at hb; rw [h] at hb; cases hb
theorem Rg.ne_own {r cnt : Nat} (h : Rg w P k kl okk b r m f cnt) {α : Type} {base : Nat} {e : TypeId} {kk : Nat} {enc : α → List Value} {u : Value} {xs : List α} (ho : Own w base e kk enc u xs) : u.ownBlock ≠ some r := fun e => by
  obtain ⟨_, _, _, _, h⟩ := h.iter
  rcases ho.2 with h1 | ⟨g, cap, cur, hv, h2, hh, _⟩
  · rw [h1.1] at e; cases e
  · rw [hv] at e; have e : some g = some r := e; injection e with e; rw [e, h] at hh; cases hh
theorem Rg.ne_mp {κ' : Type} {k' : TypeId} {kl' : κ' → Lit} {okk' : κ' → Prop} {b' m' : Nat} {f' : κ' → Option Value} {r cnt : Nat} (h : Rg w P k kl okk b r m f cnt) (hb : Mp w P k' kl' okk' b' m' f') : r ≠ b' := fun e => by
  obtain ⟨_, _, _, _, h⟩ := h.iter
  obtain ⟨_, _, h2⟩ := hb.noCells
  rw [e, h2] at h; cases h
theorem Rg.mut {r cnt c : Nat} (h : Rg w P k kl okk b r m f cnt) (hm : Mut w w' c) (h1 : b ≠ c) (h3 : r ≠ c) : Rg w' P k kl okk b r m f cnt := h.grown hm (fun e => h1 (by injection e with e; exact e.symm)) (fun e => h3 (by injection e with e; exact e.symm))
theorem Mp.range (T : KeyT P k kv kl okk) (ht : P.underlying t = some (.map k e)) (h : Mp w P k kl okk b m f) :
    ∃ w' cnt, (Instr.range t (.map (some b))).run P w = .ok (.pointer (some ⟨w.heap.size, 0, none⟩)) w' ∧ Rg w' P k kl okk b w.heap.size m f cnt ∧ Ext w w' ∧ w'.heap.size = w.heap.size + 1 := by
  obtain ⟨D, h, h2⟩ := h
  obtain ⟨w', hr, hg, hn, hs⟩ := h.range T.K ht
  exact ⟨w', _, hr, ⟨D, _, hg, h2, fun l hl => hl⟩, ⟨hn.os, hn.tape, hn.output, hn.size, fun i hi => hn.block i hi (by simp)⟩, hs⟩
theorem Rg.next {r cnt : Nat} (T : KeyT P k kv kl okk) (h : Rg w P k kl okk b r m f cnt) (ty : TypeId) :
    (Instr.next (.pointer (some ⟨r, 0, none⟩)) false ty).run P w = .ok (.tuple #[.bool false]) w ∨
    ∃ x v w' cnt', okk x ∧ f x = some v ∧ (Instr.next (.pointer (some ⟨r, 0, none⟩)) false ty).run P w = .ok (.tuple #[.bool true, kv x, v]) w' ∧ Rg w' P k kl okk b r m f cnt' ∧ cnt' < cnt ∧ Mut w w' r ∧ w'.heap.size = w.heap.size ∧ (Instr.entry (.pointer (some ⟨r, 0, none⟩))).run P w' = .ok (.tuple #[kv x, v]) w' := by
  obtain ⟨D, l, h, h2, h3⟩ := h
  rcases h.next T.K ty with ⟨_, _, hr⟩ | ⟨key, v, kl', y, w', cnt', hk, hl, hR, hat, hr, hrg, hlt, hg, hs, he⟩
  · exact .inl hr
  · obtain ⟨x, hx, rfl, rfl⟩ := T.inv _ _ hk
    refine .inr ⟨x, v, w', cnt', hx, ?_, hr, ⟨D, _, hrg, h2, fun l hl => h3 l (by simp at hl; exact hl.1)⟩, hlt, hg, hs, he⟩
    obtain ⟨h4, h5⟩ := h2 x hx
    rw [h3 _ hl] at h4
    obtain ⟨u, hu⟩ := Option.isSome_iff_exists.1 h4.symm
    have h6 := h5 u hu (.held v)
    rw [hat, show y = (DataW.held v, []) from (Option.some.inj hR).symm] at h6
    injection h6 with h6
    rw [h6, hu]
end
section
variable {r : Option Nat} {P : Program} {n : Nat} {ds : List Deferred} {ops : Array Oper} {q : QQ} {l : Env} {w w' w1 : World} {rest : List Oper} {ty t t2 e k : TypeId} {pos : String} {aft : Array Edge} {d : Nat} {X Y Z : Operand} {κ : Type} {kv : κ → Value} {kl : κ → Lit} {okk : κ → Prop} {b m : Nat} {f : κ → Option Value} {key : κ} {v z : Value}
theorem Ev.eqv {o : Op} {v' : Value} (h : v = v') (he : Ev P n ds l w o ty v w1) : Ev P n ds l w o ty v' w1 := h ▸ he
theorem e_mapLook (T : KeyT P k kv kl okk) (ht : P.underlying t = some (.map k e)) (hz : ∀ w, (zeroValue e).run P w = .ok z w) (hm : Mp w P k kl okk b m f) (hX : val l X = some (.map (some b))) (hY : val l Y = some (kv key)) (hk : okk key) : Ev P n ds l w (.lookup t X Y false) ty ((f key).getD z) w :=
  e_lookup hX hY (hm.look T ht hz hk)
theorem e_mapLookOk (T : KeyT P k kv kl okk) (ht : P.underlying t = some (.map k e)) (hz : ∀ w, (zeroValue e).run P w = .ok z w) (hm : Mp w P k kl okk b m f) (hX : val l X = some (.map (some b))) (hY : val l Y = some (kv key)) (hk : okk key) : Ev P n ds l w (.lookup t X Y true) ty (.tuple #[(f key).getD z, .bool (f key).isSome]) w :=
  e_lookup hX hY (hm.lookOk T ht hz hk)
theorem s_makeMap (k : TypeId) (kl : κ → Lit) (okk : κ → Prop) (h : ∀ b w1, Mp w1 P k kl okk b 0 (fun _ => none) → b = w.heap.size → Ext w w1 → SL r P n ds ops q rest ((d, .map (some b)) :: l) w1) (hd : d < n := by decide) : SL r P n ds ops q (⟨some d, .makeMap t none, ty, pos, aft, none⟩ :: rest) l w :=
  sl_ev (e_makeMap (run_makeMap t w)) rfl hd (h _ _ (Mp.made w P k kl okk) rfl (Ext.alloc _ _))
theorem su_mapPut [DecidableEq κ] (T : KeyT P k kv kl okk) (ht : P.underlying t = some (.map k e)) (hX : val l X = some (.map (some b))) (hY : val l Y = some (kv key)) (hZ : val l Z = some v) (hm : Mp w P k kl okk b m f) (hmm : m < maxLen) (hk : okk key)
    (h : ∀ w1, Mp w1 P k kl okk b (m + 1) (updM f key v) → Mut w w1 b → w1.heap.size = w.heap.size → SL r P n ds ops q rest l w1) : SL r P n ds ops q (⟨none, .mapUpdate t X Y Z, ty, pos, aft, none⟩ :: rest) l w := by
  obtain ⟨w1, hr, h1, h2, h3⟩ := hm.store T ht hmm hk v
  exact sl_un (u_mapUpdate hX hY hZ hr) rfl (h w1 h1 h2 h3)
theorem e_rangeOp (hX : val l X = some v) (h : (Instr.range t v).run P w = .ok z w1) : Ev P n ds l w (.range t X) ty z w1 :=
  e_run (S := fun a => Instr.range t (a.eval X)) (fun _ _ _ _ _ => rfl) (fun a ha => by rw [ha.eval hX]; exact h)
theorem e_nextOp (hX : val l X = some v) (h : (Instr.next v false ty).run P w = .ok z w1) : Ev P n ds l w (.next X false) ty z w1 :=
  e_run (S := fun a => Instr.next (a.eval X) false ty) (fun _ _ _ _ _ => rfl) (fun a ha => by rw [ha.eval hX]; exact h)
theorem e_entryOp (hX : val l X = some v) (h : (Instr.entry v).run P w = .ok z w1) : Ev P n ds l w (.entry X) ty z w1 :=
  e_run (S := fun a => Instr.entry (a.eval X)) (fun _ _ _ _ _ => rfl) (fun a ha => by rw [ha.eval hX]; exact h)
theorem s_range (T : KeyT P k kv kl okk) (ht : P.underlying t = some (.map k e)) (hX : val l X = some (.map (some b))) (hm : Mp w P k kl okk b m f)
    (h : ∀ r1 w1 cnt, Rg w1 P k kl okk b r1 m f cnt → r1 = w.heap.size → Ext w w1 → SL r P n ds ops q rest ((d, .pointer (some ⟨r1, 0, none⟩)) :: l) w1) (hd : d < n := by decide) : SL r P n ds ops q (⟨some d, .range t X, ty, pos, aft, none⟩ :: rest) l w := by
  obtain ⟨w1, cnt, hr, h1, h2, h3⟩ := hm.range T ht
  exact sl_ev (e_rangeOp hX hr) rfl hd (h _ w1 cnt h1 rfl h2)
theorem s_next {r1 cnt : Nat} (T : KeyT P k kv kl okk) (hX : val l X = some (.pointer (some ⟨r1, 0, none⟩))) (hg : Rg w P k kl okk b r1 m f cnt)
    (h0 : SL r P n ds ops q rest ((d, .tuple #[.bool false]) :: l) w)
    (h1 : ∀ x v w1 cnt', okk x → f x = some v → Rg w1 P k kl okk b r1 m f cnt' → cnt' < cnt → Mut w w1 r1 → (Instr.entry (.pointer (some ⟨r1, 0, none⟩))).run P w1 = .ok (.tuple #[kv x, v]) w1 → SL r P n ds ops q rest ((d, .tuple #[.bool true, kv x, v]) :: l) w1) (hd : d < n := by decide) :
    SL r P n ds ops q (⟨some d, .next X false, ty, pos, aft, none⟩ :: rest) l w := by
  rcases hg.next T ty with hr | ⟨x, v, w1, cnt', hx, hf, hr, hg', hlt, hm, _, he⟩
  · exact sl_ev (e_nextOp hX hr) rfl hd h0
  · exact sl_ev (e_nextOp hX hr) rfl hd (h1 x v w1 cnt' hx hf hg' hlt hm he)
end
end Go.XK
