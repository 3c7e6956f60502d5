/- The calculus of the walks, part 6: a region whose order is drawn, its head operations turning nothing that was there: whatever order. My own text. -/
import Derived.Test.YtnbclhbpjlpcoaaXKe
set_option linter.unusedVariables false
set_option linter.unusedSimpArgs false
namespace Go.XK
open Go.RowKit
section
variable {r : Option Nat} {P : Program} {n : Nat} {ds : List Deferred} {ops : Array Oper} {q : QQ} {l l0 : Env} {w w0 w1 : World} {ty : TypeId} {pos : String} {aft : Array Edge} {d : Nat} {v : Value} {o : Op} {i : Nat}

theorem Ok.add {a : Act} {t : Nat} {v : Value} (h : Ok n ds l a) (ht : a.tmps.getD t undef = v) : Ok n ds ((t, v) :: l) a := ⟨h.defers, h.size, fun u x hx => by
  rw [List.lookup_cons] at hx
  by_cases e : u = t
  · subst e; simp at hx; subst hx; exact ht
  · rw [show (u == t) = false from by simpa using e] at hx; exact h.get u x hx⟩
def hasPred (ops : Array Oper) (i j : Nat) : Bool := match ops[i]? with
  | some o => o.after.any fun e => Region.binds .any e && e.on == j
  | none => false
def dstIs (ops : Array Oper) (i d : Nat) : Bool := match ops[i]? with
  | some o => o.dst == some d
  | none => false

abbrev Pred := Value → World → Prop
/-- What is known of the head operations that have come up. -/
structure HInv (n : Nat) (ds : List Deferred) (ops : Array Oper) (l0 : Env) (w0 : World) (dsts : List Nat) (Ds : List Pred) (L : Array Bool) (a : Act) (w : World) : Prop where
  size : L.size = ops.size
  head : ∀ i, L.getD i false = true → i < dsts.length
  base : Ok n ds l0 a
  ext : Ext w0 w
  all : ∀ i, L.getD i false = true → Ds.getD i (fun _ _ => True) (a.tmps.getD (dsts.getD i 0) undef) w

/-- What is asked of head operation i. -/
def HOp (r : Option Nat) (P : Program) (n : Nat) (ds : List Deferred) (ops : Array Oper) (l0 : Env) (w0 : World) (dsts : List Nat) (Ds : List Pred) (i : Nat) : Prop :=
  ∀ (Q : Exit → Act → World → Prop) (a : Act) (w : World), Ext w0 w → Ok n ds l0 a → (∀ j, hasPred ops i j = true → j < dsts.length → Ds.getD j (fun _ _ => True) (a.tmps.getD (dsts.getD j 0) undef) w) →
    opOne r P ops Q i (fun a' w' => ∃ v, a' = a.put (some (dsts.getD i 0)) v ∧ Ds.getD i (fun _ _ => True) v w' ∧ Ext w w') a w
def HOps (r : Option Nat) (P : Program) (n : Nat) (ds : List Deferred) (ops : Array Oper) (l0 : Env) (w0 : World) (dsts : List Nat) (Ds : List Pred) : List Nat → Prop
  | [] => True
  | i :: is => HOp r P n ds ops l0 w0 dsts Ds i ∧ HOps r P n ds ops l0 w0 dsts Ds is
theorem HOps.at_ {dsts : List Nat} {Ds : List Pred} : ∀ {is : List Nat}, HOps r P n ds ops l0 w0 dsts Ds is → ∀ i ∈ is, HOp r P n ds ops l0 w0 dsts Ds i
  | [], _, _, h => by cases h
  | j :: is, h, i, hi => by
    rcases List.mem_cons.1 hi with rfl | hi
    · exact h.1
    · exact HOps.at_ h.2 i hi

/-- The operations behind the head, one after the other. -/
def wpT (r : Option Nat) (P : Program) (ops : Array Oper) (Q : Exit → Act → World → Prop) : List Nat → Act → World → Prop
  | [], a, w => Q .normal a w
  | i :: rest, a, w => opOne r P ops Q i (fun a' w' => wpT r P ops Q rest a' w') a w
/-- The checks: edges lead back; the head's slots are told once; a tail operation waits for all before it. -/
def hchk (ops : Array Oper) (dsts tail : List Nat) (n : Nat) : Bool :=
  ops.toList.zipIdx.all (fun (o, i) => o.after.all fun e => !Region.binds .any e || decide (e.on < i)) && (decide dsts.Nodup && dsts.all fun d => decide (d < n))
def keysFree (l0 : Env) (dsts : List Nat) : Bool := dsts.all fun d => (l0.map (·.1)).all fun k => k != d
def tchk (ops : Array Oper) : List Nat → Array Bool → Bool
  | [], L => (Region.ready .any ops L).isEmpty
  | i :: rest, L => Region.ready .any ops L == [i] && tchk ops rest (L.setIfInBounds i true)
/-- As long as a head operation is missing no tail operation may come. -/
def waits.reach (ops : Array Oper) : Nat → Nat → Nat → Bool
  | 0, _, _ => false
  | fuel + 1, k, j => (List.range ops.size).any fun m => hasPred ops k m && (m == j || waits.reach ops fuel m j)
def waits (ops : Array Oper) (h : Nat) : Bool := (List.range ops.size).all fun k => decide (k < h) || (List.range h).all fun j => waits.reach ops ops.size k j
def Closed (ops : Array Oper) (L : Array Bool) : Prop := ∀ i j, L.getD i false = true → hasPred ops i j = true → L.getD j false = true
theorem hasPred_iff {i j : Nat} : hasPred ops i j = true ↔ ∃ o, ops[i]? = some o ∧ ∃ e ∈ o.after, Region.binds .any e = true ∧ e.on = j := by
  unfold hasPred
  cases h : ops[i]? with
  | none => simp
  | some o =>
    simp only [Option.some.injEq, exists_eq_left']
    rw [Array.any_eq_true']
    constructor
    · rintro ⟨e, he, hb⟩; simp at hb; exact ⟨e, he, hb.1, hb.2⟩
    · rintro ⟨e, he, hb, ho⟩; exact ⟨e, he, by simp [hb, ho]⟩
theorem ready_preds {L : Array Bool} {i j : Nat} (hi : i ∈ Region.ready .any ops L) (hp : hasPred ops i j = true) : L.getD j false = true := by
  obtain ⟨_, o, ho, hall⟩ := mem_ready.1 hi
  obtain ⟨o', ho', e, he, hb, hj⟩ := hasPred_iff.1 hp
  rw [ho] at ho'; cases ho'
  rw [← hj]; exact hall e he hb
theorem reach_listed {L : Array Bool} (hc : Closed ops L) : ∀ (fuel k j : Nat), waits.reach ops fuel k j = true → (∀ m, hasPred ops k m = true → L.getD m false = true) → L.getD j false = true
  | 0, _, _, h, _ => by simp [waits.reach] at h
  | fuel + 1, k, j, h, hk => by
    simp only [waits.reach, List.any_eq_true, List.mem_range, Bool.and_eq_true, Bool.or_eq_true, beq_iff_eq] at h
    obtain ⟨m, _, hm, rfl | h⟩ := h
    · exact hk m hm
    · exact reach_listed hc fuel m j h fun m' hm' => hc m m' (hk m hm) hm'
theorem ready_unlisted {L : Array Bool} {i : Nat} (hs : L.size = ops.size) (hi : i ∈ Region.ready .any ops L) : i < ops.size ∧ L.getD i false = false := by
  obtain ⟨h0, o, ho, _⟩ := mem_ready.1 hi
  have hlt := (Array.getElem?_eq_some_iff.1 ho).1
  refine ⟨hlt, ?_⟩
  rw [Array.getD_eq_getD_getElem?, getElem?_pos L i (by omega)] at h0 ⊢
  simpa using h0

theorem wpT_any {Q : Exit → Act → World → Prop} : ∀ (tail : List Nat) (L : Array Bool) (a : Act) (w : World), tchk ops tail L = true → wpT r P ops Q tail a w → wpAnyIn (WR r) 0 P .any ops Q tail.length L a w
  | [], L, a, w, hc, h => ⟨by simpa [tchk] using hc, h⟩
  | i :: rest, L, a, w, hc, h => by
    simp only [tchk, Bool.and_eq_true, beq_iff_eq] at hc
    unfold wpT at h
    refine ⟨fun h0 => (by rw [h0] at hc; cases hc.1), fun j hj => ?_⟩
    rw [hc.1] at hj
    obtain rfl : j = i := by simpa using hj
    exact wpOpIn_mono (fun a' w' h' => wpT_any rest _ a' w' hc.2 h') h
theorem eq_of_getD {A C : Array Bool} (h1 : A.size = C.size) (h2 : ∀ i, A.getD i false = C.getD i false) : A = C := by
  apply Array.ext h1
  intro i hi hj
  have := h2 i
  rw [Array.getD_eq_getD_getElem?, Array.getD_eq_getD_getElem?, getElem?_pos A i hi, getElem?_pos C i hj] at this
  simpa using this
theorem set_getD {L : Array Bool} {i j : Nat} (hi : i < L.size) : (L.setIfInBounds i true).getD j false = if j = i then true else L.getD j false := by
  by_cases e : j = i
  · subst e; rw [if_pos rfl, Array.getD_eq_getD_getElem?, Array.getElem?_setIfInBounds_self_of_lt hi]; rfl
  · rw [if_neg e, Array.getD_eq_getD_getElem?, Array.getD_eq_getD_getElem?, Array.getElem?_setIfInBounds_ne (Ne.symm e)]
def headL (ops : Array Oper) (h : Nat) : Array Bool := ((List.range ops.size).map fun i => decide (i < h)).toArray
theorem count_le {h : Nat} : ∀ (is : List Nat) (p : Nat → Bool), is.Nodup → (is.filter p).length ≤ is.length := fun is p _ => List.length_filter_le _ _

theorem free_any {Q : Exit → Act → World → Prop} {dsts : List Nat} {Ds : List Pred} {tail : List Nat} (hnd : dsts.Nodup) (hkeys : ∀ t v, l0.lookup t = some v → t ∉ dsts) (hle : dsts.length ≤ ops.size)
    (hfwd : ∀ i j, hasPred ops i j = true → j < i) (hw : waits ops dsts.length = true) (htl : tail.length + dsts.length = ops.size) (htc : tchk ops tail (headL ops dsts.length) = true) (hops : ∀ i, i < dsts.length → HOp r P n ds ops l0 w0 dsts Ds i)
    (htail : ∀ a w, Ext w0 w → Ok n ds l0 a → (∀ i, i < dsts.length → Ds.getD i (fun _ _ => True) (a.tmps.getD (dsts.getD i 0) undef) w) → wpT r P ops Q tail a w)
    (hDs : ∀ i v w w', Ds.getD i (fun _ _ => True) v w → Ext w w' → Ds.getD i (fun _ _ => True) v w') (hn : ∀ d ∈ dsts, d < n) :
    ∀ (fuel : Nat) (L : Array Bool) (a : Act) (w : World), Closed ops L → HInv n ds ops l0 w0 dsts Ds L a w → ((List.range dsts.length).filter fun i => !L.getD i false).length = fuel → wpAnyIn (WR r) 0 P .any ops Q (tail.length + fuel) L a w := by
  intro fuel
  induction fuel with
  | zero =>
    intro L a w hcl hI hf
    have hall : ∀ i, i < dsts.length → L.getD i false = true := fun i hi => by
      have := List.eq_nil_of_length_eq_zero hf
      rw [List.filter_eq_nil_iff] at this
      have := this i (by simpa using hi)
      simpa using this
    have hL : L = headL ops dsts.length := by
      apply eq_of_getD (by rw [hI.size]; simp [headL])
      intro i
      rw [show (headL ops dsts.length).getD i false = decide (i < dsts.length) from by
        unfold headL
        rw [Array.getD_eq_getD_getElem?]
        by_cases h : i < ops.size
        · simp [List.getElem?_map, List.getElem?_range h]
        · simp [List.getElem?_map, List.getElem?_eq_none (show (List.range ops.size).length ≤ i by simp; omega)]; omega]
      by_cases h : i < dsts.length
      · rw [hall i h]; simp [h]
      · cases hc : L.getD i false with
        | false => simp [h]
        | true => exact absurd (hI.head i hc) h
    subst hL
    exact wpT_any tail _ a w htc (htail a w hI.ext hI.base fun i hi => hI.all i (hall i hi))
  | succ fuel ih =>
    intro L a w hcl hI hf
    have hmiss : ∃ m, m < dsts.length ∧ L.getD m false = false := by
      have hne : ((List.range dsts.length).filter fun i => !L.getD i false) ≠ [] := fun h => by rw [h] at hf; simp at hf
      obtain ⟨m, hm⟩ := List.exists_mem_of_ne_nil _ hne
      rw [List.mem_filter, List.mem_range] at hm
      exact ⟨m, hm.1, by simpa using hm.2⟩
    obtain ⟨m0, hm0, hmL⟩ := hmiss
    have step : ∀ i ∈ Region.ready .any ops L, opOne r P ops Q i (fun a' w' => wpAnyIn (WR r) 0 P .any ops Q (tail.length + fuel) (L.setIfInBounds i true) a' w') a w := by
      intro i hi
      obtain ⟨hlt, hun⟩ := ready_unlisted hI.size hi
      have hih : i < dsts.length := by
        rcases Nat.lt_or_ge i dsts.length with h | h
        · exact h
        · unfold waits at hw
          rw [List.all_eq_true] at hw
          have := hw i (by simpa using hlt)
          rw [decide_eq_false (by omega), Bool.false_or, List.all_eq_true] at this
          have := reach_listed hcl _ _ _ (this m0 (by simpa using hm0)) (fun m hm => ready_preds hi hm)
          rw [hmL] at this; cases this
      refine wpOpIn_mono (fun a' w' h' => ?_) (hops i hih Q a w hI.ext hI.base fun j hj hjl => hI.all j (ready_preds hi hj))
      obtain ⟨v, rfl, hD, hx⟩ := h'
      have hdn : dsts.getD i 0 < n := hn _ (by rw [List.getD_eq_getElem?_getD, List.getElem?_eq_getElem hih]; simp)
      have hLs : i < L.size := by rw [hI.size]; exact hlt
      refine ih (L.setIfInBounds i true) _ w' ?_ ⟨by simp [hI.size], ?_, ?_, hI.ext.tr hx, ?_⟩ ?_
      · intro k j hk hp
        rw [set_getD hLs] at hk ⊢
        split
        · rfl
        · split at hk
          · rename_i e; subst e; exact ready_preds hi hp
          · exact hcl k j hk hp
      · intro k hk
        rw [set_getD hLs] at hk
        split at hk
        · rename_i e; subst e; exact hih
        · exact hI.head k hk
      · refine (hI.base.put _ v hdn).sub ?_
        intro t u hu
        rw [List.lookup_cons]
        rw [show (t == dsts.getD i 0) = false from by
          simp only [beq_eq_false_iff_ne]
          rintro rfl
          exact hkeys _ _ hu (by rw [List.getD_eq_getElem?_getD, List.getElem?_eq_getElem hih]; simp)]
        exact hu
      · intro k hk
        rw [set_getD hLs] at hk
        have hp := hI.base.put (dsts.getD i 0) v hdn
        by_cases e : k = i
        · subst e
          rw [hp.get (dsts.getD k 0) v (by rw [List.lookup_cons_self])]
          exact hD
        · rw [if_neg e] at hk
          have hkl := hI.head k hk
          have hne : dsts.getD i 0 ≠ dsts.getD k 0 := by
            rw [List.getD_eq_getElem?_getD, List.getD_eq_getElem?_getD, List.getElem?_eq_getElem hih, List.getElem?_eq_getElem hkl]
            simp only [Option.getD_some]
            intro h
            have hpw := List.pairwise_iff_getElem.1 hnd
            rcases Nat.lt_or_gt_of_ne e with h1 | h1
            · exact hpw k i hkl hih h1 h.symm
            · exact hpw i k hih hkl h1 h
          have : (a.put (some (dsts.getD i 0)) v).tmps.getD (dsts.getD k 0) undef = a.tmps.getD (dsts.getD k 0) undef := by
            simp only [Act.put, Array.getD_eq_getD_getElem?]
            rw [Array.getElem?_setIfInBounds_ne hne]
          rw [this]
          exact hDs k _ w w' (hI.all k hk) hx
      · have hset : ((List.range dsts.length).filter fun k => !(L.setIfInBounds i true).getD k false) = ((List.range dsts.length).filter fun k => !L.getD k false).filter (· ≠ i) := by
          rw [List.filter_filter]
          apply List.filter_congr
          intro k _
          rw [set_getD hLs]
          by_cases e : k = i <;> simp [e]
        rw [hset]
        have hmem : i ∈ (List.range dsts.length).filter fun k => !L.getD k false := by
          rw [List.mem_filter, List.mem_range]; exact ⟨hih, by simp [hun]⟩
        have hnod : ((List.range dsts.length).filter fun k => !L.getD k false).Nodup := List.nodup_range.filter _
        have := List.Nodup.erase_eq_filter hnod i
        rw [show (fun x => decide (x ≠ i)) = (fun x => x != i) from by funext x; by_cases hxi : x = i <;> simp [hxi]]
        rw [← this, List.length_erase_of_mem hmem, hf]
        rfl
    refine ⟨fun h0 => ?_, step⟩
    exfalso
    -- the least head operation that is missing may come
    have least : ∀ m, m < dsts.length → L.getD m false = false → False := by
      intro m
      induction m using Nat.strongRecOn with
      | _ m ihm =>
        intro hm hmf
        have hms : m < ops.size := by omega
        have hin : m ∈ Region.ready .any ops L := by
          refine mem_ready.2 ⟨?_, ops[m], by simp [hms], fun e he hb => ?_⟩
          · rw [Array.getD_eq_getD_getElem?, getElem?_pos L m (by rw [hI.size]; omega)] at hmf ⊢
            simpa using hmf
          · have hlt := hfwd m e.on (hasPred_iff.2 ⟨ops[m], by simp [hms], e, he, hb, rfl⟩)
            cases hc : L.getD e.on false with
            | true => rfl
            | false => exact (ihm e.on hlt (by omega) hc).elim
        rw [h0] at hin; cases hin
    exact least m0 hm0 hmL
theorem keysFree_spec {dsts : List Nat} (h : keysFree l0 dsts = true) : ∀ t v, l0.lookup t = some v → t ∉ dsts := by
  intro t v hl hm
  unfold keysFree at h
  rw [List.all_eq_true] at h
  have h1 := h t hm
  rw [List.all_eq_true] at h1
  have : ∀ (l : Env), l.lookup t = some v → t ∈ l.map (·.1) := by
    intro l
    induction l with
    | nil => intro h; simp at h
    | cons p l ih =>
      intro h
      rw [List.lookup_cons] at h
      by_cases e : t = p.1
      · subst e; simp
      · rw [show (t == p.1) = false from by simpa using e] at h
        simp only [List.map_cons, List.mem_cons]
        exact .inr (ih h)
  have := h1 t (this l0 hl)
  simp at this
theorem hfwd_spec {dsts tail : List Nat} (h : hchk ops dsts tail n = true) : (∀ i j, hasPred ops i j = true → j < i) ∧ dsts.Nodup ∧ ∀ d ∈ dsts, d < n := by
  simp only [hchk, Bool.and_eq_true, List.all_eq_true, decide_eq_true_eq] at h
  refine ⟨?_, h.2.1, h.2.2⟩
  intro i j hp
  obtain ⟨o, ho, e, he, hb, rfl⟩ := hasPred_iff.1 hp
  have h1 := h.1 (o, i) (by
    rw [List.mk_mem_zipIdx_iff_getElem?]
    simpa using ho)
  have h2 := Array.all_eq_true_iff_forall_mem.1 h1 e he
  simp [hb] at h2
  exact h2
/-- The rest behind the head. -/
def ST (r : Option Nat) (P : Program) (n : Nat) (ds : List Deferred) (ops : Array Oper) (q : QQ) (tail : List Nat) (l : Env) (w : World) : Prop := ∀ a, Ok n ds l a → wpT r P ops (fun e a w => e = .normal ∧ q.nrm a w) tail a w
/-- **A region whose order is drawn: the head in whatever order, then the tail.** -/
theorem sc_free {id : Nat} (l0 : Env) (dsts : List Nat) (Ds : List Pred) (tail : List Nat) (hm : P.follows .mixedOrders = true) (hs : Sub l0 l) (hc : hchk ops dsts tail n = true) (hk : keysFree l0 dsts = true) (hw : waits ops dsts.length = true)
    (htl : tail.length + dsts.length = ops.size) (htc : tchk ops tail (headL ops dsts.length) = true)
    (hDs : ∀ i v w w', Ds.getD i (fun _ _ => True) v w → Ext w w' → Ds.getD i (fun _ _ => True) v w')
    (hops : HOps r P n ds ops l0 w dsts Ds (List.range dsts.length))
    (htail : ∀ (vs : Nat → Value) (w1 : World), Ext w w1 → (∀ i, i < dsts.length → Ds.getD i (fun _ _ => True) (vs i) w1) →
      ∀ a, Ok n ds l0 a → (∀ i, i < dsts.length → a.tmps.getD (dsts.getD i 0) undef = vs i) → wpT r P ops (fun e a w => e = .normal ∧ q.nrm a w) tail a w1) :
    SC r P n ds (.region id ops true) q l w := fun a ha => by
  obtain ⟨h1, h2, h3⟩ := hfwd_spec hc
  refine wpIn_mono (Q := fun e a w => e = .normal ∧ q.nrm a w) ?_ (fun e a w hq => by obtain ⟨rfl, hq⟩ := hq; exact hq)
  refine wpIn_region_any hm ?_
  have hx0 : Ext w { w with drawn := w.drawn + 1 } := (Below.refl w.heap.size w).drew
  have key := free_any (r := r) (P := P) (Q := fun e a w => e = .normal ∧ q.nrm a w) (w0 := { w with drawn := w.drawn + 1 }) (l0 := l0) (n := n) (ds := ds) (ops := ops) (dsts := dsts) (Ds := Ds) (tail := tail) h2 (keysFree_spec hk) (by omega) h1 hw htl htc
    (fun i hi Q a' w' hx' => hops.at_ i (by simpa using hi) Q a' w' (hx0.tr hx'))
    (fun a' w' hx hok hall => htail (fun i => a'.tmps.getD (dsts.getD i 0) undef) w' (hx0.tr hx) hall a' hok fun _ _ => rfl) hDs h3 dsts.length (Array.replicate ops.size false) a { w with drawn := w.drawn + 1 } ?_ ?_ ?_
  · rw [htl] at key; exact key
  · intro i j hi
    exfalso
    rw [Array.getD_eq_getD_getElem?] at hi
    by_cases h : i < ops.size
    · simp [h] at hi
    · simp [h] at hi
  · refine ⟨by simp, ?_, ha.sub hs, Ext.rfl' _, ?_⟩
    · intro i hi
      exfalso
      rw [Array.getD_eq_getD_getElem?] at hi
      by_cases h : i < ops.size
      · simp [h] at hi
      · simp [h] at hi
    · intro i hi
      exfalso
      rw [Array.getD_eq_getD_getElem?] at hi
      by_cases h : i < ops.size
      · simp [h] at hi
      · simp [h] at hi
  · rw [List.filter_eq_self.2]
    · simp
    · intro i _
      rw [Array.getD_eq_getD_getElem?]
      by_cases h : i < ops.size
      · simp [h]
      · simp [h]
variable {dsts : List Nat} {Ds : List Pred} {Q : Exit → Act → World → Prop} {a : Act}
theorem h_ev (ho : ops[i]? = some ⟨some d, o, ty, pos, aft, none⟩) (he : Ev P n ds l w o ty v w1) (ha : Ok n ds l a) (hdi : dsts.getD i 0 = d) (hD : Ds.getD i (fun _ _ => True) v w1) (hx : Ext w w1) (hp : plain o = true := by rfl) :
    opOne r P ops Q i (fun a' w' => ∃ v, a' = a.put (some (dsts.getD i 0)) v ∧ Ds.getD i (fun _ _ => True) v w' ∧ Ext w w') a w :=
  opOne_of ho rfl (wpIn_value hp (he a _ _ _ _ ha) ⟨v, by rw [hdi], hD, hx⟩)
theorem h_gev {j t : Nat} {b want : Bool} (ho : ops[i]? = some ⟨some d, o, ty, pos, aft, some (j, want)⟩) (hs : guardSlot ops j = some t) (hb : l.lookup t = some (.bool b)) (hw : b = want) (he : Ev P n ds l w o ty v w1) (ha : Ok n ds l a) (hdi : dsts.getD i 0 = d) (hD : Ds.getD i (fun _ _ => True) v w1) (hx : Ext w w1) (hp : plain o = true := by rfl) :
    opOne r P ops Q i (fun a' w' => ∃ v, a' = a.put (some (dsts.getD i 0)) v ∧ Ds.getD i (fun _ _ => True) v w' ∧ Ext w w') a w :=
  opOne_of ho (by rw [ha.wanted rfl hs hb, hw]; cases want <;> rfl) (wpIn_value hp (he a _ _ _ _ ha) ⟨v, by rw [hdi], hD, hx⟩)
theorem h_gskip {j t : Nat} {b want : Bool} (ho : ops[i]? = some ⟨some d, o, ty, pos, aft, some (j, want)⟩) (hs : guardSlot ops j = some t) (hb : l.lookup t = some (.bool b)) (hw : b = !want) (ha : Ok n ds l a) (hdi : dsts.getD i 0 = d) (hD : Ds.getD i (fun _ _ => True) undef w) :
    opOne r P ops Q i (fun a' w' => ∃ v, a' = a.put (some (dsts.getD i 0)) v ∧ Ds.getD i (fun _ _ => True) v w' ∧ Ext w w') a w := by
  unfold opOne wpOpIn
  rw [ho]
  dsimp only
  rw [if_neg (by rw [ha.wanted rfl hs hb, hw]; cases want <;> simp)]
  exact ⟨fun _ _ => trivial, undef, by rw [hdi], hD, Ext.rfl' _⟩
theorem h_call {f : FuncId} {fop : Operand} {xs : List Operand} {vs caps : List Value} {tys : Array TypeId} {R : Value → World → Prop} (ho : ops[i]? = some ⟨some d, .call ⟨.value fop, xs.toArray, tys⟩, ty, pos, aft, none⟩) (he : Ent P f) (hf : val l fop = some (.func (.func f) #[] caps.toArray)) (hx : vals l xs = some vs) (hc : CallR P f (vs ++ caps) w R) (ha : Ok n ds l a) (hdi : dsts.getD i 0 = d)
    (h : ∀ v w1, R v w1 → Ds.getD i (fun _ _ => True) v w1 ∧ Ext w w1) : opOne r P ops Q i (fun a' w' => ∃ v, a' = a.put (some (dsts.getD i 0)) v ∧ Ds.getD i (fun _ _ => True) v w' ∧ Ext w w') a w :=
  opOne_of ho rfl (wpIn_call he ha hf hx hc fun v w1 hR => ⟨v, by rw [hdi], (h v w1 hR).1, (h v w1 hR).2⟩)
theorem st_go (ha : Ok n ds l a) {tail : List Nat} (h : ST r P n ds ops q tail l w) : wpT r P ops (fun e a w => e = .normal ∧ q.nrm a w) tail a w := h a ha
theorem st_nil (h : ∀ a, Ok n ds l a → q.nrm a w) : ST r P n ds ops q [] l w := fun a ha => by unfold wpT; exact ⟨rfl, h a ha⟩
variable {tail : List Nat}
theorem st_ev (ho : ops[i]? = some ⟨some d, o, ty, pos, aft, none⟩) (he : Ev P n ds l w o ty v w1) (h : ST r P n ds ops q tail ((d, v) :: l) w1) (hp : plain o = true := by rfl) (hd : d < n := by decide) : ST r P n ds ops q (i :: tail) l w := fun a ha => by
  unfold wpT
  exact opOne_of ho rfl (wpIn_value hp (he a _ _ _ _ ha) (h _ (ha.put d v hd)))
theorem st_un (ho : ops[i]? = some ⟨none, o, ty, pos, aft, none⟩) (he : Un P n ds l w o ty w1) (h : ST r P n ds ops q tail l w1) (hp : plain o = true := by rfl) : ST r P n ds ops q (i :: tail) l w := fun a ha => by
  unfold wpT
  exact opOne_of ho rfl (wpIn_unit hp (he a _ _ _ _ ha) (h _ ha))
theorem st_call {f : FuncId} {fop : Operand} {xs : List Operand} {vs caps : List Value} {tys : Array TypeId} {R : Value → World → Prop} (ho : ops[i]? = some ⟨some d, .call ⟨.value fop, xs.toArray, tys⟩, ty, pos, aft, none⟩) (he : Ent P f) (hf : val l fop = some (.func (.func f) #[] caps.toArray)) (hx : vals l xs = some vs) (hc : CallR P f (vs ++ caps) w R) (hd : d < n)
    (h : ∀ v w1, R v w1 → ST r P n ds ops q tail ((d, v) :: l) w1) : ST r P n ds ops q (i :: tail) l w := fun a ha => by
  unfold wpT
  exact opOne_of ho rfl (wpIn_call he ha hf hx hc fun v w1 hR => h v w1 hR _ (ha.put d v hd))
end
/-- What is told of a value alone. -/
def Is (u : Value) : Pred := fun v _ => v = u
theorem ds_ext {Ds : List Pred} (h : ∀ D ∈ Ds, ∀ v w w', D v w → Ext w w' → D v w') : ∀ (i : Nat) (v : Value) (w w' : World), Ds.getD i (fun _ _ => True) v w → Ext w w' → Ds.getD i (fun _ _ => True) v w' := by
  intro i v w w' hd hx
  rw [List.getD_eq_getElem?_getD] at hd ⊢
  cases hi : Ds[i]? with
  | none => trivial
  | some D => rw [hi] at hd; exact h D (List.mem_of_getElem? hi) v w w' hd hx
/-- Facts that stay. -/
inductive Stays : List Pred → Prop
  | nil : Stays []
  | is (u : Value) {Ds : List Pred} (h : Stays Ds) : Stays (Is u :: Ds)
  | any {D : Pred} {Ds : List Pred} (hD : ∀ v w w', D v w → Ext w w' → D v w') (h : Stays Ds) : Stays (D :: Ds)
theorem Stays.spec {Ds : List Pred} (h : Stays Ds) : ∀ D ∈ Ds, ∀ v w w', D v w → Ext w w' → D v w' := by
  induction h with
  | nil => intro D hD; cases hD
  | is u _ ih =>
    intro D hD v w w' h hx
    rcases List.mem_cons.1 hD with rfl | hD
    · exact h
    · exact ih D hD v w w' h hx
  | any hE _ ih =>
    intro D hD v w w' h hx
    rcases List.mem_cons.1 hD with rfl | hD
    · exact hE v w w' h hx
    · exact ih D hD v w w' h hx
end Go.XK
