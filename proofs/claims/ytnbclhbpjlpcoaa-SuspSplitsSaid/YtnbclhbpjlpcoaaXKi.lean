/- The calculus of the walks, part 9: a region whose order is drawn, where some operations that only yield may come late. My own text. -/
import Derived.Test.YtnbclhbpjlpcoaaXKh
set_option linter.unusedVariables false
set_option linter.unusedSimpArgs false
namespace Go.XK
open Go.RowKit
section
variable {r : Option Nat} {P : Program} {n : Nat} {ds : List Deferred} {ops : Array Oper} {q : QQ} {l l0 : Env} {w w0 w1 : World} {ty : TypeId} {pos : String} {aft : Array Edge} {d : Nat} {v : Value} {o : Op} {i : Nat}

def HLate (P : Program) (n : Nat) (ds : List Deferred) (ops : Array Oper) (l0 : Env) (w0 : World) (dsts : List Nat) (Ds : List Pred) (i : Nat) : Prop :=
  ∀ (a : Act) (w : World), Ext w0 w → Ok n ds l0 a → (∀ j, hasPred ops i j = true → j < dsts.length → Ds.getD j (fun _ _ => True) (a.tmps.getD (dsts.getD j 0) undef) w) →
    ∃ (v : Value) (o : Oper), Ds.getD i (fun _ _ => True) v w ∧ ops[i]? = some o ∧ o.dst = some (dsts.getD i 0) ∧ Yld P ops (fun _ => True) o v a
def HLates (P : Program) (n : Nat) (ds : List Deferred) (ops : Array Oper) (l0 : Env) (w0 : World) (dsts : List Nat) (Ds : List Pred) : List Nat → Prop
  | [] => True
  | i :: is => HLate P n ds ops l0 w0 dsts Ds i ∧ HLates P n ds ops l0 w0 dsts Ds is
theorem HLates.at_ {dsts : List Nat} {Ds : List Pred} : ∀ {is : List Nat}, HLates P n ds ops l0 w0 dsts Ds is → ∀ i ∈ is, HLate P n ds ops l0 w0 dsts Ds i
  | [], _, _, h => by cases h
  | j :: is, h, i, hi => by
    rcases List.mem_cons.1 hi with rfl | hi
    · exact h.1
    · exact HLates.at_ h.2 i hi
def waitsL (ops : Array Oper) (h : Nat) (late : List Nat) : Bool := (List.range ops.size).all fun k => decide (k < h) || (List.range h).all fun j => late.contains j || waits.reach ops ops.size k j
def lateFree (ops : Array Oper) (j : Nat) : Bool := match ops[j]? with
  | some oj => (List.range ops.size).all fun k => k == j || hasPred ops k j || waits.reach ops ops.size j k || (match ops[k]? with | some ok => oj.apart ops ok | none => true)
  | none => false
def lateOk (ops : Array Oper) (h : Nat) (early late : List Nat) : Bool := late.all (fun j => lateFree ops j && decide (j < h)) && (List.range h).all (fun i => early.contains i || late.contains i) && plainAll ops

theorem wpT_E {Q : Exit → Act → World → Prop} : ∀ (tail : List Nat) (L : Array Bool) (a : Act) (w : World), tchk ops tail L = true → wpT r P ops Q tail a w → wpE r P ops Q (fun _ => True) tail.length L a w
  | [], L, a, w, hc, h => ⟨by simpa [tchk] using hc, h⟩
  | i :: rest, L, a, w, hc, h => by
    simp only [tchk, Bool.and_eq_true, beq_iff_eq] at hc
    unfold wpT at h
    refine ⟨fun h0 => (by rw [h0] at hc; cases hc.1), fun j hj => ?_⟩
    rw [hc.1] at hj
    obtain rfl : j = i := by simpa using hj
    exact wpOpIn_mono (fun a' w' h' => ⟨fun _ => trivial, wpT_E rest _ a' w' hc.2 h'⟩) h

theorem late_any {Q : Exit → Act → World → Prop} {dsts : List Nat} {Ds : List Pred} {tail early late : List Nat} (hQ : ∀ e a w, e ≠ .normal → ¬ Q e a w) (hnd : dsts.Nodup) (hkeys : ∀ t v, l0.lookup t = some v → t ∉ dsts) (hle : dsts.length ≤ ops.size)
    (hfwd : ∀ i j, hasPred ops i j = true → j < i) (hw : waitsL ops dsts.length late = true) (hlo : lateOk ops dsts.length early late = true) (htl : tail.length + dsts.length = ops.size) (htc : tchk ops tail (headL ops dsts.length) = true)
    (hops : ∀ i ∈ early, HOp r P n ds ops l0 w0 dsts Ds i) (hlate : ∀ j ∈ late, HLate P n ds ops l0 w0 dsts Ds j)
    (htail : ∀ a w, Ext w0 w → Ok n ds l0 a → (∀ i, i < dsts.length → Ds.getD i (fun _ _ => True) (a.tmps.getD (dsts.getD i 0) undef) w) → wpT r P ops Q tail a w)
    (hDs : ∀ i v w w', Ds.getD i (fun _ _ => True) v w → Ext w w' → Ds.getD i (fun _ _ => True) v w') (hn : ∀ d ∈ dsts, d < n) :
    ∀ (fuel : Nat) (L : Array Bool) (a : Act) (w : World), Closed ops L → HInv n ds ops l0 w0 dsts Ds L a w → ((List.range dsts.length).filter fun i => !L.getD i false).length = fuel → wpE r P ops Q (fun _ => True) (tail.length + fuel) L a w := by
  simp only [lateOk, Bool.and_eq_true, List.all_eq_true, decide_eq_true_eq, List.mem_range, Bool.or_eq_true, List.contains_iff_mem] at hlo
  obtain ⟨⟨hlf, hcov⟩, hpl⟩ := hlo
  have hpl : plainAll ops = true := hpl
  intro fuel
  induction fuel with
  | zero =>
    intro L a w hcl hI hf
    have hall : ∀ i, i < dsts.length → L.getD i false = true := fun i hi => by
      have := List.eq_nil_of_length_eq_zero hf
      rw [List.filter_eq_nil_iff] at this
      have := this i (by simpa using hi)
      simpa using this
    have hL : L = headL ops dsts.length := by
      apply eq_of_getD (by rw [hI.size]; simp [headL])
      intro i
      rw [show (headL ops dsts.length).getD i false = decide (i < dsts.length) from by
        unfold headL
        rw [Array.getD_eq_getD_getElem?]
        by_cases h : i < ops.size
        · simp [List.getElem?_map, List.getElem?_range h]
        · simp [List.getElem?_map, List.getElem?_eq_none (show (List.range ops.size).length ≤ i by simp; omega)]; omega]
      by_cases h : i < dsts.length
      · rw [hall i h]; simp [h]
      · cases hc : L.getD i false with
        | false => simp [h]
        | true => exact absurd (hI.head i hc) h
    subst hL
    exact wpT_E tail _ a w htc (htail a w hI.ext hI.base fun i hi => hI.all i (hall i hi))
  | succ fuel ih =>
    intro L a w hcl hI hf
    -- one head operation more has come: what is known then
    have grow : ∀ (i : Nat) (v : Value) (w' : World), i ∈ Region.ready .any ops L → i < dsts.length → Ds.getD i (fun _ _ => True) v w' → Ext w w' → wpE r P ops Q (fun _ => True) (tail.length + fuel) (L.setIfInBounds i true) (a.put (some (dsts.getD i 0)) v) w' := by
      intro i v w' hi hih hD hx
      obtain ⟨hlt, hun⟩ := ready_unlisted hI.size hi
      have hdn : dsts.getD i 0 < n := hn _ (by rw [List.getD_eq_getElem?_getD, List.getElem?_eq_getElem hih]; simp)
      have hLs : i < L.size := by rw [hI.size]; exact hlt
      refine ih (L.setIfInBounds i true) _ w' ?_ ⟨by simp [hI.size], ?_, ?_, hI.ext.tr hx, ?_⟩ ?_
      · intro k j hk hp
        rw [set_getD hLs] at hk ⊢
        split
        · rfl
        · split at hk
          · rename_i e; subst e; exact ready_preds hi hp
          · exact hcl k j hk hp
      · intro k hk
        rw [set_getD hLs] at hk
        split at hk
        · rename_i e; subst e; exact hih
        · exact hI.head k hk
      · refine (hI.base.put _ v hdn).sub ?_
        intro t u hu
        rw [List.lookup_cons]
        rw [show (t == dsts.getD i 0) = false from by
          simp only [beq_eq_false_iff_ne]
          rintro rfl
          exact hkeys _ _ hu (by rw [List.getD_eq_getElem?_getD, List.getElem?_eq_getElem hih]; simp)]
        exact hu
      · intro k hk
        rw [set_getD hLs] at hk
        have hp := hI.base.put (dsts.getD i 0) v hdn
        by_cases e : k = i
        · subst e
          rw [hp.get (dsts.getD k 0) v (by rw [List.lookup_cons_self])]
          exact hD
        · rw [if_neg e] at hk
          have hkl := hI.head k hk
          have hne : dsts.getD i 0 ≠ dsts.getD k 0 := by
            rw [List.getD_eq_getElem?_getD, List.getD_eq_getElem?_getD, List.getElem?_eq_getElem hih, List.getElem?_eq_getElem hkl]
            simp only [Option.getD_some]
            intro h
            have hpw := List.pairwise_iff_getElem.1 hnd
            rcases Nat.lt_or_gt_of_ne e with h1 | h1
            · exact hpw k i hkl hih h1 h.symm
            · exact hpw i k hih hkl h1 h
          have : (a.put (some (dsts.getD i 0)) v).tmps.getD (dsts.getD k 0) undef = a.tmps.getD (dsts.getD k 0) undef := by
            simp only [Act.put, Array.getD_eq_getD_getElem?]
            rw [Array.getElem?_setIfInBounds_ne hne]
          rw [this]
          exact hDs k _ w w' (hI.all k hk) hx
      · have hset : ((List.range dsts.length).filter fun k => !(L.setIfInBounds i true).getD k false) = ((List.range dsts.length).filter fun k => !L.getD k false).filter (· ≠ i) := by
          rw [List.filter_filter]
          apply List.filter_congr
          intro k _
          rw [set_getD hLs]
          by_cases e : k = i <;> simp [e]
        rw [hset]
        have hmem : i ∈ (List.range dsts.length).filter fun k => !L.getD k false := by
          rw [List.mem_filter, List.mem_range]; exact ⟨hih, by simp [hun]⟩
        have hnod : ((List.range dsts.length).filter fun k => !L.getD k false).Nodup := List.nodup_range.filter _
        have := List.Nodup.erase_eq_filter hnod i
        rw [show (fun x => decide (x ≠ i)) = (fun x => x != i) from by funext x; by_cases hxi : x = i <;> simp [hxi]]
        rw [← this, List.length_erase_of_mem hmem, hf]
        rfl
    by_cases hlr : ∃ j ∈ late, j ∈ Region.ready .any ops L
    · -- a late one may come: it comes first
      obtain ⟨j, hjl, hjr⟩ := hlr
      obtain ⟨hfree, hjh⟩ := hlf j hjl
      obtain ⟨v, oj, hD, hoj, hdst, hy⟩ := hlate j hjl a w hI.ext hI.base fun k hk hkl => hI.all k (ready_preds hjr hk)
      refine wpE_first hoj hpl hQ (tail.length + fuel) L a w ?_ hjr hy trivial (by rw [hdst]; exact grow j v w hjr hjh hD (Ext.rfl' w))
      intro k ok hok hkj hkun hno
      unfold lateFree at hfree
      rw [hoj] at hfree
      simp only [List.all_eq_true, List.mem_range, Bool.or_eq_true, beq_iff_eq] at hfree
      rcases hfree k (Array.getElem?_eq_some_iff.1 hok).1 with ((h1 | h1) | h1) | h1
      · exact absurd h1 hkj
      · obtain ⟨o', ho', e, he, hb, hj'⟩ := hasPred_iff.1 h1
        rw [hok] at ho'; cases ho'
        exact absurd hj' (hno e he hb)
      · have := reach_listed hcl _ _ _ h1 (fun m hm => ready_preds hjr hm)
        exfalso
        have hks : k < L.size := by rw [hI.size]; exact (Array.getElem?_eq_some_iff.1 hok).1
        rw [Array.getD_eq_getD_getElem?, getElem?_pos L k hks] at this hkun
        simp at this hkun
        rw [this] at hkun; cases hkun
      · rw [hok] at h1; exact h1
    · have hmiss : ∃ m, m < dsts.length ∧ L.getD m false = false := by
        have hne : ((List.range dsts.length).filter fun i => !L.getD i false) ≠ [] := fun h => by rw [h] at hf; simp at hf
        obtain ⟨m, hm⟩ := List.exists_mem_of_ne_nil _ hne
        rw [List.mem_filter, List.mem_range] at hm
        exact ⟨m, hm.1, by simpa using hm.2⟩
      -- the least head operation that is missing may come
      have least : ∃ m, m < dsts.length ∧ L.getD m false = false ∧ m ∈ Region.ready .any ops L := by
        have key : ∀ m, m < dsts.length → L.getD m false = false → ∃ m, m < dsts.length ∧ L.getD m false = false ∧ m ∈ Region.ready .any ops L := by
          intro m
          induction m using Nat.strongRecOn with
          | _ m ihm =>
            intro hm hmf
            by_cases hp : ∀ j, hasPred ops m j = true → L.getD j false = true
            · have hms : m < ops.size := by omega
              refine ⟨m, hm, hmf, mem_ready.2 ⟨?_, ops[m], by simp [hms], fun e he hb => ?_⟩⟩
              · rw [Array.getD_eq_getD_getElem?, getElem?_pos L m (by rw [hI.size]; omega)] at hmf ⊢
                simpa using hmf
              · exact hp e.on (hasPred_iff.2 ⟨ops[m], by simp [hms], e, he, hb, rfl⟩)
            · obtain ⟨j, hj⟩ := Classical.not_forall.1 hp
              obtain ⟨hj1, hj2⟩ := Classical.not_imp.1 hj
              have hlt := hfwd m j hj1
              exact ihm j hlt (by omega) (by simpa using hj2)
        obtain ⟨m, hm, hmf⟩ := hmiss
        exact key m hm hmf
      obtain ⟨m0, hm0, hmL, hm0r⟩ := least
      have hm0e : m0 ∉ late := fun h => hlr ⟨m0, h, hm0r⟩
      refine ⟨fun h0 => (by rw [h0] at hm0r; cases hm0r), fun i hi => ?_⟩
      obtain ⟨hlt, hun⟩ := ready_unlisted hI.size hi
      have hih : i < dsts.length := by
        rcases Nat.lt_or_ge i dsts.length with h | h
        · exact h
        · unfold waitsL at hw
          rw [List.all_eq_true] at hw
          have := hw i (by simpa using hlt)
          rw [decide_eq_false (by omega), Bool.false_or, List.all_eq_true] at this
          have := this m0 (by simpa using hm0)
          rw [Bool.or_eq_true, List.contains_iff_mem] at this
          rcases this with h1 | h1
          · exact absurd h1 hm0e
          · have := reach_listed hcl _ _ _ h1 (fun m hm => ready_preds hi hm)
            rw [hmL] at this; cases this
      have hie : i ∈ early := by
        rcases hcov i hih with h1 | h1
        · exact h1
        · exact absurd ⟨i, h1, hi⟩ hlr
      refine wpOpIn_mono (fun a' w' h' => ⟨fun _ => trivial, ?_⟩) (hops i hie Q a w hI.ext hI.base fun j hj hjl => hI.all j (ready_preds hi hj))
      obtain ⟨v, rfl, hD, hx⟩ := h'
      exact grow i v w' hi hih hD hx

/-- **A region whose order is drawn, with operations that may come late.** -/
theorem sc_late {id : Nat} (l0 : Env) (dsts : List Nat) (Ds : List Pred) (tail early late : List Nat) (hm : P.follows .mixedOrders = true) (hs : Sub l0 l) (hc : hchk ops dsts tail n = true) (hk : keysFree l0 dsts = true) (hw : waitsL ops dsts.length late = true) (hlo : lateOk ops dsts.length early late = true)
    (htl : tail.length + dsts.length = ops.size) (htc : tchk ops tail (headL ops dsts.length) = true)
    (hDs : ∀ i v w w', Ds.getD i (fun _ _ => True) v w → Ext w w' → Ds.getD i (fun _ _ => True) v w')
    (hops : HOps r P n ds ops l0 w dsts Ds early) (hlate : HLates P n ds ops l0 w dsts Ds late)
    (htail : ∀ (vs : Nat → Value) (w1 : World), Ext w w1 → (∀ i, i < dsts.length → Ds.getD i (fun _ _ => True) (vs i) w1) →
      ∀ a, Ok n ds l0 a → (∀ i, i < dsts.length → a.tmps.getD (dsts.getD i 0) undef = vs i) → wpT r P ops (fun e a w => e = .normal ∧ q.nrm a w) tail a w1) :
    SC r P n ds (.region id ops true) q l w := fun a ha => by
  obtain ⟨h1, h2, h3⟩ := hfwd_spec hc
  refine wpIn_mono (Q := fun e a w => e = .normal ∧ q.nrm a w) ?_ (fun e a w hq => by obtain ⟨rfl, hq⟩ := hq; exact hq)
  refine wpIn_region_any hm ?_
  have hx0 : Ext w { w with drawn := w.drawn + 1 } := (Below.refl w.heap.size w).drew
  have key := late_any (r := r) (P := P) (Q := fun e a w => e = .normal ∧ q.nrm a w) (w0 := { w with drawn := w.drawn + 1 }) (l0 := l0) (n := n) (ds := ds) (ops := ops) (dsts := dsts) (Ds := Ds) (tail := tail) (early := early) (late := late) (fun e a w hne hq => hne hq.1) h2 (keysFree_spec hk) (by omega) h1 hw hlo htl htc
    (fun i hi Q a' w' hx' => hops.at_ i hi Q a' w' (hx0.tr hx')) (fun j hj a' w' hx' => hlate.at_ j hj a' w' (hx0.tr hx'))
    (fun a' w' hx hok hall => htail (fun i => a'.tmps.getD (dsts.getD i 0) undef) w' (hx0.tr hx) hall a' hok fun _ _ => rfl) hDs h3 dsts.length (Array.replicate ops.size false) a { w with drawn := w.drawn + 1 } ?_ ?_ ?_
  · rw [htl] at key; exact wpAny_of_E _ _ _ _ key
  · intro i j hi
    exfalso
    rw [Array.getD_eq_getD_getElem?] at hi
    by_cases h : i < ops.size
    · simp [h] at hi
    · simp [h] at hi
  · refine ⟨by simp, ?_, ha.sub hs, Ext.rfl' _, ?_⟩
    · intro i hi
      exfalso
      rw [Array.getD_eq_getD_getElem?] at hi
      by_cases h : i < ops.size
      · simp [h] at hi
      · simp [h] at hi
    · intro i hi
      exfalso
      rw [Array.getD_eq_getD_getElem?] at hi
      by_cases h : i < ops.size
      · simp [h] at hi
      · simp [h] at hi
  · rw [List.filter_eq_self.2]
    · simp
    · intro i _
      rw [Array.getD_eq_getD_getElem?]
      by_cases h : i < ops.size
      · simp [h]
      · simp [h]
variable {dsts : List Nat} {Ds : List Pred} {a : Act}
theorem l_ev (ha : Ok n ds l a) (ho : ops[i]? = some ⟨some d, o, ty, pos, aft, none⟩) (he : ∀ w, Ev P n ds l w o ty v w) (hdi : dsts.getD i 0 = d) (hD : Ds.getD i (fun _ _ => True) v w) :
    ∃ (v : Value) (o : Oper), Ds.getD i (fun _ _ => True) v w ∧ ops[i]? = some o ∧ o.dst = some (dsts.getD i 0) ∧ Yld P ops (fun _ => True) o v a :=
  ⟨v, _, hD, ho, by rw [hdi], .inl ⟨rfl, fun w' _ => he w' a _ _ _ _ ha⟩⟩
end
end Go.XK
