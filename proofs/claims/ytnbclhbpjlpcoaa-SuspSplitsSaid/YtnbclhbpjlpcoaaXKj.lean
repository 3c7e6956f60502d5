/- The calculus of the walks, part 10: a range over a function. My own text. -/
import Derived.Test.YtnbclhbpjlpcoaaXKi
import Derived.RangeFuncLeaves
set_option linter.unusedVariables false
set_option linter.unusedSimpArgs false
namespace Go.XK
open Go.RowKit
section
variable {r : Option Nat} {P : Program} {n m : Nat} {ds : List Deferred} {ops : Array Oper} {q : QQ} {l l0 : Env} {w w0 w1 : World} {rest : List Oper} {ty : TypeId} {pos : String} {aft : Array Edge} {d : Nat} {v : Value}

theorem wr_n {c : Code} {Q : Exit → Act → World → Prop} {a : Act} (k : Nat) (h : c.wpIn (WR r) m P Q a w) : c.wpIn (WR r) k P Q a w := fun b ks cs hro hb _ => h b ks cs hro hb (WR_room r _)
theorem wr_round {id : Nat} {f : FuncId} {tmps : Array Value} {asg bd : Code} {R : Ending → World → Prop} (k : Nat) (h : RoundIn (WR r) m P id f tmps asg bd w R) : RoundIn (WR r) k P id f tmps asg bd w R := ⟨h.1, fun c cs _ => h.2 c cs (WR_room r _)⟩
theorem wr_inRound (id : Nat) : (WR none).inRound id = WR (some id) := rfl

/-! ### The call of a yield function -/
theorem run_yieldop {a : Act} {id : Nat} {fop : Operand} {xs : List Operand} {vs : List Value} {tys : Array TypeId} {dst : Option Nat} {g : Option (Nat × Bool)} (ha : Ok n ds l a) (hf : val l fop = some (.func (.yield id) #[] #[])) (hx : vals l xs = some vs) {y : Next} (hy : (Instr.yield id vs.toArray).run P w = .ok y w) :
    (execOp a.eval ⟨dst, .call ⟨.value fop, xs.toArray, tys⟩, ty, pos, aft, g⟩).run P w = .ok y w := by
  simp only [execOp, resolve, List.map_toArray, ha.eval hf, ha.evals hx, Deferred.ofValue, Sem.run_bind, Sem.run_pure, Result.andThen_ok, invoke]
  simpa using hy
theorem sl_yield {id : Nat} {fop : Operand} {xs : List Operand} {vs : List Value} {tys : Array TypeId} {R : Value → World → Prop} (hf : val l fop = some (.func (.yield id) #[] #[])) (hx : vals l xs = some vs) (hY : YieldAt (WR r) m P id vs.toArray w fun e W' => ∃ v, e = .returned v ∧ R v W') (hd : d < n)
    (h : ∀ v w1, R v w1 → SL r P n ds ops q rest ((d, v) :: l) w1) : SL r P n ds ops q (⟨some d, .call ⟨.value fop, xs.toArray, tys⟩, ty, pos, aft, none⟩ :: rest) l w := fun a ha =>
  wpListIn_plain rfl fun K hK => by
    obtain ⟨fn, tmps, asg, bd, hy, hR⟩ := hY
    refine ⟨fun _ _ => trivial, ?_⟩
    rw [Oper.semAt_eq _ _ _ (plain_defer rfl), run_yieldop ha hf hx hy]
    refine ⟨fun h => by simp [WR] at h, RoundIn.mono (wr_round _ hR) ?_⟩
    rintro e w' ⟨v, rfl, hR⟩
    exact hK _ _ (h v w' hR _ (ha.put d v hd))

/-! ### The iterator's contract -/
/-- Function gf, called with a yield function (and its captured values lb), yields what S says, in order, asg long asg it is told to go on; the relation Kp of the worlds before and behind a round is all that it needs. -/
def Iter {α : Type} (P : Program) (gf : FuncId) (lb : List Value) (encs : α → List Value) (Kp : World → World → Prop) (S Sp : List α → Prop) (N : Nat) (w : World) : Prop :=
  SeqStopsK (WR none) 0 P gf lb.toArray (fun x => (encs x).toArray) Kp S Sp N w
theorem iter_of {α : Type} {gf : FuncId} {lb : List Value} {encs : α → List Value} {Kp : World → World → Prop} {S Sp : List α → Prop} {N : Nat}
    (h : ∀ (id : Nat) (J Jx : List α → World → Prop) (W : World), Below w.heap.size w W →
      (∀ pre x W1, J pre W1 → pre.length < N → YieldAt (WR none) 0 P id (encs x).toArray W1 fun e W' => ∃ v, e = .returned v ∧ ((v = .bool true ∧ J (pre ++ [x]) W' ∧ Kp W1 W') ∨ (v = .bool false ∧ Jx (pre ++ [x]) W'))) →
      J [] W → CallR P gf ([.func (.yield id) #[] #[]] ++ lb) W fun v W' => (∃ xs, S xs ∧ J xs W') ∨ (∃ pre, Sp pre ∧ Jx pre W')) : Iter P gf lb encs Kp S Sp N w := by
  intro id J Jx W hW _ _ hY h0
  have hY' : ∀ pre x W1, J pre W1 → pre.length < N → YieldAt (WR none) 0 P id (encs x).toArray W1 fun e W' => ∃ v, e = .returned v ∧ ((v = .bool true ∧ J (pre ++ [x]) W' ∧ Kp W1 W') ∨ (v = .bool false ∧ Jx (pre ++ [x]) W')) := fun pre x W1 hj hl => by
    obtain ⟨fn, tmps, asg, bd, hy, hR⟩ := hY pre x W1 hj hl
    refine ⟨fn, tmps, asg, bd, hy, hR.mono ?_⟩
    rintro e w' (⟨rfl, h1⟩ | ⟨rfl, h1⟩)
    · exact ⟨_, rfl, .inl ⟨rfl, h1⟩⟩
    · exact ⟨_, rfl, .inr ⟨rfl, h1⟩⟩
  have hc := h id J Jx W hW hY' h0
  have hc2 : Calls P gf (#[.func (.yield id) #[] #[]] ++ lb.toArray) W fun e W' => (∃ v, e = .returned v) ∧ ((∃ xs, S xs ∧ J xs W') ∨ (∃ pre, Sp pre ∧ Jx pre W')) := by
    have : (#[Value.func (.yield id) #[] #[]] ++ lb.toArray : Array Value) = ([Value.func (.yield id) #[] #[]] ++ lb).toArray := by simp
    rw [this]
    exact Calls.mono hc fun e w' ⟨v, he, hR⟩ => ⟨⟨v, he⟩, hR⟩
  exact (WR_calls (r := none) (n := 0)).2 hc2

/-! ### The loop -/
def mark (D : Nat) : Deferred := { target := .collected D, args := #[] }
theorem Ok.params : ∀ (pv : List (Nat × Value)) {l : Env} {a : Act}, Ok n ds l a → (∀ p ∈ pv, p.1 < n) → Ok n [] (pv.reverse ++ l) { tmps := pv.foldl (fun t (p, v) => t.setIfInBounds p v) a.tmps, defers := [] }
  | [], l, a, h, _ => ⟨rfl, h.size, h.get⟩
  | (p, v) :: pv, l, a, h, hn => by
    have h1 := Ok.params pv (h.put p v (hn (p, v) (by simp))) (fun x hx => hn x (by simp [hx]))
    simpa [Act.put] using h1
/-- A range over a function, not within a round; its body ends normally or by 'ret'. -/
theorem sc_rangeF {α : Type} {g : Operand} {ps : List Tmp} {assign body : Code} {gf : FuncId} {lb : List Value} (encs : α → List Value) (Kp : World → World → Prop) (S Sp : List α → Prop) (N : Nat) (I : List α → World → Prop) (Ix : List α → World → Prop) (l1 : α → Env)
    (hg : val l g = some (.func (.func gf) #[] lb.toArray)) (he : Ent P gf) (hseq : Iter P gf lb encs Kp S Sp N w) (hps : ∀ x, (encs x).length = ps.length) (hpn : ∀ p ∈ ps, p < n)
    (hKt : ∀ {A B C : World}, Kp A B → Kp B C → Kp A C) (hKb : ∀ (W : World) (k : Nat) (o o' : Obj), w.heap.size ≤ k → W.heap[k]? = some o → o.isCells = false → Kp W (W.putObj k o')) (hKr : ∀ W, Kp W W)
    (hI : OwnFrom w.heap.size I) (hIx : OwnFrom w.heap.size Ix) (h0 : I [] w)
    (hassign : ∀ (id : Nat) (x : α) (W : World), SC (some id) P n [] assign ⟨fun a' W' => W' = W ∧ Ok n [] (l1 x) a', fun _ _ => False, []⟩ ((ps.zip (encs x)).reverse ++ l) W)
    (hbody : ∀ (id : Nat) (pre : List α) (x : α) (W : World), I pre W → pre.length < N → SC (some id) P n [] body ⟨fun _ W' => KeepsFrom w.heap.size W W' ∧ Kp W W' ∧ I (pre ++ [x]) W', fun _ W' => KeepsFrom w.heap.size W W' ∧ Ix (pre ++ [x]) W', []⟩ (l1 x) W)
    (hdone : ∀ (D : Nat) (xs : List α) (W : World), w.heap.size ≤ D → S xs → I xs W → W.heap[D]? = some (.deferred (some [])) → ∀ a, Ok n (mark D :: ds) l a → q.nrm a W)
    (hret : ∀ (D : Nat) (pre : List α) (W : World), w.heap.size ≤ D → Sp pre → Ix pre W → W.heap[D]? = some (.deferred (some [])) → ∀ a, Ok n (mark D :: ds) l a → q.ret a W) :
    SC none P n ds (.rangeFunc g ps.toArray assign body) q l w := fun a ha => by
  refine wr_n 0 (m := 2) ?_
  refine wpIn_rangeFunc_ownH (F := WR none) (n := 2) (P := P) (α := α) rfl (by omega) (gf := gf) (lb := lb.toArray) (ha.eval hg) trivial he (encs := fun x => (encs x).toArray) (Kp := Kp) (S := S) (Sp := Sp) (N := N) (w0 := w) ?_
    hKt (fun W k o o' hk ho hc _ => hKb W k o o' hk ho hc) (Below.refl _ _) (fun x => by simpa using hps x) I (fun c pre W => c = .ret ∧ Ix pre W) hI ?_ h0 (fun x a' _ => Ok n [] (l1 x) a') (fun x a' => ownFrom_pure _ _) ?_ ?_ ?_ ?_
  · intro id J Jx W hW hJ hJx hY hj
    have := hseq id J Jx W hW hJ hJx (fun pre x W1 h1 h2 => by
      obtain ⟨fn, tmps, asg, bd, hy, hR⟩ := hY pre x W1 h1 h2
      exact ⟨fn, tmps, asg, bd, hy, wr_round _ hR⟩) hj
    exact (WR_calls (r := none) (n := 2 - 1)).2 ((WR_calls (r := none) (n := 0)).1 this)
  · rintro c s A B row ⟨hc, hs⟩ hg2 hr
    exact ⟨hc, hIx s A B row hs hg2 hr⟩
  · intro id pre x W K hi hK
    have hz : ((ps.toArray.zip (encs x).toArray).foldl (fun t (p, v) => t.setIfInBounds p v) a.tmps) = ((ps.zip (encs x)).foldl (fun t (p, v) => t.setIfInBounds p v) a.tmps) := by simp
    have h1 := hassign id x W _ (Ok.params (ps.zip (encs x)) ha (fun p hp => hpn p.1 (List.of_mem_zip hp).1))
    rw [hz]
    refine wr_n (r := some id) 0 (m := 0) (wpIn_mono h1 ?_)
    intro e a' W' hq
    cases e with
    | normal => obtain ⟨rfl, hok⟩ := hq; exact hK a' W' (KeepsFrom.refl _ _) (hKr _) hi hok
    | ret => exact hq.elim
    | exit id => simp [QQ.fn] at hq
    | goto t => exact hq.elim
    | panic c => exact hq.elim
    | outgrown => exact hq.elim
  · intro id pre x a' W _ _ hi hok hlt
    refine wr_n (r := some id) 0 (m := 0) (wpIn_mono (hbody id pre x W hi hlt a' hok) ?_)
    intro e a' W' hq
    cases e with
    | normal => exact hq
    | ret => exact ⟨hq.1, rfl, hq.2⟩
    | exit id => simp [QQ.fn] at hq
    | goto t => exact hq.elim
    | panic c => exact hq.elim
    | outgrown => exact hq.elim
  · intro D xs W hD hS hi hd
    exact hdone D xs W hD hS hi hd _ ⟨by rw [ha.defers]; rfl, ha.size, ha.get⟩
  · rintro D c pre W hD hS ⟨rfl, hx⟩ hd
    exact wpIn_ret (hret D pre W hD hS hx hd _ ⟨by rw [ha.defers]; rfl, ha.size, ha.get⟩)

/-! ### A function that holds such a loop -/
def FINM (P : Program) (fn : Func) (R : Value → World → Prop) : Act → World → Prop := fun a w =>
  (a.defers = [] ∧ ∃ v, (results fn a.tmps).run P w = .ok v w ∧ R v w) ∨
  (∃ D, a.defers = [mark D] ∧ w.heap[D]? = some (.deferred (some [])) ∧ ∃ v, (results fn a.tmps).run P (w.putObj D (.deferred none)) = .ok v (w.putObj D (.deferred none)) ∧ R v (w.putObj D (.deferred none)))
theorem callR_ofM {f : FuncId} {fn : Func} {c : Code} {args : List Value} {R : Value → World → Prop} (l0 : Env) (hf : P.funcs[f]? = some fn) (hb : fn.body = some c) (hn : fn.ntmps = n) (ha : args.length ≤ n) (hl : argEnv 0 args = l0)
    (h : SC none P n [] c ⟨FINM P fn R, FINM P fn R, []⟩ l0 w) : CallR P f args w R := by
  subst hl
  refine (WR_calls (r := none) (n := 0)).1 ?_
  refine callsIn_of_wp_marks hf hb trivial ?_ rfl
  rw [hn]
  have fin : ∀ a w, FINM P fn R a w → LeavesInM (WR none) 0 P fn a.tmps (fun e w' => ∃ v, e = .returned v ∧ R v w') a.defers .returning w := by
    rintro a w (⟨hd, v, hr, hR⟩ | ⟨D, hd, hD, v, hr, hR⟩)
    · rw [hd]; exact ⟨v, hr, v, rfl, hR⟩
    · rw [hd]; exact ⟨by simp, .inl ⟨D, _, rfl, run_takeDeferred hD, v, hr, v, rfl, hR⟩⟩
  refine wpIn_mono (h _ (Ok.start ha)) fun e a w hq => ?_
  cases e with
  | normal => exact fin a w hq
  | ret => exact fin a w hq
  | exit id => simp [QQ.fn] at hq
  | goto l => exact hq.elim
  | panic c => exact hq.elim
  | outgrown => exact hq.elim
theorem fin_plain {fn : Func} {R : Value → World → Prop} (h : ∀ a, Ok n [] l a → FIN P fn R a w) : ∀ a, Ok n [] l a → FINM P fn R a w := fun a ha => .inl (h a ha)
theorem fin_mark {fn : Func} {R : Value → World → Prop} {D : Nat} (hD : w.heap[D]? = some (.deferred (some []))) (h : ∀ a, Ok n [] l a → FIN P fn R a (w.putObj D (.deferred none))) : ∀ a, Ok n (mark D :: []) l a → FINM P fn R a w := fun a ha => by
  obtain ⟨_, v, hr, hR⟩ := h { a with defers := [] } ⟨rfl, ha.size, ha.get⟩
  exact .inr ⟨D, ha.defers, hD, v, hr, hR⟩
theorem sc_retM {fn : Func} {R : Value → World → Prop} (hq : q.ret = FINM P fn R) (h : ∀ a, Ok n [] l a → FIN P fn R a w) : SC r P n [] .ret q l w := sc_ret fun a ha => by rw [hq]; exact .inl (h a ha)
theorem mut_put (w : World) (D : Nat) (o : Obj) : Mut w (w.putObj D o) D := grownBy_putObj' w D o
theorem Blk.ne_of {b D : Nat} {t : TypeId} {cs : List Value} {o : Obj} (h : Blk w b t cs) (hD : w.heap[D]? = some o) (hc : o.isCells = false) : b ≠ D := by
  rintro rfl
  unfold Blk at h
  rw [h] at hD; cases hD; cases hc
theorem own_ne_of {α : Type} {enc : α → List Value} {base kk D : Nat} {e : TypeId} {v : Value} {xs : List α} {o : Obj} (h : Own w base e kk enc v xs) (hD : w.heap[D]? = some o) (hc : o.isCells = false) : v.ownBlock ≠ some D := by
  intro hv
  rcases h.2 with ⟨rfl, _⟩ | ⟨g, cap, cur, rfl, _, hh, _⟩
  · simp [Value.ownBlock] at hv
  · have : g = D := by simpa [Value.ownBlock] using hv
    subst this
    rw [hh] at hD; cases hD; cases hc
/-- What is no cells lies asg it lay. -/
def NC (w w' : World) : Prop := w.heap.size ≤ w'.heap.size ∧ ∀ (k : Nat) (o : Obj), w.heap[k]? = some o → o.isCells = false → w'.heap[k]? = some o
theorem NC.rfl' (w : World) : NC w w := ⟨Nat.le_refl _, fun _ _ h _ => h⟩
theorem NC.tr {a b c : World} (h : NC a b) (k : NC b c) : NC a c := ⟨Nat.le_trans h.1 k.1, fun i o hi ho => k.2 i o (h.2 i o hi ho) ho⟩
theorem NC.ofExt {w w' : World} (h : Ext w w') : NC w w' := ⟨h.size, fun k o hk _ => h.blk hk⟩
theorem NC.ofMut {w w' : World} {b : Nat} {t : TypeId} {cs : List Value} (h : Mut w w' b) (hb : Blk w b t cs) : NC w w' := ⟨h.size, fun k o hk ho => h.blk hk (fun e => by subst e; exact hb.ne_of hk ho rfl)⟩
theorem NC.ofOwn {α : Type} {enc : α → List Value} {base kk : Nat} {e : TypeId} {w w' : World} {v : Value} {xs : List α} (h : Own w base e kk enc v xs) (hg : w.grownBy w' v.ownBlock) : NC w w' := ⟨hg.size, fun k o hk ho => (hg.block k (Array.getElem?_eq_some_iff.1 hk).1 (fun e => own_ne_of h hk ho e.symm)).trans hk⟩
theorem NC.keeps {w w' : World} (h : NC w w') (B : Nat) : KeepsFrom B w w' := ⟨h.1, fun k o _ hk ho => h.2 k o hk ho⟩
end
end Go.XK
namespace Go.XK
open Go.RowKit
section
variable {r : Option Nat} {P : Program} {n : Nat} {ds : List Deferred} {ops : Array Oper} {q : QQ} {l : Env} {w w0 w' : World} {ty t t2 e : TypeId} {pos : String} {aft : Array Edge} {d i : Nat} {v : Value} {x y : Operand} {b kk D B : Nat} {cs : List Value} {α : Type} {enc : α → List Value} {xs : List α} {tail : List Nat} {row : Option Nat}
theorem st_appendLit {w0 : World} {z : Value} {bytes m : Nat} (hop : ops[i]? = some ⟨some d, .call ⟨.builtin .append, #[x, y], #[t, t]⟩, ty, pos, aft, none⟩) (hx : val l x = some v) (hy : val l y = some (.slice (some ⟨b, 0, none⟩) m m)) (ht : P.underlying t = some (.slice e)) (hi : (P.info? e).map (fun i => (i.zero, i.size, i.bytes)) = some (some z, kk, bytes)) (hz : z.cells.size = kk) (hk0 : 0 < kk) (hk : ∀ x, (enc x).length = kk) (h1 : ∀ x, ∀ u ∈ enc x, u.oneCell' = true)
    (ys : List α) (ho : Own w w0.heap.size e kk enc v xs) (hext : Ext w0 w) (hb : Blk w b t2 cs) (hcs : ys.flatMap enc = cs) (hm : ys.length = m) (hlen : xs.length + m ≤ maxLen) (hbytes : (xs.length + m) * bytes ≤ 140737488355328)
    (h : ∀ v' w1, Own w1 w0.heap.size e kk enc v' (xs ++ ys) → Ext w0 w1 → w.grownBy w1 v.ownBlock → ST r P n ds ops q tail ((d, v') :: l) w1) (hd : d < n := by decide) : ST r P n ds ops q (i :: tail) l w := by
  subst hcs
  obtain ⟨v', w1, hr, ho', hg, hat, _⟩ := Own.append (P := P) (ty := ty) (A := ⟨b, 0, none⟩) (c := m) ht hi hz hk0 hk h1 ho hm (fun j u hj => by rw [add0, Nat.zero_add]; exact hb.cell hj) (Below.size hext) hlen hbytes
  exact st_ev hop (e_append hx hy hr) (h v' w1 ho' (hext.grown ho hg) hg) rfl hd
/-- Block b lies as it lay. -/
def KpB (b : Nat) (W W' : World) : Prop := ∀ (cs : Array Value) (t : TypeId) (fz : Nat × Nat), W.heap[b]? = some (.cells cs t fz) → W'.heap[b]? = some (.cells cs t fz)
theorem KpB.tr {b : Nat} {X Y Z : World} (h : KpB b X Y) (k : KpB b Y Z) : KpB b X Z := fun cs t fz hc => k cs t fz (h cs t fz hc)
theorem KpB.rfl' {b : Nat} (W : World) : KpB b W W := fun _ _ _ h => h
theorem KpB.put {b B : Nat} (W : World) (k : Nat) (o o' : Obj) (_ : B ≤ k) (hk : W.heap[k]? = some o) (hc : o.isCells = false) : KpB b W (W.putObj k o') := fun cs t fz h => by
  rw [World.putObj_heap_other (fun e => ?_)]
  · exact h
  · subst e; rw [h] at hk; cases hk; cases hc
theorem KpB.of {b : Nat} {W W' : World} {t : TypeId} {cs : List Value} (h : Blk W b t cs) (h' : Blk W' b t cs) : KpB b W W' := fun c u fz hc => by
  unfold Blk at h h'
  rw [h] at hc; cases hc; exact h'
theorem KpB.blk {b : Nat} {W W' : World} {t : TypeId} {cs : List Value} (h : KpB b W W') (hb : Blk W b t cs) : Blk W' b t cs := h _ _ _ hb
/-- A step that turns a block that is no cells. -/
def Rowed (D : Nat) (w : World) (row : Option Nat) : Prop := ∀ r, row = some r → D ≤ r ∧ ∃ o : Obj, w.heap[r]? = some o ∧ o.isCells = false
theorem Blk.rowed (h : Blk w b t cs) (hg : w.grownBy w' row) (hr : Rowed D w row) : Blk w' b t cs := h.grown hg (fun e => by obtain ⟨_, o, ho, hc⟩ := hr _ e; exact h.ne_of ho hc rfl)
theorem Own.rowed (h : Own w B e kk enc v xs) (hg : w.grownBy w' row) (hr : Rowed D w row) : Own w' B e kk enc v xs := World.ownsRow.kept h hg (by
  rcases row with _ | g
  · cases hv : v.ownBlock <;> simp
  · obtain ⟨_, o, ho, hc⟩ := hr g rfl
    exact .inr (own_ne_of h ho hc))
theorem ext_rowed (h : Ext w0 w) (hg : w.grownBy w' row) (hr : Rowed D w row) (hD : w0.heap.size ≤ D) : Ext w0 w' := Below.grown h hg (Below.size h) (fun k e => Nat.le_trans hD (hr k e).1)
end
end Go.XK
namespace Go.XK
theorem sc_retMk {r : Option Nat} {P : Program} {n : Nat} {q : QQ} {l : Env} {w : World} {fn : Func} {R : Value → World → Prop} {D : Nat} (hq : q.ret = FINM P fn R) (hD : w.heap[D]? = some (.deferred (some []))) (h : ∀ a, Ok n [] l a → FIN P fn R a (w.putObj D (.deferred none))) : SC r P n (mark D :: []) .ret q l w :=
  sc_ret fun a ha => by rw [hq]; exact fin_mark hD h a ha
end Go.XK
namespace Go.XK
theorem fin_markq {P : Program} {n : Nat} {l : Env} {w : World} {fn : Func} {R : Value → World → Prop} {D : Nat} {p : Act → World → Prop} (hq : p = FINM P fn R) (hD : w.heap[D]? = some (.deferred (some []))) (h : ∀ a, Ok n [] l a → FIN P fn R a (w.putObj D (.deferred none))) : ∀ a, Ok n (mark D :: []) l a → p a w := by
  rw [hq]; exact fin_mark hD h
theorem own_cells {α : Type} {enc : α → List Value} {w : World} {base kk : Nat} {e : TypeId} {v : Value} {xs : List α} (h : Own w base e kk enc v xs) : v.cells = [v].toArray ∧ [v].all (·.oneCell') = true := by
  rcases h.2 with ⟨rfl, _⟩ | ⟨g, cap, cur, rfl, _⟩ <;> exact ⟨rfl, rfl⟩
end Go.XK
