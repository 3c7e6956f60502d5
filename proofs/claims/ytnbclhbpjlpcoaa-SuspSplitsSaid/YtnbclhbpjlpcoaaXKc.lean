/- The calculus of the walks, part 3: calls, functions, returns, regions that draw their order. My own text. -/
import Derived.Test.YtnbclhbpjlpcoaaXKb
set_option linter.unusedVariables false
set_option linter.unusedSimpArgs false
namespace Go.XK
open Go.RowKit

/-- A call that returns: the value and the world behind it. -/
def CallR (P : Program) (f : FuncId) (args : List Value) (w : World) (R : Value → World → Prop) : Prop := Calls P f args.toArray w fun e w' => ∃ v, e = .returned v ∧ R v w'
theorem CallR.mono {P : Program} {f : FuncId} {args : List Value} {w : World} {R R' : Value → World → Prop} (h : CallR P f args w R) (hr : ∀ v w', R v w' → R' v w') : CallR P f args w R' :=
  Calls.mono h fun _ _ ⟨v, he, hR⟩ => ⟨v, he, hr _ _ hR⟩

/-- What a body must bring about. -/
def FIN (P : Program) (fn : Func) (R : Value → World → Prop) : Act → World → Prop := fun a w => a.defers = [] ∧ ∃ v, (results fn a.tmps).run P w = .ok v w ∧ R v w

def argEnv : Nat → List Value → Env
  | _, [] => []
  | i, v :: vs => (i, v) :: argEnv (i + 1) vs
theorem argEnv_get : ∀ (args : List Value) (i t : Nat) (v : Value), (argEnv i args).lookup t = some v → i ≤ t ∧ args[t - i]? = some v
  | [], _, _, _, h => by simp [argEnv] at h
  | u :: us, i, t, v, h => by
    simp only [argEnv, List.lookup_cons] at h
    by_cases e : t = i
    · subst e; simp at h; subst h; simp
    · rw [show (t == i) = false from by simpa using e] at h
      obtain ⟨h1, h2⟩ := argEnv_get us (i + 1) t v h
      refine ⟨by omega, ?_⟩
      rw [show t - i = (t - (i + 1)) + 1 from by omega]
      simpa using h2
theorem Ok.start {n : Nat} {args : List Value} (h : args.length ≤ n) : Ok n [] (argEnv 0 args) { tmps := args.toArray ++ Array.replicate (n - args.toArray.size) undef, defers := [] } := by
  refine ⟨rfl, by simp; omega, fun t v hv => ?_⟩
  obtain ⟨_, h2⟩ := argEnv_get args 0 t v hv
  simp only [Nat.sub_zero] at h2
  have hlt : t < args.length := by
    rcases Nat.lt_or_ge t args.length with h' | h'
    · exact h'
    · rw [List.getElem?_eq_none h'] at h2; cases h2
  rw [Array.getD_eq_getD_getElem?, Array.getElem?_append_left (by simpa using hlt)]
  simp [h2]
section
variable {P : Program} {n : Nat} {l : Env} {w : World}
theorem callR_of {f : FuncId} {fn : Func} {c : Code} {args : List Value} {R : Value → World → Prop} (l0 : Env) (hf : P.funcs[f]? = some fn) (hb : fn.body = some c) (hn : fn.ntmps = n) (ha : args.length ≤ n) (hl : argEnv 0 args = l0)
    (h : SC none P n [] c ⟨FIN P fn R, FIN P fn R, []⟩ l0 w) : CallR P f args w R := by
  subst hl
  refine (WR_calls (r := none) (n := 0)).1 ?_
  refine callsIn_of_wp hf hb trivial ?_ rfl
  rw [hn]
  refine wpIn_mono (h _ (Ok.start ha)) fun e a w hq => ?_
  cases e with
  | normal => obtain ⟨hd, v, hr, hR⟩ := hq; exact ⟨hd, v, hr, v, rfl, hR⟩
  | ret => obtain ⟨hd, v, hr, hR⟩ := hq; exact ⟨hd, v, hr, v, rfl, hR⟩
  | exit id => simp [QQ.fn] at hq
  | goto l => exact hq.elim
  | panic c => exact hq.elim
  | outgrown => exact hq.elim

/-- A result's value. -/
def RV (P : Program) (l : Env) (w : World) : ResultVar → Value → Prop
  | .tmp t, v => l.lookup t = some v
  | .cell a t, v => ∃ ad, l.lookup a = some (.pointer (some ad)) ∧ (loadVar t ad).run P w = .ok v w
theorem rvt {t : Nat} {v : Value} (h : l.lookup t = some v) : RV P l w (.tmp t) v := h
theorem rvc {b : Nat} {t : TypeId} {ad : Addr} {v : Value} (h : l.lookup b = some (.pointer (some ad))) (hl : (loadVar t ad).run P w = .ok v w) : RV P l w (.cell b t) v := ⟨ad, h, hl⟩
def rvSem (tmps : Array Value) : ResultVar → Sem Value
  | .tmp t => pure (tmps.getD t undef)
  | .cell b t => do loadVar t (← asAddr (tmps.getD b undef))
theorem RV.run {ds : List Deferred} {a : Act} {x : ResultVar} {v : Value} (h : RV P l w x v) (ha : Ok n ds l a) : (rvSem a.tmps x).run P w = .ok v w := by
  cases x with
  | tmp t => simp only [RV] at h; simp only [rvSem, ha.get t v h, Sem.run_pure]
  | cell b t =>
    obtain ⟨ad, h1, h2⟩ := h
    simp only [rvSem, ha.get b _ h1, asAddr, Sem.run_bind, Sem.run_pure, Result.andThen_ok, h2]
theorem results_rv (fn : Func) (tmps : Array Value) : results fn tmps = (do
    let vs ← fn.results.mapM (rvSem tmps)
    pure (if h : vs.size = 1 then vs[0] else .tuple vs)) := by
  unfold results
  congr 1
variable {fn : Func} {R : Value → World → Prop} {x1 x2 x3 : ResultVar} {v1 v2 v3 : Value}
theorem ret0 (hres : fn.results = #[]) (hR : R (.tuple #[]) w) : ∀ a, Ok n [] l a → FIN P fn R a w := fun a ha => by
  refine ⟨ha.defers, .tuple #[], ?_, hR⟩
  simp [results, hres]
theorem ret1 (hres : fn.results = #[x1]) (h1 : RV P l w x1 v1) (hR : R v1 w) : ∀ a, Ok n [] l a → FIN P fn R a w := fun a ha => by
  refine ⟨ha.defers, v1, ?_, hR⟩
  have h1 := h1.run ha
  rw [results_rv, hres]
  simp [h1]
theorem ret2 (hres : fn.results = #[x1, x2]) (h1 : RV P l w x1 v1) (h2 : RV P l w x2 v2) (hR : R (.tuple #[v1, v2]) w) : ∀ a, Ok n [] l a → FIN P fn R a w := fun a ha => by
  refine ⟨ha.defers, .tuple #[v1, v2], ?_, hR⟩
  have h1 := h1.run ha
  have h2 := h2.run ha
  rw [results_rv, hres]
  simp [h1, h2]
theorem ret3 (hres : fn.results = #[x1, x2, x3]) (h1 : RV P l w x1 v1) (h2 : RV P l w x2 v2) (h3 : RV P l w x3 v3) (hR : R (.tuple #[v1, v2, v3]) w) : ∀ a, Ok n [] l a → FIN P fn R a w := fun a ha => by
  refine ⟨ha.defers, .tuple #[v1, v2, v3], ?_, hR⟩
  have h1 := h1.run ha
  have h2 := h2.run ha
  have h3 := h3.run ha
  rw [results_rv, hres]
  simp [h1, h2, h3]
end

section
variable {r : Option Nat} {P : Program} {n : Nat} {ds : List Deferred} {ops : Array Oper} {q : QQ} {l : Env} {w w1 : World} {rest : List Oper} {ty : TypeId} {pos : String} {aft : Array Edge} {d : Nat} {v : Value} {g : Option (Nat × Bool)} {dst : Option Nat}

theorem sc_retf {fn : Func} {R : Value → World → Prop} (hq : q.ret = FIN P fn R) (h : ∀ a, Ok n ds l a → FIN P fn R a w) : SC r P n ds .ret q l w := sc_ret fun a ha => by rw [hq]; exact h a ha
theorem nrm_f {fn : Func} {R : Value → World → Prop} (hq : q.nrm = FIN P fn R) (h : ∀ a, Ok n ds l a → FIN P fn R a w) : ∀ a, Ok n ds l a → q.nrm a w := fun a ha => by rw [hq]; exact h a ha

/-! ### A call -/
/-- Function f has a body: a call of it enters it. -/
def Ent (P : Program) (f : FuncId) : Prop := ∀ args w, (callFunc f args).run P w = .ok (.enter f args) w
theorem run_callop {a : Act} {f : FuncId} {fop : Operand} {xs : List Operand} {vs caps : List Value} {tys : Array TypeId} (he : Ent P f) (ha : Ok n ds l a) (hf : val l fop = some (.func (.func f) #[] caps.toArray)) (hx : vals l xs = some vs) :
    (execOp a.eval ⟨dst, .call ⟨.value fop, xs.toArray, tys⟩, ty, pos, aft, g⟩).run P w = .ok (.enter f (vs ++ caps).toArray) w := by
  simp only [execOp, resolve, List.map_toArray, ha.eval hf, ha.evals hx, Deferred.ofValue, Sem.run_bind, Sem.run_pure, Result.andThen_ok, invoke]
  rw [he]
  simp
theorem wpIn_call {a : Act} {Q : Exit → Act → World → Prop} {K : Act → World → Prop} {f : FuncId} {fop : Operand} {xs : List Operand} {vs caps : List Value} {tys : Array TypeId} {R : Value → World → Prop} (he : Ent P f) (ha : Ok n ds l a)
    (hf : val l fop = some (.func (.func f) #[] caps.toArray)) (hx : vals l xs = some vs) (hc : CallR P f (vs ++ caps) w R) (hk : ∀ v w1, R v w1 → K (a.put dst v) w1) :
    Oper.wpIn (WR r) 0 P ⟨dst, .call ⟨.value fop, xs.toArray, tys⟩, ty, pos, aft, g⟩ a w K Q := by
  refine ⟨fun _ _ => trivial, ?_⟩
  rw [Oper.semAt_eq _ _ _ (plain_defer rfl), run_callop he ha hf hx]
  refine ⟨fun h => by simp [WR] at h, ?_⟩
  refine WR_calls.2 (Calls.mono hc ?_)
  rintro e w' ⟨v, rfl, hR⟩
  exact hk v w' hR
theorem sl_call {f : FuncId} {fop : Operand} {xs : List Operand} {vs caps : List Value} {tys : Array TypeId} {R : Value → World → Prop} (he : Ent P f) (hf : val l fop = some (.func (.func f) #[] caps.toArray)) (hx : vals l xs = some vs) (hc : CallR P f (vs ++ caps) w R) (hd : d < n)
    (h : ∀ v w1, R v w1 → SL r P n ds ops q rest ((d, v) :: l) w1) : SL r P n ds ops q (⟨some d, .call ⟨.value fop, xs.toArray, tys⟩, ty, pos, aft, none⟩ :: rest) l w := fun a ha =>
  wpListIn_plain rfl fun K hK => wpIn_call he ha hf hx hc fun v w1 hR => hK _ _ (h v w1 hR _ (ha.put d v hd))
theorem sl_gcall {j t : Nat} {b want : Bool} (hs : guardSlot ops j = some t) (hb : l.lookup t = some (.bool b)) (hw : b = want) {f : FuncId} {fop : Operand} {xs : List Operand} {vs caps : List Value} {tys : Array TypeId} {R : Value → World → Prop} (he : Ent P f) (hf : val l fop = some (.func (.func f) #[] caps.toArray)) (hx : vals l xs = some vs) (hc : CallR P f (vs ++ caps) w R) (hd : d < n)
    (h : ∀ v w1, R v w1 → SL r P n ds ops q rest ((d, v) :: l) w1) : SL r P n ds ops q (⟨some d, .call ⟨.value fop, xs.toArray, tys⟩, ty, pos, aft, some (j, want)⟩ :: rest) l w := fun a ha => by
  refine wpListIn_step fun K hK => ?_
  rw [ha.wanted (o := ⟨some d, .call ⟨.value fop, xs.toArray, tys⟩, ty, pos, aft, some (j, want)⟩) rfl hs hb, hw]
  rw [if_pos (by cases want <;> rfl)]
  exact wpIn_call he ha hf hx hc fun v w1 hR => hK _ _ (h v w1 hR _ (ha.put d v hd))

/-! ### A region whose order is drawn -/
/-- In every world that meets S the operation leaves v. -/
def Yld (P : Program) (ops : Array Oper) (S : World → Prop) (o : Oper) (v : Value) (a : Act) : Prop :=
  (Region.wanted o (yielded ops a.tmps) = true ∧ ∀ w, S w → (execOp a.eval o).run P w = .ok (.value v) w) ∨ (Region.wanted o (yielded ops a.tmps) = false ∧ v = undef)
theorem Yld.same {S : World → Prop} {o : Oper} {a a' : Act} (hy : Yld P ops S o v a) (he : execOp a'.eval o = execOp a.eval o) (hw : Region.wanted o (yielded ops a'.tmps) = Region.wanted o (yielded ops a.tmps)) : Yld P ops S o v a' := by
  unfold Yld at *
  rw [he, hw]
  exact hy
def plainAll (ops : Array Oper) : Bool := ops.all fun o => plain o.op
theorem plainAll_at (h : plainAll ops = true) {j : Nat} {o : Oper} (ho : ops[j]? = some o) : plain o.op = true := Array.all_eq_true_iff_forall_mem.1 h o (Array.mem_of_getElem? ho)
abbrev opOne (r : Option Nat) (P : Program) (ops : Array Oper) (Q : Exit → Act → World → Prop) (i : Nat) (K : Act → World → Prop) (a : Act) (w : World) : Prop := wpOpIn (WR r) 0 P ops Q i K a w
theorem Yld.one {Q : Exit → Act → World → Prop} {S : World → Prop} {i : Nat} {o : Oper} {a : Act} (hi : ops[i]? = some o) (hp : plain o.op = true) (hy : Yld P ops S o v a) {K : Act → World → Prop} (hS : S w) (h : K (a.put o.dst v) w) : opOne r P ops Q i K a w := by
  unfold opOne wpOpIn
  rw [hi]
  dsimp only
  rcases hy with ⟨hw, hv⟩ | ⟨hw, rfl⟩
  · rw [if_pos hw]
    refine ⟨fun _ _ => trivial, ?_⟩
    rw [Oper.semAt_eq _ _ _ (plain_defer hp), hv w hS]
    exact h
  · rw [if_neg (by simp [hw])]
    exact ⟨fun _ _ => trivial, h⟩
/-- Another operation, apart from this one: the value makes no difference to it. -/
theorem one_put {Q : Exit → Act → World → Prop} {S : World → Prop} {j : Nat} {oi oj : Oper} (hj : ops[j]? = some oj) (hap : oi.apart ops oj = true) (hpi : plain oi.op = true) (hpj : plain oj.op = true)
    (hQ : ∀ e a w, e ≠ .normal → ¬ Q e a w) {K : Act → World → Prop} {a : Act} (hy : Yld P ops S oi v a) (h : opOne r P ops Q j K (a.put oi.dst v) w) :
    opOne r P ops Q j (fun a' w' => Yld P ops S oi v a' ∧ K (a'.put oi.dst v) w') a w := by
  obtain ⟨h1, h2, h3⟩ := Oper.apart_spec hap
  have keep : ∀ u, Yld P ops S oi v (a.put oj.dst u) := fun u => hy.same (execOp_put oi (plain_select hpi) a oj.dst u h3) (wanted_put oi a oj.dst u h3)
  unfold opOne wpOpIn at *
  simp only [hj] at *
  rw [wanted_put oj a oi.dst v h1] at h
  split
  · rename_i hw
    rw [if_pos hw] at h
    refine ⟨fun _ _ => trivial, ?_⟩
    have h' := h.2
    rw [Oper.semAt_eq _ _ _ (plain_defer hpj)] at h' ⊢
    rw [execOp_put oj (plain_select hpj) a oi.dst v h1] at h'
    generalize (execOp a.eval oj).run P w = res at *
    cases res with
    | ok x w' =>
      cases x <;> simp only [Oper.uponIn] at h' ⊢
      case value u => exact ⟨keep u, by rw [← Act.put_comm a v u h2]; exact h'⟩
      case skip => exact ⟨keep _, by rw [← Act.put_comm a v undef h2]; exact h'⟩
      case defer d' =>
        refine ⟨?_, ?_⟩
        · exact Yld.same (a := a.put oj.dst undef) (keep undef) (by cases oj.dst <;> rfl) (by cases oj.dst <;> rfl)
        · rw [← Act.put_comm _ v undef h2, ← Act.put_defers]; exact h'
      case enter f args =>
        refine ⟨h'.1, CallsIn.mono h'.2 fun e w'' he => ?_⟩
        cases e with
        | returned u => exact ⟨keep u, by rw [← Act.put_comm a v u h2]; exact he⟩
        | panicked c => exact absurd he (hQ _ _ _ (by simp))
        | outgrown => obtain ⟨a0, w0, h0⟩ := he; exact absurd h0 (hQ _ _ _ (by simp))
      case row row args => exact ⟨h'.1, RowsIn.mono h'.2 fun u w'' he => ⟨keep u, by rw [← Act.put_comm a v u h2]; exact he⟩⟩
      case round =>
        refine ⟨h'.1, RoundIn.mono h'.2 fun e w'' he => ?_⟩
        cases e with
        | returned u => exact ⟨keep u, by rw [← Act.put_comm a v u h2]; exact he⟩
        | panicked c => exact absurd he (hQ _ _ _ (by simp))
        | outgrown => obtain ⟨a0, w0, h0⟩ := he; exact absurd h0 (hQ _ _ _ (by simp))
    | halt x w' =>
      cases x <;> simp only [Oper.uponIn] at h' ⊢
      case panic u => exact absurd h' (hQ _ _ _ (by simp))
  · rename_i hw
    rw [if_neg hw] at h
    exact ⟨fun _ _ => trivial, keep _, by rw [← Act.put_comm a v undef h2]; exact h.2⟩

/-- Operation j waits for all others. -/
def afterAll (ops : Array Oper) (j : Nat) : Bool := match ops[j]? with
  | some o => (List.range ops.size).all fun k => k == j || o.after.any fun e => Region.binds .any e && e.on == k
  | none => false
theorem afterAll_spec {j i : Nat} {listed : Array Bool} (h : afterAll ops j = true) (hj : j ∈ Region.ready .any ops listed) (hi : i ∈ Region.ready .any ops listed) : i = j := by
  obtain ⟨_, oj, hoj, hall⟩ := mem_ready.1 hj
  obtain ⟨hun, oi, hoi, _⟩ := mem_ready.1 hi
  unfold afterAll at h
  rw [hoj] at h
  simp only [List.all_eq_true, List.mem_range] at h
  have h1 := h i (Array.getElem?_eq_some_iff.1 hoi).1
  rcases Bool.or_eq_true _ _ ▸ h1 with h1 | h1
  · simpa using h1
  · obtain ⟨e, he, hb⟩ := Array.any_eq_true'.1 h1
    simp only [Bool.and_eq_true, beq_iff_eq] at hb
    have h2 := hall e he hb.1
    rw [hb.2] at h2
    rcases Nat.lt_or_ge i listed.size with h' | h'
    · simp [h'] at hun h2; rw [hun] at h2; cases h2
    · simp [Array.getElem?_eq_none h'] at h2
/-- Whatever order is picked from here on; S holds behind each operation but one that waits for all others. -/
def wpE (r : Option Nat) (P : Program) (ops : Array Oper) (Q : Exit → Act → World → Prop) (S : World → Prop) : Nat → Array Bool → Act → World → Prop
  | 0, listed, a, w => Region.ready .any ops listed = [] ∧ Q .normal a w
  | fuel + 1, listed, a, w => (Region.ready .any ops listed = [] → Q .normal a w) ∧
    ∀ i ∈ Region.ready .any ops listed, opOne r P ops Q i (fun a' w' => (afterAll ops i = false → S w') ∧ wpE r P ops Q S fuel (listed.setIfInBounds i true) a' w') a w
theorem wpAny_of_E {Q : Exit → Act → World → Prop} {S : World → Prop} : ∀ (fuel : Nat) (listed : Array Bool) (a : Act) (w : World), wpE r P ops Q S fuel listed a w → wpAnyIn (WR r) 0 P .any ops Q fuel listed a w
  | 0, _, _, _, h => h
  | fuel + 1, _, _, _, h => ⟨h.1, fun i hi => wpOpIn_mono (fun a' w' h' => wpAny_of_E fuel _ a' w' h'.2) (h.2 i hi)⟩
theorem wpE_first {Q : Exit → Act → World → Prop} {S : World → Prop} {i : Nat} {oi : Oper} (hi : ops[i]? = some oi) (hpl : plainAll ops = true) (hQ : ∀ e a w, e ≠ .normal → ¬ Q e a w) :
    ∀ (fuel : Nat) (listed : Array Bool) (a : Act) (w : World),
      (∀ j oj, ops[j]? = some oj → j ≠ i → listed.getD j true = false → (∀ e ∈ oj.after, Region.binds .any e = true → e.on ≠ i) → oi.apart ops oj = true) →
      i ∈ Region.ready .any ops listed → Yld P ops S oi v a → S w →
      wpE r P ops Q S fuel (listed.setIfInBounds i true) (a.put oi.dst v) w → wpE r P ops Q S (fuel + 1) listed a w := by
  intro fuel
  induction fuel with
  | zero =>
    intro listed a w _ hr hy hS H
    refine ⟨fun h => (by rw [h] at hr; cases hr), fun j hj => ?_⟩
    by_cases hji : j = i
    · subst hji; exact hy.one hi (plainAll_at hpl hi) hS ⟨fun _ => hS, H⟩
    · have := ready_mono hj hji
      rw [H.1] at this
      cases this
  | succ fuel ih =>
    intro listed a w hfree hr hy hS H
    refine ⟨fun h => (by rw [h] at hr; cases hr), fun j hj => ?_⟩
    by_cases hji : j = i
    · subst hji; exact hy.one hi (plainAll_at hpl hi) hS ⟨fun _ => hS, H⟩
    · have h1 := H.2 j (ready_mono hj hji)
      obtain ⟨hjun, oj, hoj, hall⟩ := mem_ready.1 hj
      have hnot : ∀ e ∈ oj.after, Region.binds .any e = true → e.on ≠ i := fun e he hb heq => by
        have h1 := hall e he hb
        have h0 := (mem_ready.1 hr).1
        rw [heq] at h1
        rcases Nat.lt_or_ge i listed.size with h' | h'
        · simp [h'] at h0 h1; rw [h0] at h1; cases h1
        · simp [Array.getElem?_eq_none h'] at h1
      have h2 := one_put hoj (hfree j oj hoj hji hjun hnot) (plainAll_at hpl hi) (plainAll_at hpl hoj) hQ hy h1
      have hfree' : ∀ k ok, ops[k]? = some ok → k ≠ i → (listed.setIfInBounds j true).getD k true = false →
          (∀ e ∈ ok.after, Region.binds .any e = true → e.on ≠ i) → oi.apart ops ok = true := fun k ok hk hki hun hno => by
        refine hfree k ok hk hki ?_ hno
        by_cases hjk : j = k
        · subst hjk; exact hjun
        · rw [getD_set_ne true hjk] at hun; exact hun
      have hri := ready_mono hr (Ne.symm hji)
      have hna : afterAll ops j = false := by
        cases h : afterAll ops j with
        | false => rfl
        | true => exact absurd (afterAll_spec h hj hr) (Ne.symm hji)
      refine wpOpIn_mono (fun a' w' h3 => ?_) h2
      obtain ⟨hy3, hS3, hE3⟩ := h3
      refine ⟨hS3, ih (listed.setIfInBounds j true) a' w' hfree' hri hy3 (hS3 hna) ?_⟩
      rw [Array.setIfInBounds_comm _ _ hji]
      exact hE3

/-- An order in which to walk: each operation's number, and whether it acts (then it is the only one that may come). -/
def chk (ops : Array Oper) : List (Nat × Bool) → Array Bool → Bool
  | [], listed => (Region.ready .any ops listed).isEmpty
  | (i, true) :: rest, listed => Region.ready .any ops listed == [i] && chk ops rest (listed.setIfInBounds i true)
  | (i, false) :: rest, listed => (Region.ready .any ops listed).contains i && Region.free .any ops listed i && chk ops rest (listed.setIfInBounds i true)
def chkAll (ops : Array Oper) (ord : List (Nat × Bool)) : Bool := plainAll ops && ord.length == ops.size && chk ops ord (Array.replicate ops.size false)
def wpO (r : Option Nat) (P : Program) (ops : Array Oper) (Q : Exit → Act → World → Prop) (S : World → Prop) : List (Nat × Bool) → Act → World → Prop
  | [], a, w => Q .normal a w
  | (i, false) :: rest, a, w => ∃ o v, ops[i]? = some o ∧ Yld P ops S o v a ∧ S w ∧ wpO r P ops Q S rest (a.put o.dst v) w
  | (i, true) :: rest, a, w => opOne r P ops Q i (fun a' w' => (afterAll ops i = false → S w') ∧ wpO r P ops Q S rest a' w') a w
theorem wpE_of_O {Q : Exit → Act → World → Prop} {S : World → Prop} (hpl : plainAll ops = true) (hQ : ∀ e a w, e ≠ .normal → ¬ Q e a w) : ∀ (ord : List (Nat × Bool)) (listed : Array Bool) (a : Act) (w : World),
    chk ops ord listed = true → wpO r P ops Q S ord a w → wpE r P ops Q S ord.length listed a w
  | [], listed, a, w, hc, h => ⟨by simpa [chk] using hc, h⟩
  | (i, true) :: rest, listed, a, w, hc, h => by
    simp only [chk, Bool.and_eq_true, beq_iff_eq] at hc
    refine ⟨fun h0 => (by rw [h0] at hc; cases hc.1), fun j hj => ?_⟩
    rw [hc.1] at hj
    obtain rfl : j = i := by simpa using hj
    unfold wpO at h
    exact wpOpIn_mono (fun a' w' h' => ⟨h'.1, wpE_of_O hpl hQ rest _ a' w' hc.2 h'.2⟩) h
  | (i, false) :: rest, listed, a, w, hc, h => by
    simp only [chk, Bool.and_eq_true] at hc
    unfold wpO at h
    obtain ⟨o, v, ho, hy, hS, h⟩ := h
    exact wpE_first ho hpl hQ _ listed a w (Region.free_spec ho hc.1.2) (by simpa using hc.1.1) hy hS (wpE_of_O hpl hQ rest _ _ _ hc.2 h)

/-- The rest of a region that draws, in the order ord. -/
def SO (r : Option Nat) (P : Program) (n : Nat) (ds : List Deferred) (ops : Array Oper) (q : QQ) (S : World → Prop) (ord : List (Nat × Bool)) (l : Env) (w : World) : Prop := ∀ a, Ok n ds l a → wpO r P ops (fun e a w => e = .normal ∧ q.nrm a w) S ord a w
theorem sc_draw {id : Nat} (S : World → Prop) (ord : List (Nat × Bool)) (hm : P.follows .mixedOrders = true) (hc : chkAll ops ord = true) (h : ∀ w1, w1.heap = w.heap → Below w.heap.size w w1 → SO r P n ds ops q S ord l w1) : SC r P n ds (.region id ops true) q l w := fun a ha => by
  simp only [chkAll, Bool.and_eq_true, beq_iff_eq] at hc
  refine wpIn_mono (Q := fun e a w => e = .normal ∧ q.nrm a w) ?_ (fun e a w hq => by obtain ⟨rfl, hq⟩ := hq; exact hq)
  refine wpIn_region_any hm (wpAny_of_E (S := S) _ _ _ _ ?_)
  rw [← hc.1.2]
  refine wpE_of_O hc.1.1 (fun e a w hne hq => hne hq.1) ord _ a _ ?_ (h { w with drawn := w.drawn + 1 } rfl (Below.refl w.heap.size w).drew a ha)
  rw [hc.1.2]
  exact hc.2
variable {S : World → Prop} {ord : List (Nat × Bool)} {i : Nat} {o : Op}
theorem so_nil (h : ∀ a, Ok n ds l a → q.nrm a w) : SO r P n ds ops q S [] l w := fun a ha => by
  unfold wpO
  exact ⟨rfl, h a ha⟩
/-- An operation that only yields. -/
theorem so_ev (ho : ops[i]? = some ⟨some d, o, ty, pos, aft, none⟩) (he : ∀ w, S w → Ev P n ds l w o ty v w) (hS : S w) (hd : d < n) (h : SO r P n ds ops q S ord ((d, v) :: l) w) : SO r P n ds ops q S ((i, false) :: ord) l w := fun a ha => by
  unfold wpO
  exact ⟨_, v, ho, .inl ⟨rfl, fun w' hS' => he w' hS' a _ _ _ _ ha⟩, hS, h _ (ha.put d v hd)⟩
theorem so_gev {j t : Nat} {b want : Bool} (ho : ops[i]? = some ⟨some d, o, ty, pos, aft, some (j, want)⟩) (hs : guardSlot ops j = some t) (hb : l.lookup t = some (.bool b)) (hw : b = want) (he : ∀ w, S w → Ev P n ds l w o ty v w) (hS : S w) (hd : d < n) (h : SO r P n ds ops q S ord ((d, v) :: l) w) : SO r P n ds ops q S ((i, false) :: ord) l w := fun a ha => by
  unfold wpO
  exact ⟨_, v, ho, .inl ⟨by rw [ha.wanted rfl hs hb, hw]; cases want <;> rfl, fun w' hS' => he w' hS' a _ _ _ _ ha⟩, hS, h _ (ha.put d v hd)⟩
theorem so_gskip {j t : Nat} {b want : Bool} (ho : ops[i]? = some ⟨some d, o, ty, pos, aft, some (j, want)⟩) (hs : guardSlot ops j = some t) (hb : l.lookup t = some (.bool b)) (hw : b = !want) (hS : S w) (hd : d < n) (h : SO r P n ds ops q S ord ((d, undef) :: l) w) : SO r P n ds ops q S ((i, false) :: ord) l w := fun a ha => by
  unfold wpO
  exact ⟨_, undef, ho, .inr ⟨by rw [ha.wanted rfl hs hb, hw]; cases want <;> rfl, rfl⟩, hS, h _ (ha.put d undef hd)⟩
theorem opOne_of {Q : Exit → Act → World → Prop} {K : Act → World → Prop} {a : Act} {o : Oper} (ho : ops[i]? = some o) (hw : Region.wanted o (yielded ops a.tmps) = true) (h : Oper.wpIn (WR r) 0 P o a w K Q) : opOne r P ops Q i K a w := by
  unfold opOne wpOpIn
  rw [ho]
  dsimp only
  rw [if_pos hw]
  exact h
/-- One that makes memory, stores ..: the world behind it meets S, but at the last. -/
theorem so_act (ho : ops[i]? = some ⟨some d, o, ty, pos, aft, none⟩) (he : Ev P n ds l w o ty v w1) (hp : plain o = true) (hd : d < n) (hS : afterAll ops i = false → S w1) (h : SO r P n ds ops q S ord ((d, v) :: l) w1) : SO r P n ds ops q S ((i, true) :: ord) l w := fun a ha => by
  unfold wpO
  exact opOne_of ho rfl (wpIn_value hp (he a _ _ _ _ ha) ⟨hS, h _ (ha.put d v hd)⟩)
theorem so_un (ho : ops[i]? = some ⟨none, o, ty, pos, aft, none⟩) (he : Un P n ds l w o ty w1) (hp : plain o = true) (hS : afterAll ops i = false → S w1) (h : SO r P n ds ops q S ord l w1) : SO r P n ds ops q S ((i, true) :: ord) l w := fun a ha => by
  unfold wpO
  exact opOne_of ho rfl (wpIn_unit hp (he a _ _ _ _ ha) ⟨hS, h _ ha⟩)
theorem so_call {f : FuncId} {fop : Operand} {xs : List Operand} {vs caps : List Value} {tys : Array TypeId} {R : Value → World → Prop} (ho : ops[i]? = some ⟨some d, .call ⟨.value fop, xs.toArray, tys⟩, ty, pos, aft, none⟩) (he : Ent P f) (hf : val l fop = some (.func (.func f) #[] caps.toArray)) (hx : vals l xs = some vs) (hc : CallR P f (vs ++ caps) w R) (hd : d < n)
    (h : ∀ v w1, R v w1 → (afterAll ops i = false → S w1) ∧ SO r P n ds ops q S ord ((d, v) :: l) w1) : SO r P n ds ops q S ((i, true) :: ord) l w := fun a ha => by
  unfold wpO
  exact opOne_of ho rfl (wpIn_call he ha hf hx hc fun v w1 hR => ⟨(h v w1 hR).1, (h v w1 hR).2 _ (ha.put d v hd)⟩)
end
end Go.XK
namespace Go.XK
section
variable {r : Option Nat} {P : Program} {n : Nat} {ds : List Deferred} {ops : Array Oper} {q : QQ} {l : Env} {w w1 : World} {rest : List Oper} {ty : TypeId} {pos : String} {aft : Array Edge} {d : Nat} {v : Value} {o : Op}
theorem s (he : Ev P n ds l w o ty v w1) (h : SL r P n ds ops q rest ((d, v) :: l) w1) (hp : plain o = true := by rfl) (hd : d < n := by decide) : SL r P n ds ops q (⟨some d, o, ty, pos, aft, none⟩ :: rest) l w := sl_ev he hp hd h
theorem su (he : Un P n ds l w o ty w1) (h : SL r P n ds ops q rest l w1) (hp : plain o = true := by rfl) : SL r P n ds ops q (⟨none, o, ty, pos, aft, none⟩ :: rest) l w := sl_un he hp h
/-- A guarded piece comes to one value in slot t, whichever way it goes; the world is as it was. -/
theorem sl_merge (k : Nat) (t : Nat) (v : Value) (h1 : SL r P n ds ops ⟨fun a w' => w' = w ∧ Ok n ds ((t, v) :: l) a, fun _ _ => False, []⟩ (rest.take k) l w) (h2 : SL r P n ds ops q (rest.drop k) ((t, v) :: l) w) : SL r P n ds ops q rest l w :=
  sl_cut k (fun l1 w1 => l1 = (t, v) :: l ∧ w1 = w) (fun a ha => wpListIn_mono' (fun e a w' hq => by
    cases e with
    | normal => obtain ⟨rfl, hok⟩ := hq; exact ⟨_, ⟨rfl, rfl⟩, hok⟩
    | ret => exact hq.elim
    | exit id => simp [QQ.fn] at hq
    | goto l => exact hq.elim
    | panic c => exact hq.elim
    | outgrown => exact hq.elim) _ _ _ (h1 a ha)) fun l1 w1 ⟨h, h'⟩ => by subst h; subst h'; exact h2
/-- The same, where the world may have changed as R tells. -/
theorem sl_mergeW (k : Nat) (t : Nat) (v : Value) (R : World → Prop) (h1 : SL r P n ds ops ⟨fun a w' => R w' ∧ Ok n ds ((t, v) :: l) a, fun _ _ => False, []⟩ (rest.take k) l w) (h2 : ∀ w1, R w1 → SL r P n ds ops q (rest.drop k) ((t, v) :: l) w1) : SL r P n ds ops q rest l w :=
  sl_cut k (fun l1 w1 => l1 = (t, v) :: l ∧ R w1) (fun a ha => wpListIn_mono' (fun e a w' hq => by
    cases e with
    | normal => obtain ⟨hR, hok⟩ := hq; exact ⟨_, ⟨rfl, hR⟩, hok⟩
    | ret => exact hq.elim
    | exit id => simp [QQ.fn] at hq
    | goto l => exact hq.elim
    | panic c => exact hq.elim
    | outgrown => exact hq.elim) _ _ _ (h1 a ha)) fun l1 w1 ⟨h, h'⟩ => by subst h; exact h2 w1 h'
/-- The end of such a piece. -/
theorem Ok.tail {p : Nat × Value} {a : Act} (h : Ok n ds (p :: l) a) (hno : l.lookup p.1 = none) : Ok n ds l a := h.sub fun t u hu => by
  rw [List.lookup_cons]
  by_cases e : t = p.1
  · subst e; rw [hno] at hu; cases hu
  · rw [show (t == p.1) = false from by simpa using e]; exact hu
/-- l' is l with more slots ahead, none of which l tells, but slot t, which holds v. -/
theorem merge_end {t : Nat} {l0 l' : Env} (hs : Sub ((t, v) :: l0) l') : ∀ a, Ok n ds l' a → Ok n ds ((t, v) :: l0) a := fun a ha => ha.sub hs
theorem sub_self_cons {p : Nat × Value} {l l' : Env} (h : Sub l l') (hno : l.lookup p.1 = none) : Sub l (p :: l') := fun t u hu => by
  rw [List.lookup_cons]
  by_cases e : t = p.1
  · subst e; rw [hno] at hu; cases hu
  · rw [show (t == p.1) = false from by simpa using e]; exact h t u hu
theorem sl_case {t : Nat} {b : Bool} (hb : l.lookup t = some (.bool b)) (ht : b = true → SL r P n ds ops q rest l w) (hf : b = false → SL r P n ds ops q rest l w) : SL r P n ds ops q rest l w := by
  cases b with
  | true => exact ht rfl
  | false => exact hf rfl
end
end Go.XK
