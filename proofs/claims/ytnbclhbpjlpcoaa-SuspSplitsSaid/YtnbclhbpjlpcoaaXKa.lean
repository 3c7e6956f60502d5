/- The calculus of the walks, part 1: environments for the temporaries, posts, control, operations. My own text. -/
import Derived.RangeFuncNested
import Derived.RangeFuncBound
import Derived.RangeFuncCalls
import Derived.RangeFuncLeaves
import Derived.OrdersIn
import Derived.OrdersHeld
import Derived.WalkKit
import Derived.TacticsInMore
import Derived.KernelRfl
set_option linter.unusedVariables false
namespace Go.XK
open Go.RowKit

abbrev Env := List (Nat × Value)

/-- The wide fence, within a round or not. -/
def WR (r : Option Nat) : Fence := { fn := fun _ => True, depth := none, alive := false, round := r }
theorem WR_room (r : Option Nat) (n : Nat) : (WR r).room n := fun _ h => by simp [WR] at h
theorem WR_calls {r : Option Nat} {n : Nat} {P : Program} {f : FuncId} {args : Array Value} {w : World} {R : Ending → World → Prop} :
    CallsIn (WR r) n P f args w R ↔ Calls P f args w R := by
  cases r <;> exact callsIn_wide

/-- What is known of an activation: its deferred calls, how many temporaries, what some of them hold. -/
structure Ok (n : Nat) (ds : List Deferred) (l : Env) (a : Act) : Prop where
  defers : a.defers = ds
  size : a.tmps.size = n
  get : ∀ t v, l.lookup t = some v → a.tmps.getD t undef = v

theorem Ok.put {n : Nat} {ds : List Deferred} {l : Env} {a : Act} (h : Ok n ds l a) (d : Nat) (v : Value) (hd : d < n) : Ok n ds ((d, v) :: l) (a.put (some d) v) := by
  refine ⟨h.defers, by simp [Act.put, h.size], ?_⟩
  intro t u hu
  have hs := h.size
  by_cases e : t = d
  · subst e
    rw [List.lookup_cons_self] at hu
    cases hu
    simp only [Act.put, Array.getD_eq_getD_getElem?]
    rw [Array.getElem?_setIfInBounds_self_of_lt (by omega)]
    rfl
  · rw [List.lookup_cons] at hu
    rw [show (t == d) = false from by simpa using e] at hu
    have := h.get t u hu
    simp only [Act.put, Array.getD_eq_getD_getElem?] at this ⊢
    rw [Array.getElem?_setIfInBounds_ne (by omega)]
    exact this

/-- l' says no more than l. -/
def Sub (l' l : Env) : Prop := ∀ t v, l'.lookup t = some v → l.lookup t = some v
theorem Sub.nil {l : Env} : Sub [] l := fun t v h => by simp at h
theorem Sub.cons {l' l : Env} {t : Nat} {v : Value} (h : l.lookup t = some v) (hs : Sub l' l) : Sub ((t, v) :: l') l := fun u x hx => by
  rw [List.lookup_cons] at hx
  by_cases e : u = t
  · subst e; simp at hx; subst hx; exact h
  · rw [show (u == t) = false from by simpa using e] at hx
    exact hs u x hx
theorem Sub.refl (l : Env) : Sub l l := fun _ _ h => h
theorem Ok.sub {n : Nat} {ds : List Deferred} {l l' : Env} {a : Act} (h : Ok n ds l a) (hs : Sub l' l) : Ok n ds l' a := ⟨h.defers, h.size, fun t v hv => h.get t v (hs t v hv)⟩

def val (l : Env) : Operand → Option Value
  | .tmp t => l.lookup t
  | .const v => some v
  | .global g => some (.pointer (some ⟨g, 0, none⟩))
  | .func f => some (.func (.func f) #[] #[])
theorem Ok.eval {n : Nat} {ds : List Deferred} {l : Env} {a : Act} (h : Ok n ds l a) {x : Operand} {v : Value} (hx : val l x = some v) : a.eval x = v := by
  cases x with
  | tmp t => exact h.get t v hx
  | const u => simp [val] at hx; exact hx
  | global g => simp [val] at hx; exact hx
  | func f => simp [val] at hx; exact hx

def vals (l : Env) : List Operand → Option (List Value)
  | [] => some []
  | x :: xs => match val l x, vals l xs with
    | some v, some vs => some (v :: vs)
    | _, _ => none
theorem Ok.evals {n : Nat} {ds : List Deferred} {l : Env} {a : Act} (h : Ok n ds l a) : ∀ {xs : List Operand} {vs : List Value}, vals l xs = some vs → xs.map a.eval = vs
  | [], vs, hx => by simp [vals] at hx; simp [hx]
  | x :: xs, vs, hx => by
    simp only [vals] at hx
    cases h1 : val l x with
    | none => simp [h1] at hx
    | some v =>
      cases h2 : vals l xs with
      | none => simp [h1, h2] at hx
      | some us =>
        simp [h1, h2] at hx
        subst hx
        simp [h.eval h1, h.evals h2]

/-- What is asked at each way out: off the end, by 'ret', by an exit to one of the blocks around. -/
structure QQ where
  nrm : Act → World → Prop
  ret : Act → World → Prop
  ex : List (Nat × (Act → World → Prop))
def QQ.fn (q : QQ) : Exit → Act → World → Prop
  | .normal, a, w => q.nrm a w
  | .ret, a, w => q.ret a w
  | .exit id, a, w => match q.ex.lookup id with
    | some p => p a w
    | none => False
  | _, _, _ => False

section
variable {r : Option Nat} {P : Program} {n : Nat} {ds : List Deferred} {ops : Array Oper} {q : QQ} {l : Env} {w : World} {rest : List Oper}

def KC (r : Option Nat) (P : Program) (y : Code) (q : QQ) : Act → World → Prop := fun a w => y.wpIn (WR r) 0 P q.fn a w
def SC (r : Option Nat) (P : Program) (n : Nat) (ds : List Deferred) (c : Code) (q : QQ) (l : Env) (w : World) : Prop := ∀ a, Ok n ds l a → c.wpIn (WR r) 0 P q.fn a w
def SL (r : Option Nat) (P : Program) (n : Nat) (ds : List Deferred) (ops : Array Oper) (q : QQ) (rest : List Oper) (l : Env) (w : World) : Prop := ∀ a, Ok n ds l a → wpListIn (WR r) 0 P ops q.fn rest a w

theorem SC.sub {c : Code} {l' : Env} (h : SC r P n ds c q l' w) (hs : Sub l' l) : SC r P n ds c q l w := fun a ha => h a (ha.sub hs)
theorem SL.sub {l' : Env} (h : SL r P n ds ops q rest l' w) (hs : Sub l' l) : SL r P n ds ops q rest l w := fun a ha => h a (ha.sub hs)

/-! ### Control -/
theorem sc_seq {x y : Code} (h : SC r P n ds x { q with nrm := KC r P y q } l w) : SC r P n ds (x.seq y) q l w := fun a ha =>
  wpIn_seq (wpIn_mono (h a ha) fun e a w hq => by cases e <;> exact hq)
theorem sc_skip (h : ∀ a, Ok n ds l a → q.nrm a w) : SC r P n ds .skip q l w := fun a ha => wpIn_skip (h a ha)
theorem sc_ret (h : ∀ a, Ok n ds l a → q.ret a w) : SC r P n ds .ret q l w := fun a ha => wpIn_ret (h a ha)
theorem sc_exit {id : Nat} {p : Act → World → Prop} (hp : q.ex.lookup id = some p) (h : ∀ a, Ok n ds l a → p a w) : SC r P n ds (.exit id) q l w := fun a ha =>
  wpIn_exit (show (match q.ex.lookup id with | some p => p a w | none => False) by rw [hp]; exact h a ha)
theorem sc_block {id : Nat} {c : Code} (h : SC r P n ds c { q with ex := (id, q.nrm) :: q.ex } l w) : SC r P n ds (.block id c) q l w := fun a ha =>
  wpIn_block (wpIn_mono (h a ha) fun e a w hq => by
    cases e with
    | exit id' =>
      simp only [Exit.inBlock]
      by_cases he : id' = id
      · subst he
        simp only [QQ.fn, List.lookup_cons_self] at hq
        rw [if_pos rfl]; exact hq
      · rw [if_neg he]
        simp only [QQ.fn, List.lookup_cons, show (id' == id) = false from by simpa using he] at hq
        exact hq
    | _ => exact hq)
theorem sc_if {c : Operand} {x y : Code} {b : Bool} (hc : val l c = some (.bool b)) (ht : b = true → SC r P n ds x q l w) (hf : b = false → SC r P n ds y q l w) : SC r P n ds (.cond c x y) q l w := fun a ha => by
  cases b with
  | true => exact wpIn_cond_true (ha.eval hc) (ht rfl a ha)
  | false => exact wpIn_cond_false (ha.eval hc) (hf rfl a ha)
theorem sc_ifd {c : Operand} {x y : Code} {p : Prop} [Decidable p] (hc : val l c = some (.bool (decide p))) (ht : p → SC r P n ds x q l w) (hf : ¬ p → SC r P n ds y q l w) : SC r P n ds (.cond c x y) q l w :=
  sc_if hc (fun h => ht (of_decide_eq_true h)) (fun h => hf (of_decide_eq_false h))
theorem sc_yes {c : Operand} {x y : Code} {b : Bool} (hc : val l c = some (.bool b)) (hb : b = true) (ht : SC r P n ds x q l w) : SC r P n ds (.cond c x y) q l w :=
  sc_if hc (fun _ => ht) (fun h => by rw [hb] at h; cases h)
theorem sc_no {c : Operand} {x y : Code} {b : Bool} (hc : val l c = some (.bool b)) (hb : b = false) (hf : SC r P n ds y q l w) : SC r P n ds (.cond c x y) q l w :=
  sc_if hc (fun h => by rw [hb] at h; cases h) (fun _ => hf)
theorem wpIn_loop_rel {F : Fence} {m : Nat} {c : Code} {Q : Exit → Act → World → Prop} {a : Act} (J : Nat → Act → World → Prop) {j : Nat} (h0 : J j a w)
    (round : ∀ j a w, J j a w → c.wpIn F m P (Exit.then (fun a' w' => ∃ j', j' < j ∧ J j' a' w') Q) a w) : (Code.loop c).wpIn F m P Q a w := by
  intro b k cs hro hb hr
  have key : ∀ j a w, J j a w →
      ∃ e a' w', Q e a' w' ∧ ArrivesIn (Machine.fenced P F) P (lone (b.atR a (.code c :: .inLoop c :: k)) cs w) b k cs e a' w' := by
    intro j
    induction j using Nat.strongRecOn with
    | _ j ih =>
      intro a w hI
      obtain ⟨e, a₁, w₁, hq, harr⟩ := round j a w hI b (.inLoop c :: k) cs hro hb hr
      cases e with
      | normal =>
        obtain ⟨j', hlt, hI₁⟩ := hq
        obtain ⟨e₂, a₂, w₂, hq₂, harr₂⟩ := ih j' hlt a₁ w₁ hI₁
        exact ⟨e₂, a₂, w₂, hq₂, .of_steps (StepsIn.trans harr (.one (fenced_calm hb hr rfl) stepR_inLoop)) harr₂⟩
      | exit id => exact ⟨_, a₁, w₁, hq, .pass (x := .inLoop c) rfl (fun _ _ => .inl (by simp)) harr⟩
      | goto l => exact ⟨_, a₁, w₁, hq, .pass (x := .inLoop c) rfl (fun _ _ => .inl (by simp)) harr⟩
      | ret => exact ⟨_, a₁, w₁, hq, .pass (x := .inLoop c) rfl (fun _ _ => .inl (by simp)) harr⟩
      | panic ch => exact ⟨_, a₁, w₁, hq, .pass (x := .inLoop c) rfl (fun _ _ => .inl (by simp)) harr⟩
      | outgrown => exact ⟨_, a₁, w₁, hq, .pass (x := .inLoop c) rfl (fun _ _ => .inl (by simp)) harr⟩
  obtain ⟨e, a', w', hq, harr⟩ := key _ a w h0
  exact ⟨e, a', w', hq, .of_steps (.one (fenced_calm hb hr rfl) stepR_loop) harr⟩

/-- The end of a round of a loop: a smaller number, the relation anew. -/
def LoopEnd (n : Nat) (ds : List Deferred) (J : Nat → Env → World → Prop) (j : Nat) : Act → World → Prop := fun a w => ∃ j' l', j' < j ∧ J j' l' w ∧ Ok n ds l' a
theorem sc_loop {c : Code} (J : Nat → Env → World → Prop) (j : Nat) (l0 : Env) (h0 : J j l0 w) (hs : Sub l0 l)
    (round : ∀ j l w, J j l w → SC r P n ds c { q with nrm := LoopEnd n ds J j } l w) : SC r P n ds (.loop c) q l w := fun a ha =>
  wpIn_loop_rel (fun j a w => ∃ l, J j l w ∧ Ok n ds l a) ⟨l0, h0, ha.sub hs⟩ fun j a w ⟨l, hJ, hok⟩ =>
    wpIn_mono (round j l w hJ a hok) fun e a w hq => by
      cases e with
      | normal => obtain ⟨j', l', hlt, hJ', hok'⟩ := hq; exact ⟨j', hlt, l', hJ', hok'⟩
      | _ => exact hq

theorem nrm_k {y : Code} {q0 : QQ} (h : SC r P n ds y q0 l w) : ∀ a, Ok n ds l a → KC r P y q0 a w := h
theorem nrm_loop {J : Nat → Env → World → Prop} {j : Nat} (j' : Nat) (l' : Env) (hlt : j' < j) (hJ : J j' l' w) (hs : Sub l' l) : ∀ a, Ok n ds l a → LoopEnd n ds J j a w := fun _ ha => ⟨j', l', hlt, hJ, ha.sub hs⟩

/-! ### Regions in the order of the text -/
theorem sc_reg {id : Nat} {os : List Oper} (h : SL r P n ds os.toArray q os l w) : SC r P n ds (.region id os.toArray false) q l w := fun a ha => wpIn_region_lit (h a ha)
theorem sl_nil (h : ∀ a, Ok n ds l a → q.nrm a w) : SL r P n ds ops q [] l w := fun a ha => wpListIn_nil (h a ha)

/-- The operation leaves v, the world w1. -/
def Ev (P : Program) (n : Nat) (ds : List Deferred) (l : Env) (w : World) (o : Op) (ty : TypeId) (v : Value) (w1 : World) : Prop :=
  ∀ a dst pos aft g, Ok n ds l a → (execOp a.eval ⟨dst, o, ty, pos, aft, g⟩).run P w = .ok (.value v) w1
/-- The operation leaves nothing, the world w1. -/
def Un (P : Program) (n : Nat) (ds : List Deferred) (l : Env) (w : World) (o : Op) (ty : TypeId) (w1 : World) : Prop :=
  ∀ a dst pos aft g, Ok n ds l a → (execOp a.eval ⟨dst, o, ty, pos, aft, g⟩).run P w = .ok .skip w1

def plain : Op → Bool
  | .defer _ => false
  | .select .. => false
  | _ => true
theorem plain_defer {o : Op} (h : plain o = true) : ∀ c, o ≠ .defer c := fun c e => by subst e; cases h
theorem plain_select {o : Op} (h : plain o = true) : ∀ c b, o ≠ .select c b := fun c b e => by subst e; cases h

variable {o : Op} {ty : TypeId} {pos : String} {aft : Array Edge} {d : Nat} {v : Value} {w1 : World} {g : Option (Nat × Bool)}

theorem wpIn_value {F : Option Nat} {Q : Exit → Act → World → Prop} {a : Act} {K : Act → World → Prop} {dst : Option Nat} (hp : plain o = true) (h : (execOp a.eval ⟨dst, o, ty, pos, aft, g⟩).run P w = .ok (.value v) w1) (hk : K (a.put dst v) w1) :
    Oper.wpIn (WR F) 0 P ⟨dst, o, ty, pos, aft, g⟩ a w K Q := by
  refine ⟨fun _ _ => trivial, ?_⟩
  rw [Oper.semAt_eq _ _ _ (plain_defer hp), h]
  exact hk
theorem wpIn_unit {F : Option Nat} {Q : Exit → Act → World → Prop} {a : Act} {K : Act → World → Prop} {dst : Option Nat} (hp : plain o = true) (h : (execOp a.eval ⟨dst, o, ty, pos, aft, g⟩).run P w = .ok .skip w1) (hk : K (a.put dst undef) w1) :
    Oper.wpIn (WR F) 0 P ⟨dst, o, ty, pos, aft, g⟩ a w K Q := by
  refine ⟨fun _ _ => trivial, ?_⟩
  rw [Oper.semAt_eq _ _ _ (plain_defer hp), h]
  exact hk

theorem sl_ev (he : Ev P n ds l w o ty v w1) (hp : plain o = true) (hd : d < n) (h : SL r P n ds ops q rest ((d, v) :: l) w1) : SL r P n ds ops q (⟨some d, o, ty, pos, aft, none⟩ :: rest) l w := fun a ha =>
  wpListIn_plain rfl fun K hK => wpIn_value hp (he a _ _ _ _ ha) (hK _ _ (h _ (ha.put d v hd)))
theorem sl_un (he : Un P n ds l w o ty w1) (hp : plain o = true) (h : SL r P n ds ops q rest l w1) : SL r P n ds ops q (⟨none, o, ty, pos, aft, none⟩ :: rest) l w := fun a ha =>
  wpListIn_plain rfl fun K hK => wpIn_unit hp (he a _ _ _ _ ha) (hK _ _ (h _ ha))

/-- The slot whose Bool a guard asks. -/
def guardSlot (ops : Array Oper) (j : Nat) : Option Nat := (ops[j]?).bind (·.dst)
theorem Ok.yielded {a : Act} {j t : Nat} {b : Bool} (ha : Ok n ds l a) (hs : guardSlot ops j = some t) (hb : l.lookup t = some (.bool b)) : Go.yielded ops a.tmps j = some b := by
  have h1 := ha.get t _ hb
  unfold Go.yielded
  unfold guardSlot at hs
  rw [hs]
  simp only [Option.bind_some]
  rw [Array.getD_eq_getD_getElem?] at h1
  cases ht : a.tmps[t]? with
  | none => rw [ht] at h1; simp [undef] at h1
  | some u => rw [ht] at h1; simp at h1; subst h1; rfl
theorem Ok.wanted {a : Act} {j t : Nat} {b want : Bool} {o : Oper} (ha : Ok n ds l a) (hg : o.guard = some (j, want)) (hs : guardSlot ops j = some t) (hb : l.lookup t = some (.bool b)) : Region.wanted o (Go.yielded ops a.tmps) = (b == want) := by
  unfold Region.wanted
  rw [hg]
  simp only [ha.yielded hs hb]
  cases b <;> cases want <;> rfl
theorem sl_gev {j t : Nat} {b want : Bool} (hs : guardSlot ops j = some t) (hb : l.lookup t = some (.bool b)) (hw : b = want) (he : Ev P n ds l w o ty v w1) (hp : plain o = true) (hd : d < n) (h : SL r P n ds ops q rest ((d, v) :: l) w1) :
    SL r P n ds ops q (⟨some d, o, ty, pos, aft, some (j, want)⟩ :: rest) l w := fun a ha => by
  refine wpListIn_step fun K hK => ?_
  rw [ha.wanted (o := ⟨some d, o, ty, pos, aft, some (j, want)⟩) rfl hs hb, hw]
  rw [if_pos (by cases want <;> rfl)]
  exact wpIn_value hp (he a _ _ _ _ ha) (hK _ _ (h _ (ha.put d v hd)))
theorem sl_gun {j t : Nat} {b want : Bool} (hs : guardSlot ops j = some t) (hb : l.lookup t = some (.bool b)) (hw : b = want) (he : Un P n ds l w o ty w1) (hp : plain o = true) (h : SL r P n ds ops q rest l w1) :
    SL r P n ds ops q (⟨none, o, ty, pos, aft, some (j, want)⟩ :: rest) l w := fun a ha => by
  refine wpListIn_step fun K hK => ?_
  rw [ha.wanted (o := ⟨none, o, ty, pos, aft, some (j, want)⟩) rfl hs hb, hw]
  rw [if_pos (by cases want <;> rfl)]
  exact wpIn_unit hp (he a _ _ _ _ ha) (hK _ _ (h _ ha))
theorem sl_gskip {j t : Nat} {b want : Bool} (hs : guardSlot ops j = some t) (hb : l.lookup t = some (.bool b)) (hw : b = !want) (hd : d < n) (h : SL r P n ds ops q rest ((d, undef) :: l) w) :
    SL r P n ds ops q (⟨some d, o, ty, pos, aft, some (j, want)⟩ :: rest) l w := fun a ha => by
  refine wpListIn_step fun K hK => ?_
  rw [ha.wanted (o := ⟨some d, o, ty, pos, aft, some (j, want)⟩) rfl hs hb, hw]
  rw [if_neg (by cases want <;> simp)]
  exact ⟨fun _ _ => trivial, hK _ _ (h _ (ha.put d undef hd))⟩
theorem sl_gskip0 {j t : Nat} {b want : Bool} (hs : guardSlot ops j = some t) (hb : l.lookup t = some (.bool b)) (hw : b = !want) (h : SL r P n ds ops q rest l w) :
    SL r P n ds ops q (⟨none, o, ty, pos, aft, some (j, want)⟩ :: rest) l w := fun a ha => by
  refine wpListIn_step fun K hK => ?_
  rw [ha.wanted (o := ⟨none, o, ty, pos, aft, some (j, want)⟩) rfl hs hb, hw]
  rw [if_neg (by cases want <;> simp)]
  exact ⟨fun _ _ => trivial, hK _ _ (h _ ha)⟩

/-- A piece of the list of operations, and what it leads to. -/
theorem wpListIn_append {F : Fence} {m : Nat} {Q : Exit → Act → World → Prop} {post : List Oper} : ∀ (pre : List Oper) (a : Act) (w : World),
    wpListIn F m P ops (fun e a w => e = .normal ∧ wpListIn F m P ops Q post a w) pre a w → wpListIn F m P ops Q (pre ++ post) a w
  | [], _, _, h => h.2
  | o :: pre, a, w, h => by
    unfold wpListIn at h
    show wpListIn F m P ops Q (o :: (pre ++ post)) a w
    unfold wpListIn
    split at h
    · rename_i hw
      rw [if_pos hw]
      refine ⟨h.1, ?_⟩
      have h2 := h.2
      generalize (o.semAt F.round a.eval).run P w = res at *
      cases res with
      | ok x w' =>
        cases x <;> simp only [Oper.uponIn] at h2 ⊢ <;>
          first
            | exact wpListIn_append pre _ _ h2
            | exact ⟨h2.1, CallsIn.mono h2.2 (fun e w'' he => by cases e <;> first | exact wpListIn_append pre _ _ he | exact absurd he.1 (by simp) | (obtain ⟨_, _, h3⟩ := he; exact absurd h3.1 (by simp)))⟩
            | exact ⟨h2.1, RowsIn.mono h2.2 (fun _ _ he => wpListIn_append pre _ _ he)⟩
            | exact ⟨h2.1, RoundIn.mono h2.2 (fun e w'' he => by cases e <;> first | exact wpListIn_append pre _ _ he | exact absurd he.1 (by simp) | (obtain ⟨_, _, h3⟩ := he; exact absurd h3.1 (by simp)))⟩
            | exact h2
      | halt x w' => cases x <;> simp only [Oper.uponIn] at h2 ⊢ <;> first | exact absurd h2.1 (by simp) | exact h2
    · rename_i hw
      rw [if_neg hw]
      exact ⟨h.1, wpListIn_append pre _ _ h.2⟩
theorem wpListIn_mono' {F : Fence} {m : Nat} {Q Q' : Exit → Act → World → Prop} (hQ : ∀ e a w, Q e a w → Q' e a w) : ∀ (pre : List Oper) (a : Act) (w : World),
    wpListIn F m P ops Q pre a w → wpListIn F m P ops Q' pre a w
  | [], _, _, h => hQ _ _ _ h
  | o :: pre, a, w, h => by
    unfold wpListIn at h ⊢
    split at h
    · rename_i hw
      rw [if_pos hw]
      refine ⟨h.1, ?_⟩
      have h2 := h.2
      generalize (o.semAt F.round a.eval).run P w = res at *
      cases res with
      | ok x w' =>
        cases x <;> simp only [Oper.uponIn] at h2 ⊢ <;>
          first
            | exact wpListIn_mono' hQ pre _ _ h2
            | exact ⟨h2.1, CallsIn.mono h2.2 (fun e w'' he => by cases e <;> first | exact wpListIn_mono' hQ pre _ _ he | exact hQ _ _ _ he | (obtain ⟨a0, w0, h3⟩ := he; exact ⟨a0, w0, hQ _ _ _ h3⟩))⟩
            | exact ⟨h2.1, RowsIn.mono h2.2 (fun _ _ he => wpListIn_mono' hQ pre _ _ he)⟩
            | exact ⟨h2.1, RoundIn.mono h2.2 (fun e w'' he => by cases e <;> first | exact wpListIn_mono' hQ pre _ _ he | exact hQ _ _ _ he | (obtain ⟨a0, w0, h3⟩ := he; exact ⟨a0, w0, hQ _ _ _ h3⟩))⟩
            | exact h2
      | halt x w' => cases x <;> simp only [Oper.uponIn] at h2 ⊢ <;> first | exact hQ _ _ _ h2 | exact h2
    · rename_i hw
      rw [if_neg hw]
      exact ⟨h.1, wpListIn_mono' hQ pre _ _ h.2⟩
/-- Cut behind the first k operations: whatever they lead to is told by R. -/
theorem sl_cut (k : Nat) (R : Env → World → Prop) (h1 : SL r P n ds ops ⟨fun a w => ∃ l1, R l1 w ∧ Ok n ds l1 a, fun _ _ => False, []⟩ (rest.take k) l w) (h2 : ∀ l1 w1, R l1 w1 → SL r P n ds ops q (rest.drop k) l1 w1) :
    SL r P n ds ops q rest l w := fun a ha => by
  rw [← List.take_append_drop k rest]
  refine wpListIn_append _ a w ?_
  refine wpListIn_mono' ?_ _ _ _ (h1 a ha)
  intro e a w hq
  cases e with
  | normal => obtain ⟨l1, hR, hok⟩ := hq; exact ⟨rfl, h2 l1 w hR a hok⟩
  | ret => exact hq.elim
  | exit id => simp [QQ.fn] at hq
  | goto l => exact hq.elim
  | panic c => exact hq.elim
  | outgrown => exact hq.elim
end
end Go.XK
