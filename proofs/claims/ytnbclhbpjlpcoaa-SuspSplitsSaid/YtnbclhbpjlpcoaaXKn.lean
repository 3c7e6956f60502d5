/- The calculus of the walks, part 14: operations under a guard, as if there were none. My own text. -/
import Derived.Test.YtnbclhbpjlpcoaaXKm
import Derived.Laws.Pointers
import Derived.Laws.StructEq
set_option linter.unusedVariables false
set_option linter.unusedSimpArgs false
namespace Go.XK
open Go.RowKit
section
variable {r : Option Nat} {P : Program} {n : Nat} {ds : List Deferred} {ops : Array Oper} {q : QQ} {l : Env} {w w' w1 : World} {rest : List Oper} {ty t t2 e : TypeId} {pos : String} {aft : Array Edge} {d : Option Nat} {o : Op} {f : FuncId} {p v v' u : Value} {x y : Operand} {ad : Addr}
theorem wpIn_guard {a : Act} {K : Act → World → Prop} {Q : Exit → Act → World → Prop} {g : Option (Nat × Bool)} (h : Oper.wpIn (WR r) 0 P ⟨d, o, ty, pos, aft, none⟩ a w K Q) : Oper.wpIn (WR r) 0 P ⟨d, o, ty, pos, aft, g⟩ a w K Q := h
theorem sl_unguard {j t : Nat} {b want : Bool} (hs : guardSlot ops j = some t) (hb : l.lookup t = some (.bool b)) (hw : b = want) (h : SL r P n ds ops q (⟨d, o, ty, pos, aft, none⟩ :: rest) l w) : SL r P n ds ops q (⟨d, o, ty, pos, aft, some (j, want)⟩ :: rest) l w := fun a ha => by
  have h1 := h a ha
  unfold wpListIn at h1 ⊢
  rw [ha.wanted (o := ⟨d, o, ty, pos, aft, some (j, want)⟩) rfl hs hb, hw, if_pos (by cases want <;> rfl)]
  rw [if_pos (by rfl)] at h1
  exact wpIn_guard h1
theorem callArg1 (h : v = v') {R : Value → World → Prop} (hc : CallR P f [p, v'] w R) : CallR P f [p, v] w R := h ▸ hc
theorem e_peqnil (ht : P.underlying t = some (.pointer (P.pointee t))) (hx : val l x = some (.pointer (some ad))) (hy : val l y = some (.pointer none)) : Ev P n ds l w (.binOp .eql t x y t2) ty (.bool false) w :=
  e_bin hx hy (by
    rw [Sem.run_bind, show (eqGuard .eql t x y (.pointer (some ad)) (.pointer none)).run P w = .ok () w from by simp [eqGuard, go_sem], Result.andThen_ok, run_eql_pointer_nil w t (some ad) ht]; rfl)
theorem e_pnenil (ht : P.underlying t = some (.pointer (P.pointee t))) (hx : val l x = some (.pointer none)) (hy : val l y = some (.pointer none)) : Ev P n ds l w (.binOp .eql t x y t2) ty (.bool true) w :=
  e_bin hx hy (by
    rw [Sem.run_bind, show (eqGuard .eql t x y (.pointer none) (.pointer none)).run P w = .ok () w from by simp [eqGuard, go_sem], Result.andThen_ok, run_eql_pointer_nil w t none ht]; rfl)
theorem e_booleq {a b : Bool} (ht : P.underlying t = some .bool) (hx : val l x = some (.bool a)) (hy : val l y = some (.bool b)) : Ev P n ds l w (.binOp .eql t x y t2) ty (.bool (a == b)) w :=
  e_bin hx hy (by simp [eqGuard, binOp, Op.equal, Op.maxDepth, run_equalIn_bool' _ _ _ _ _ ht])
theorem e_boolne {a b : Bool} (ht : P.underlying t = some .bool) (hx : val l x = some (.bool a)) (hy : val l y = some (.bool b)) : Ev P n ds l w (.binOp .neq t x y t2) ty (.bool (a != b)) w :=
  e_bin hx hy (by simp [eqGuard, binOp, Op.equal, Op.maxDepth, run_equalIn_bool' _ _ _ _ _ ht]; cases a <;> cases b <;> rfl)
end
end Go.XK
namespace Go.XK
/-- Each operation of the tail waits for each one of the head, directly. -/
def waitsD (ops : Array Oper) (h : Nat) : Bool := (List.range ops.size).all fun k => decide (k < h) || (List.range h).all fun j => hasPred ops k j
theorem hasPred_lt {ops : Array Oper} {k j : Nat} (h : hasPred ops k j = true) : k < ops.size := by
  unfold hasPred at h
  cases ho : ops[k]? with
  | none => rw [ho] at h; cases h
  | some o => exact (Array.getElem?_eq_some_iff.1 ho).1
theorem waits_of {ops : Array Oper} {h : Nat} (hle : h ≤ ops.size) (hw : waitsD ops h = true) : waits ops h = true := by
  unfold waitsD at hw
  unfold waits
  rw [List.all_eq_true] at hw ⊢
  intro k hk
  have h1 := hw k hk
  rw [Bool.or_eq_true] at h1 ⊢
  rcases h1 with h1 | h1
  · exact .inl h1
  · refine .inr ?_
    rw [List.all_eq_true] at h1 ⊢
    intro j hj
    have h2 := h1 j hj
    have h3 := hasPred_lt h2
    obtain ⟨m, hm⟩ : ∃ m, ops.size = m + 1 := ⟨ops.size - 1, by omega⟩
    rw [hm]
    unfold waits.reach
    rw [List.any_eq_true]
    refine ⟨j, List.mem_range.2 (by have := List.mem_range.1 hj; omega), ?_⟩
    rw [h2]; simp
end Go.XK
namespace Go.XK
theorem all_c1 {p : Value → Bool} {a : Value} {r : List Value} (h : [a].all p = true) (hr : r.all p = true) : (a :: r).all p = true := by
  rw [List.all_cons, Bool.and_eq_true]
  rw [List.all_cons, Bool.and_eq_true] at h
  exact ⟨h.1, hr⟩
end Go.XK
