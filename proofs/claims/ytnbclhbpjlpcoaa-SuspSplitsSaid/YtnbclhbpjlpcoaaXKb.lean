/- The calculus of the walks, part 2: what each operation leaves. My own text. -/
import Derived.Test.YtnbclhbpjlpcoaaXKa
import Derived.IntWalk
import Derived.Laws.BytesArg
import Derived.Lib.ConvBytes
import Derived.Laws.Strings
set_option linter.unusedVariables false
set_option linter.unusedSimpArgs false
namespace Go.XK
open Go.RowKit

/-- The string of these bytes. -/
def B (l : List UInt8) : ByteArray := ⟨l.toArray⟩
theorem B_toList (l : List UInt8) : (B l).toList = l := ByteArray.toList_mk l
theorem B_data (s : ByteArray) : B s.data.toList = s := by cases s; simp [B]
theorem B_size (l : List UInt8) : (B l).size = l.length := by simp [B, ByteArray.size]
theorem B_inj {a b : List UInt8} (h : B a = B b) : a = b := by
  have := congrArg (fun s : ByteArray => s.data.toList) h
  simpa [B] using this
theorem B_append (a b : List UInt8) : B a ++ B b = B (a ++ b) := by
  have : (B a ++ B b).data = (B (a ++ b)).data := by simp [B, ByteArray.data_append]
  cases h : B a ++ B b
  rw [h] at this
  simp only [B] at this ⊢
  rw [this]
theorem B_extract (l : List UInt8) (lo hi : Nat) : (B l).extract lo hi = B ((l.take hi).drop lo) := by
  have : ((B l).extract lo hi).data = (B ((l.take hi).drop lo)).data := by
    simp only [B, ByteArray.data_extract]
    simp [List.extract_toArray, List.extract_eq_take_drop, List.drop_take]
  cases h : (B l).extract lo hi
  rw [h] at this
  simp only [B] at this ⊢
  rw [this]
theorem B_get (l : List UInt8) (i : Nat) : (B l)[i]? = l[i]? := by
  by_cases h : i < l.length
  · have h' : i < (B l).size := by rw [B_size]; exact h
    rw [getElem?_pos (B l) i h', getElem?_pos l i h]
    simp [B, ByteArray.getElem_eq_getElem_data]
  · have h' : ¬ i < (B l).size := by rw [B_size]; exact h
    rw [getElem?_neg (B l) i h', getElem?_neg l i h]

section
variable {r : Option Nat} {P : Program} {n : Nat} {ds : List Deferred} {ops : Array Oper} {q : QQ} {l : Env} {w w1 : World} {ty t t1 t2 : TypeId} {k : IntKind} {x y z : Operand} {u v : Value}

theorem e_move (hx : val l x = some v) : Ev P n ds l w (.move x) ty v w := fun a _ _ _ _ ha => by
  show (pure (.value (a.eval x)) : Sem Next).run P w = _
  rw [ha.eval hx]; rfl
theorem e_assign (hx : val l x = some v) : Ev P n ds l w (.assign x) ty v w := fun a _ _ _ _ ha => by
  show (pure (.value (a.eval x)) : Sem Next).run P w = _
  rw [ha.eval hx]; rfl
theorem e_pickT {b : Bool} (hc : val l x = some (.bool b)) (hb : b = true) (hy : val l y = some v) : Ev P n ds l w (.pick x y z) ty v w := fun a _ _ _ _ ha => by
  subst hb
  show (do pure (Next.value (if ← asBool (a.eval x) then a.eval y else a.eval z)) : Sem Next).run P w = _
  rw [ha.eval hc, ha.eval hy]; rfl
theorem e_pickF {b : Bool} (hc : val l x = some (.bool b)) (hb : b = false) (hz : val l z = some v) : Ev P n ds l w (.pick x y z) ty v w := fun a _ _ _ _ ha => by
  subst hb
  show (do pure (Next.value (if ← asBool (a.eval x) then a.eval y else a.eval z)) : Sem Next).run P w = _
  rw [ha.eval hc, ha.eval hz]; rfl
/-- Whatever Sem gives the value. -/
theorem e_run {o : Op} {S : Act → Sem Value} (h1 : ∀ a dst pos aft g, execOp a.eval ⟨dst, o, ty, pos, aft, g⟩ = (do pure (Next.value (← S a)))) (h2 : ∀ a, Ok n ds l a → (S a).run P w = .ok v w1) : Ev P n ds l w o ty v w1 := fun a dst pos aft g ha => by
  rw [h1]
  have := h2 a ha
  simp [Sem.run_bind, this, Result.andThen]
theorem u_run {o : Op} {S : Act → Sem Unit} (h1 : ∀ a dst pos aft g, execOp a.eval ⟨dst, o, ty, pos, aft, g⟩ = (do S a; pure Next.skip)) (h2 : ∀ a, Ok n ds l a → (S a).run P w = .ok () w1) : Un P n ds l w o ty w1 := fun a dst pos aft g ha => by
  rw [h1]
  have := h2 a ha
  simp [Sem.run_bind, this, Result.andThen]
theorem e_not {b : Bool} (hx : val l x = some (.bool b)) : Ev P n ds l w (.unOp .not t x) ty (.bool (!b)) w :=
  e_run (fun _ _ _ _ _ => rfl) fun a ha => by rw [ha.eval hx]; rfl
theorem e_notd {p : Prop} [Decidable p] (hx : val l x = some (.bool (decide p))) : Ev P n ds l w (.unOp .not t x) ty (.bool (decide (¬ p))) w := by
  have h := e_not (P := P) (n := n) (ds := ds) (w := w) (t := t) (ty := ty) hx
  rwa [show (!decide p) = decide (¬ p) from by simp] at h

/-! ### Whole numbers -/
theorem e_bin {op : BinOp} {va vb : Value} (hx : val l x = some va) (hy : val l y = some vb) (h : (do eqGuard op t x y va vb; binOp op t va vb : Sem Value).run P w = .ok v w1) : Ev P n ds l w (.binOp op t x y t2) ty v w1 :=
  e_run (S := fun a => do eqGuard op t x y (a.eval x) (a.eval y); binOp op t (a.eval x) (a.eval y)) (fun _ _ _ _ _ => rfl) fun a ha => by
    rw [ha.eval hx, ha.eval hy]; exact h
variable {i j : Int}
theorem i64_id (h1 : -9223372036854775808 ≤ i) (h2 : i ≤ 9223372036854775807) : IntKind.i64.wrap i = i := IntWalk.i64_in i ⟨h1, h2⟩
theorem e_addw (hx : val l x = some (.int k i)) (hy : val l y = some (.int k j)) : Ev P n ds l w (.binOp .add t x y t2) ty (.int k (k.wrap (i + j))) w :=
  e_bin hx hy (by simp [eqGuard, binOp, Op.intArith])
theorem e_subw (hx : val l x = some (.int k i)) (hy : val l y = some (.int k j)) : Ev P n ds l w (.binOp .sub t x y t2) ty (.int k (k.wrap (i - j))) w :=
  e_bin hx hy (by simp [eqGuard, binOp, Op.intArith])
theorem e_mulw (hx : val l x = some (.int k i)) (hy : val l y = some (.int k j)) : Ev P n ds l w (.binOp .mul t x y t2) ty (.int k (k.wrap (i * j))) w :=
  e_bin hx hy (by simp [eqGuard, binOp, Op.intArith])
theorem e_add (hx : val l x = some (.int .i64 i)) (hy : val l y = some (.int .i64 j)) (h : -9223372036854775808 ≤ i + j ∧ i + j ≤ 9223372036854775807) : Ev P n ds l w (.binOp .add t x y t2) ty (.int .i64 (i + j)) w := by
  have := e_addw (P := P) (n := n) (ds := ds) (w := w) (t := t) (t2 := t2) (ty := ty) hx hy
  rwa [i64_id h.1 h.2] at this
theorem e_sub (hx : val l x = some (.int .i64 i)) (hy : val l y = some (.int .i64 j)) (h : -9223372036854775808 ≤ i - j ∧ i - j ≤ 9223372036854775807) : Ev P n ds l w (.binOp .sub t x y t2) ty (.int .i64 (i - j)) w := by
  have := e_subw (P := P) (n := n) (ds := ds) (w := w) (t := t) (t2 := t2) (ty := ty) hx hy
  rwa [i64_id h.1 h.2] at this
theorem e_mul (hx : val l x = some (.int .i64 i)) (hy : val l y = some (.int .i64 j)) (h : -9223372036854775808 ≤ i * j ∧ i * j ≤ 9223372036854775807) : Ev P n ds l w (.binOp .mul t x y t2) ty (.int .i64 (i * j)) w := by
  have := e_mulw (P := P) (n := n) (ds := ds) (w := w) (t := t) (t2 := t2) (ty := ty) hx hy
  rwa [i64_id h.1 h.2] at this
theorem e_lt (hx : val l x = some (.int k i)) (hy : val l y = some (.int k j)) : Ev P n ds l w (.binOp .lss t x y t2) ty (.bool (decide (i < j))) w :=
  e_bin hx hy (by simp [eqGuard, binOp, Op.intCmp])
theorem e_le (hx : val l x = some (.int k i)) (hy : val l y = some (.int k j)) : Ev P n ds l w (.binOp .leq t x y t2) ty (.bool (decide (i ≤ j))) w :=
  e_bin hx hy (by simp [eqGuard, binOp, Op.intCmp])
theorem e_gt (hx : val l x = some (.int k i)) (hy : val l y = some (.int k j)) : Ev P n ds l w (.binOp .gtr t x y t2) ty (.bool (decide (j < i))) w :=
  e_bin hx hy (by simp [eqGuard, binOp, Op.intCmp])
theorem e_ge (hx : val l x = some (.int k i)) (hy : val l y = some (.int k j)) : Ev P n ds l w (.binOp .geq t x y t2) ty (.bool (decide (j ≤ i))) w :=
  e_bin hx hy (by simp [eqGuard, binOp, Op.intCmp])
theorem e_eq (hx : val l x = some (.int k i)) (hy : val l y = some (.int k j)) : Ev P n ds l w (.binOp .eql t x y t2) ty (.bool (decide (i = j))) w :=
  e_bin hx hy (by
    have : (i == j) = decide (i = j) := rfl
    simp [eqGuard, binOp, Op.intCmp, this])
theorem e_ne (hx : val l x = some (.int k i)) (hy : val l y = some (.int k j)) : Ev P n ds l w (.binOp .neq t x y t2) ty (.bool (decide (i ≠ j))) w :=
  e_bin hx hy (by
    have : (i != j) = decide (i ≠ j) := by simp [bne, show (i == j) = decide (i = j) from rfl]
    simp [eqGuard, binOp, Op.intCmp, this])
theorem e_quo (hx : val l x = some (.int .i64 i)) (hy : val l y = some (.int .i64 j)) (h0 : 0 ≤ i) (h1 : i ≤ 9223372036854775807) (hj : 0 < j) : Ev P n ds l w (.binOp .quo t x y t2) ty (.int .i64 (i / j)) w :=
  e_bin hx hy (by
    have e : i.tdiv j = i / j := Int.tdiv_eq_ediv_of_nonneg h0
    have b0 : 0 ≤ i / j := Int.ediv_nonneg h0 (by omega)
    have b1 : i / j ≤ i := Int.ediv_le_self j h0
    have hj' : j ≠ 0 := by omega
    simp [eqGuard, binOp, Op.intDiv, hj', e, i64_id (i := i / j) (by omega) (by omega)])
theorem e_rem (hx : val l x = some (.int k i)) (hy : val l y = some (.int k j)) (h0 : 0 ≤ i) (hj : 0 < j) : Ev P n ds l w (.binOp .rem t x y t2) ty (.int k (i % j)) w :=
  e_bin hx hy (by
    have e : i.tmod j = i % j := Int.tmod_eq_emod_of_nonneg h0
    have hj' : j ≠ 0 := by omega
    simp [eqGuard, binOp, Op.intDiv, hj', e])
/-- The go remainder as it stands. -/
theorem e_remt (hx : val l x = some (.int k i)) (hy : val l y = some (.int k j)) (hj : j ≠ 0) : Ev P n ds l w (.binOp .rem t x y t2) ty (.int k (i.tmod j)) w :=
  e_bin hx hy (by simp [eqGuard, binOp, Op.intDiv, hj])
theorem e_shl {k2 : IntKind} (hx : val l x = some (.int k i)) (hy : val l y = some (.int k2 j)) (h0 : 0 ≤ j) : Ev P n ds l w (.binOp .shl t x y t2) ty (.int k (k.wrap (i * 2 ^ (min j.toNat k.bits)))) w :=
  e_bin hx hy (by simp [eqGuard, binOp, Op.shift, show ¬ j < 0 from by omega])
theorem e_shr {k2 : IntKind} (hx : val l x = some (.int k i)) (hy : val l y = some (.int k2 j)) (h0 : 0 ≤ j) : Ev P n ds l w (.binOp .shr t x y t2) ty (.int k (i.fdiv (2 ^ (min j.toNat k.bits)))) w :=
  e_bin hx hy (by simp [eqGuard, binOp, Op.shift, show ¬ j < 0 from by omega])
theorem e_conv {k2 : IntKind} {m : Int} {u : TypeDesc} (hs : P.underlying t1 = some u) (hd : P.underlying t2 = some (.int k2)) (hx : val l x = some (.int k i)) (hm : k2.wrap i = m) : Ev P n ds l w (.convert t1 t2 x) ty (.int k2 m) w :=
  e_run (S := fun a => convert t1 t2 (a.eval x)) (fun _ _ _ _ _ => rfl) fun a ha => by
    rw [ha.eval hx]
    subst hm
    simp [convert, run_underlying hs, run_underlying hd, Conv.intToInt, go_sem]
end
section
variable {r : Option Nat} {P : Program} {n : Nat} {ds : List Deferred} {ops : Array Oper} {q : QQ} {l : Env} {w w1 : World} {ty t t1 t2 : TypeId} {k : IntKind} {x y z : Operand} {u v : Value} {i j : Int} {s s' : List UInt8}

/-! ### Strings -/
theorem e_seq (hx : val l x = some (.string (B s))) (hy : val l y = some (.string (B s'))) : Ev P n ds l w (.binOp .eql t x y t2) ty (.bool (decide (s = s'))) w :=
  e_bin hx hy (by
    have : (s == s') = decide (s = s') := by rw [Bool.eq_iff_iff]; simp
    simp [eqGuard, binOp, Op.stringOp, B_toList, this])
theorem e_sne (hx : val l x = some (.string (B s))) (hy : val l y = some (.string (B s'))) : Ev P n ds l w (.binOp .neq t x y t2) ty (.bool (decide (s ≠ s'))) w :=
  e_bin hx hy (by
    have : (s == s') = decide (s = s') := by rw [Bool.eq_iff_iff]; simp
    simp [eqGuard, binOp, Op.stringOp, B_toList, this])
theorem e_sadd (hx : val l x = some (.string (B s))) (hy : val l y = some (.string (B s'))) (h : s.length + s'.length ≤ 9223372036854775807) : Ev P n ds l w (.binOp .add t x y t2) ty (.string (B (s ++ s'))) w :=
  e_bin hx hy (by
    have h2 : ¬ ((((B s).size + (B s').size : Nat) : Int) > IntKind.i64.max) := by rw [B_size, B_size, show IntKind.i64.max = 9223372036854775807 from by decide]; omega
    simp only [eqGuard, binOp, Op.stringOp]
    rw [if_neg h2]
    simp [B_append])
theorem e_slen (ht : P.underlying t = some .string) (hx : val l x = some (.string (B s))) : Ev P n ds l w (.call ⟨.builtin .len, #[x], #[t]⟩) ty (.int .i64 s.length) w := fun a _ _ _ _ ha => by
  simp only [execOp, resolve, invoke, builtin, Sem.run_bind, Sem.run_pure, Result.andThen_ok, List.map_toArray, List.map_cons, List.map_nil, ha.eval hx, Builtin.len_]
  simp [run_underlying ht, goInt, B_size, go_sem]
theorem e_len {A : Option Addr} {m c : Nat} {e : TypeId} (ht : P.underlying t = some (.slice e)) (hx : val l x = some (.slice A m c)) : Ev P n ds l w (.call ⟨.builtin .len, #[x], #[t]⟩) ty (.int .i64 m) w := fun a _ _ _ _ ha => by
  simp only [execOp, resolve, invoke, builtin, Sem.run_bind, Sem.run_pure, Result.andThen_ok, List.map_toArray, List.map_cons, List.map_nil, ha.eval hx, Builtin.len_]
  simp [run_underlying ht, goInt, go_sem]
theorem e_sidx {b : UInt8} (ht : P.underlying t = some .string) (hx : val l x = some (.string (B s))) (hy : val l y = some (.int k i)) (h0 : 0 ≤ i) (hb : s[i.toNat]? = some b) : Ev P n ds l w (.index t x y) ty (.int .u8 b.toNat) w :=
  e_run (S := fun a => Instr.index t (a.eval x) (a.eval y)) (fun _ _ _ _ _ => rfl) fun a ha => by
    rw [ha.eval hx, ha.eval hy]
    simp [Instr.index, asIntOf, run_underlying ht, h0, B_get, hb, go_sem]
/-- A bound of a slice expression: the number, where it is given. -/
def Bd (l : Env) (x : Option Operand) (dflt m : Nat) : Prop := (x = none ∧ m = dflt) ∨ ∃ y k, x = some y ∧ val l y = some (.int k (m : Int))
theorem Bd.no {d : Nat} : Bd l none d d := .inl ⟨rfl, rfl⟩
theorem Bd.at_ {d m : Nat} (hy : val l y = some (.int k i)) (hi : i = m) : Bd l (some y) d m := .inr ⟨y, k, rfl, by rw [hy, hi]⟩
theorem run_bound {m top : Nat} {code : BoundsCode} (h : m ≤ top) : (Instr.sliceBound (.int k (m : Int)) top code).run P w = .ok m w := by
  simp [Instr.sliceBound, asIntOf, go_sem, h]
theorem run_bounds {isS : Bool} {len cap lo hi : Nat} {a : Act} {x y : Option Operand} (ha : Ok n ds l a) (hx : Bd l x 0 lo) (hy : Bd l y len hi) (h1 : lo ≤ hi) (h2 : hi ≤ cap) :
    (Instr.sliceBounds isS len cap (x.map a.eval) (y.map a.eval) none).run P w = .ok (lo, hi, cap) w := by
  unfold Instr.sliceBounds
  rcases hx with ⟨rfl, rfl⟩ | ⟨x1, k1, rfl, hx1⟩ <;> rcases hy with ⟨rfl, rfl⟩ | ⟨y1, k2, rfl, hy1⟩
  · simp only [Option.map_none, Sem.run_bind, Sem.run_pure, Result.andThen_ok]
  · simp only [Option.map_none, Option.map_some, ha.eval hy1, Sem.run_bind, Sem.run_pure, Result.andThen_ok, run_bound h2]
  · simp only [Option.map_none, Option.map_some, ha.eval hx1, Sem.run_bind, Sem.run_pure, Result.andThen_ok, Option.isSome_none, Bool.false_eq_true, if_false, run_bound h1]
  · simp only [Option.map_none, Option.map_some, ha.eval hx1, ha.eval hy1, Sem.run_bind, Sem.run_pure, Result.andThen_ok, Option.isSome_none, Bool.false_eq_true, if_false, run_bound h1, run_bound h2]
theorem e_sslice {lo hi : Nat} {y z : Option Operand} (ht : P.underlying t = some .string) (hx : val l x = some (.string (B s))) (hy : Bd l y 0 lo) (hz : Bd l z s.length hi) (h1 : lo ≤ hi) (h2 : hi ≤ s.length) :
    Ev P n ds l w (.slice t x y z none) ty (.string (B ((s.take hi).drop lo))) w :=
  e_run (S := fun a => Instr.sliceAt t (a.eval x) (y.map a.eval) (z.map a.eval) none) (fun _ _ _ _ _ => rfl) fun a ha => by
    have hb := run_bounds (P := P) (w := w) (isS := false) (len := (B s).size) (cap := (B s).size) ha hy (by rw [B_size]; exact hz) h1 (by rw [B_size]; exact h2)
    rw [ha.eval hx]
    simp only [Instr.sliceAt, Instr.slice, Sem.run_bind, Sem.run_pure, Result.andThen_ok, run_underlying ht, Option.isSome_none, Bool.false_eq_true, if_false, hb, B_extract]
theorem e_slslice {lo hi sz len cap : Nat} {A : Option Addr} {e : TypeId} {y z : Option Operand} (ht : P.underlying t = some (.slice e)) (hsz : ∀ w, (sizeOf e).run P w = .ok sz w) (hx : val l x = some (.slice A len cap)) (hy : Bd l y 0 lo) (hz : Bd l z len hi) (h1 : lo ≤ hi) (h2 : hi ≤ cap) :
    Ev P n ds l w (.slice t x y z none) ty (.slice (if cap = lo then A else A.map (·.add (lo * sz))) (hi - lo) (cap - lo)) w :=
  e_run (S := fun a => Instr.sliceAt t (a.eval x) (y.map a.eval) (z.map a.eval) none) (fun _ _ _ _ _ => rfl) fun a ha => by
    have hb := run_bounds (P := P) (w := w) (isS := true) (len := len) (cap := cap) ha hy hz h1 h2
    rw [ha.eval hx]
    simp only [Instr.sliceAt, Instr.slice, Sem.run_bind, Sem.run_pure, Result.andThen_ok, run_underlying ht, Option.isSome_none, Bool.false_eq_true, if_false, hb, hsz]
/-- string(b), []byte(s) of a constant world by their runs. -/
theorem e_convr (hx : val l x = some u) (h : (convert t1 t2 u).run P w = .ok v w1) : Ev P n ds l w (.convert t1 t2 x) ty v w1 :=
  e_run (S := fun a => convert t1 t2 (a.eval x)) (fun _ _ _ _ _ => rfl) fun a ha => by rw [ha.eval hx]; exact h

/-! ### Structures, tuples, functions -/
theorem e_extract {vs : List Value} {ix : Nat} (hx : val l x = some (.tuple vs.toArray)) (hv : vs[ix]? = some v) : Ev P n ds l w (.extract x ix) ty v w :=
  e_run (S := fun a => Instr.extract (a.eval x) ix) (fun _ _ _ _ _ => rfl) fun a ha => by
    rw [ha.eval hx]
    simp [Instr.extract, hv]
def pvals (l : Env) : List (Nat × Operand) → Option (List (Nat × Value))
  | [] => some []
  | (i, x) :: xs => match val l x, pvals l xs with
    | some v, some vs => some ((i, v) :: vs)
    | _, _ => none
theorem Ok.pevals {a : Act} (ha : Ok n ds l a) : ∀ {xs : List (Nat × Operand)} {vs : List (Nat × Value)}, pvals l xs = some vs → xs.map (fun (i, x) => (i, a.eval x)) = vs
  | [], vs, hx => by simp [pvals] at hx; simp [hx]
  | (i, x) :: xs, vs, hx => by
    simp only [pvals] at hx
    cases h1 : val l x with
    | none => simp [h1] at hx
    | some v =>
      cases h2 : pvals l xs with
      | none => simp [h1, h2] at hx
      | some us =>
        simp [h1, h2] at hx
        subst hx
        simp [ha.eval h1, Ok.pevals ha h2]
theorem e_build {xs : List (Nat × Operand)} {vs : List (Nat × Value)} (hx : pvals l xs = some vs) (h : (Instr.build t vs.toArray).run P w = .ok v w) : Ev P n ds l w (.build t xs.toArray) ty v w :=
  fun a _ _ _ _ ha => by
    simp only [execOp, List.map_toArray, ha.pevals hx, Sem.run_bind, h, Result.andThen_ok, Sem.run_pure]
theorem e_buildSlice {m : Nat} {xs : List (Nat × Operand)} {vs : List (Nat × Value)} (hx : pvals l xs = some vs) (h : (Instr.buildSlice t m vs.toArray).run P w = .ok v w1) : Ev P n ds l w (.buildSlice t m xs.toArray) ty v w1 :=
  fun a _ _ _ _ ha => by
    simp only [execOp, List.map_toArray, ha.pevals hx, Sem.run_bind, h, Result.andThen_ok, Sem.run_pure]
theorem e_makeFunc {f : FuncId} {xs : List Operand} {vs : List Value} (hx : vals l xs = some vs) : Ev P n ds l w (.makeFunc (.func f) #[] xs.toArray) ty (.func (.func f) #[] vs.toArray) w :=
  e_run (S := fun a => Instr.makeFunc (.func f) (#[].map a.eval) (xs.toArray.map a.eval)) (fun _ _ _ _ _ => rfl) fun a ha => by
    simp only [List.map_toArray, ha.evals hx, List.map_nil]; rfl

/-! ### Memory -/
theorem e_alloc (h : ∀ w, (zeroValue t).run P w = .ok u w) : Ev P n ds l w (.alloc t) ty (.pointer (some ⟨w.heap.size, 0, none⟩)) (w.alloc (.cells u.cells t)) :=
  e_run (S := fun _ => Instr.alloc t true (.tuple #[])) (fun _ _ _ _ _ => rfl) fun a ha => by
    simp [Instr.alloc, h, newVar, newRow, go_sem]
theorem e_box (hx : val l x = some u) : Ev P n ds l w (.box t x) ty (.pointer (some ⟨w.heap.size, 0, none⟩)) (w.alloc (.cells u.cells t)) :=
  e_run (S := fun a => Instr.box t (a.eval x)) (fun _ _ _ _ _ => rfl) fun a ha => by
    rw [ha.eval hx]
    simp [Instr.box, newVar, newRow, go_sem]
theorem e_load {ad : Addr} (hx : val l x = some (.pointer (some ad))) (h : (loadVar t ad).run P w = .ok v w) : Ev P n ds l w (.load t x) ty v w :=
  e_run (S := fun a => Instr.loadAt t (a.eval x)) (fun _ _ _ _ _ => rfl) fun a ha => by
    rw [ha.eval hx]
    simp only [Instr.loadAt, Instr.sureAddr, Sem.run_bind, Sem.run_pure, Result.andThen_ok, h]
theorem u_store {ad : Addr} (hx : val l x = some (.pointer (some ad))) (hy : val l y = some v) (h : (storeVar t ad v).run P w = .ok () w1) : Un P n ds l w (.store t x y) ty w1 :=
  u_run (S := fun a => Instr.storeAt t (a.eval x) (a.eval y)) (fun _ _ _ _ _ => rfl) fun a ha => by
    rw [ha.eval hx, ha.eval hy]
    simp only [Instr.storeAt, Instr.sureAddr, Sem.run_bind, Sem.run_pure, Result.andThen_ok, h]
theorem e_field {ad : Addr} {fs : Array Field} {f : Field} {fi sz : Nat} (ht : P.underlying t = some (.struct fs)) (hf : fs[fi]? = some f) (hsz : ∀ w, (sizeOf f.type).run P w = .ok sz w) (h0 : sz ≠ 0) (hx : val l x = some (.pointer (some ad))) :
    Ev P n ds l w (.fieldAddr t x fi) ty (.pointer (some (ad.add f.offset))) w :=
  e_run (S := fun a => Instr.fieldAt t (a.eval x) fi) (fun _ _ _ _ _ => rfl) fun a ha => by
    rw [ha.eval hx]
    simp [Instr.fieldAt, run_underlying ht, hf, Instr.sureAddr, fieldPlace, hsz, h0, go_sem]
theorem e_idxAddr {ad : Addr} {e : TypeId} {m c sz : Nat} (ht : P.underlying t = some (.slice e)) (hsz : ∀ w, (sizeOf e).run P w = .ok sz w) (hx : val l x = some (.slice (some ad) m c)) (hy : val l y = some (.int k i)) (h0 : 0 ≤ i) (h1 : i < m) :
    Ev P n ds l w (.indexAddr t x y) ty (.pointer (some (ad.add (i.toNat * sz)))) w :=
  e_run (S := fun a => Instr.indexAt t (a.eval x) (a.eval y)) (fun _ _ _ _ _ => rfl) fun a ha => by
    rw [ha.eval hx, ha.eval hy]
    simp [Instr.indexAt, asIntOf, run_underlying ht, h0, h1, hsz, go_sem]
theorem e_makeSlice (hx : val l x = some u) (hy : val l y = some v) {v1 : Value} (h : (Instr.makeSlice t u v).run P w = .ok v1 w1) : Ev P n ds l w (.makeSlice t x y) ty v1 w1 :=
  e_run (S := fun a => Instr.makeSlice t (a.eval x) (a.eval y)) (fun _ _ _ _ _ => rfl) fun a ha => by
    rw [ha.eval hx, ha.eval hy]; exact h
theorem e_append {va vb v1 : Value} (hx : val l x = some va) (hy : val l y = some vb) (h : (Builtin.append_ #[t1, t2] ty #[va, vb]).run P w = .ok v1 w1) : Ev P n ds l w (.call ⟨.builtin .append, #[x, y], #[t1, t2]⟩) ty v1 w1 := fun a _ _ _ _ ha => by
  simp only [execOp, resolve, invoke, builtin, Sem.run_bind, Sem.run_pure, Result.andThen_ok, List.map_toArray, List.map_cons, List.map_nil, ha.eval hx, ha.eval hy, h]
theorem e_builtin {b : Builtin} {xs : List Operand} {vs : List Value} {tys : Array TypeId} (hx : vals l xs = some vs)
    (h : ∀ cs, (builtin b tys ty cs vs.toArray).run P w = .ok (.value v) w1) : Ev P n ds l w (.call ⟨.builtin b, xs.toArray, tys⟩) ty v w1 := fun a _ _ _ _ ha => by
  simp only [execOp, resolve, invoke, Sem.run_bind, Sem.run_pure, Result.andThen_ok, List.map_toArray, ha.evals hx, h]
theorem e_lookup {ok : Bool} (hx : val l x = some u) (hy : val l y = some v) {v1 : Value} (h : (Instr.lookup t u v ok).run P w = .ok v1 w1) : Ev P n ds l w (.lookup t x y ok) ty v1 w1 :=
  e_run (S := fun a => Instr.lookup t (a.eval x) (a.eval y) ok) (fun _ _ _ _ _ => rfl) fun a ha => by
    rw [ha.eval hx, ha.eval hy]; exact h
theorem u_mapUpdate {v1 : Value} (hx : val l x = some u) (hy : val l y = some v) (hz : val l z = some v1) (h : (Instr.mapUpdate t u v v1).run P w = .ok () w1) : Un P n ds l w (.mapUpdate t x y z) ty w1 :=
  u_run (S := fun a => Instr.mapUpdate t (a.eval x) (a.eval y) (a.eval z)) (fun _ _ _ _ _ => rfl) fun a ha => by
    rw [ha.eval hx, ha.eval hy, ha.eval hz]; exact h
theorem e_makeMap (h : (Instr.makeMap t none).run P w = .ok v w1) : Ev P n ds l w (.makeMap t none) ty v w1 :=
  e_run (S := fun a => Instr.makeMap t (none : Option Value)) (fun _ _ _ _ _ => rfl) fun a ha => h
end
end Go.XK
