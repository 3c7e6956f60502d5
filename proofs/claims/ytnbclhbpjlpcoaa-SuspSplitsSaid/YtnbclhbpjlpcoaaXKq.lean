/- The calculus of the walks, part 17: slices of slices that are read; more comparisons. My own text. -/
import Derived.Test.YtnbclhbpjlpcoaaXKo
import Derived.Laws.Small
set_option linter.unusedVariables false
set_option linter.unusedSimpArgs false
namespace Go.XK
open Go.RowKit
section
variable {P : Program} {n : Nat} {ds : List Deferred} {l : Env} {w w0 : World} {ty t t2 : TypeId} {x y : Operand} {a b : UInt8}
theorem e_blt (hx : val l x = some (.int .u8 (a.toNat : Int))) (hy : val l y = some (.int .u8 (b.toNat : Int))) : Ev P n ds l w (.binOp .lss t x y t2) ty (.bool (decide (a < b))) w := by
  have h := e_lt (P := P) (n := n) (ds := ds) (w := w) (t := t) (t2 := t2) (ty := ty) hx hy
  rwa [show decide ((a.toNat : Int) < b.toNat) = decide (a < b) from by simp [UInt8.lt_iff_toNat_lt]] at h
theorem e_max2 {k : IntKind} {i j m : Int} {tys : Array TypeId} (hx : val l x = some (.int k i)) (hy : val l y = some (.int k j)) (hm : m = if j > i then j else i) : Ev P n ds l w (.call ⟨.builtin .max, #[x, y], tys⟩) ty (.int k m) w := by
  subst hm
  refine e_builtin (xs := [x, y]) (vs := [.int k i, .int k j]) (by simp only [vals, hx, hy]) (fun cs => ?_)
  show (do pure (.value (← Builtin.max_ tys ty #[.int k i, .int k j])) : Sem Next).run P w = _
  simp [run_max_int2]
theorem e_min2 {k : IntKind} {i j m : Int} {tys : Array TypeId} (hx : val l x = some (.int k i)) (hy : val l y = some (.int k j)) (hm : m = if j < i then j else i) : Ev P n ds l w (.call ⟨.builtin .min, #[x, y], tys⟩) ty (.int k m) w := by
  subst hm
  refine e_builtin (xs := [x, y]) (vs := [.int k i, .int k j]) (by simp only [vals, hx, hy]) (fun cs => ?_)
  show (do pure (.value (← Builtin.min_ tys ty #[.int k i, .int k j])) : Sem Next).run P w = _
  simp [run_min_int2]
theorem e_idxArr {k : IntKind} {i : Int} {m sz b o o' : Nat} {e : TypeId} (ht : P.underlying t = some (.array m e)) (hsz : ∀ w, (sizeOf e).run P w = .ok sz w) (hx : val l x = some (.pointer (some ⟨b, o, none⟩))) (hy : val l y = some (.int k i)) (h0 : 0 ≤ i) (h1 : i < m) (ho : o + i.toNat * sz = o') :
    Ev P n ds l w (.indexAddr t x y) ty (.pointer (some ⟨b, o', none⟩)) w := by
  have h : Ev P n ds l w (.indexAddr t x y) ty (.pointer (some ((⟨b, o, none⟩ : Addr).add (i.toNat * sz)))) w :=
    e_run (S := fun a => Instr.indexAt t (a.eval x) (a.eval y)) (fun _ _ _ _ _ => rfl) fun a ha => by
      rw [ha.eval hx, ha.eval hy]
      simp [Instr.indexAt, asIntOf, run_underlying ht, h0, h1, hsz, go_sem]
  rwa [add0, ho] at h
theorem e_sdrop {s : List UInt8} {lo : Nat} {y : Option Operand} (ht : P.underlying t = some .string) (hx : val l x = some (.string (B s))) (hy : Bd l y 0 lo) (h2 : lo ≤ s.length) : Ev P n ds l w (.slice t x y none none) ty (.string (B (s.drop lo))) w := by
  have h := e_sslice (P := P) (n := n) (ds := ds) (w := w) (ty := ty) (hi := s.length) ht hx hy Bd.no h2 (Nat.le_refl _)
  rwa [List.take_of_length_le (Nat.le_refl _)] at h
end
section
variable {α : Type} {enc : α → List Value} {w w' : World} {A : Option Addr} {c k : Nat} {xs : List α}
theorem SlR.slice (h : SlR w A c k enc xs) {lo hi : Nat} (h1 : lo ≤ hi) (h2 : hi ≤ xs.length) : SlR w (if c = lo then A else A.map (·.add (lo * k))) (c - lo) k enc ((xs.take hi).drop lo) := by
  refine ⟨h.1.slice h.2.1 h2, by have := h.2.1; simp; omega, by have := h.2.2.1; omega, fun hA => ?_⟩
  by_cases hc : c = lo
  · omega
  · rw [if_neg hc, Option.map_eq_none_iff] at hA
    have := h.2.2.2 hA; omega
end
section
variable {r : Option Nat} {P : Program} {n : Nat} {ds : List Deferred} {ops : Array Oper} {q : QQ} {l : Env} {w w0 w1 : World} {rest : List Oper} {ty t e : TypeId} {pos : String} {aft : Array Edge} {d : Nat} {x : Operand} {y z : Option Operand} {α : Type} {enc : α → List Value} {xs : List α} {A : Option Addr} {m cap kk lo hi : Nat}
theorem s_slS (lo hi : Nat) (ys : List α) (ht : P.underlying t = some (.slice e)) (hsz : ∀ w, (sizeOf e).run P w = .ok kk w) (hx : val l x = some (.slice A m cap)) (hR : SlR w0 A cap kk enc xs) (hm : m = xs.length) (hy : Bd l y 0 lo) (hz : Bd l z m hi) (h1 : lo ≤ hi) (h2 : hi ≤ xs.length) (hys : (xs.take hi).drop lo = ys)
    (h : ∀ A' c', SlR w0 A' c' kk enc ys → SL r P n ds ops q rest ((d, .slice A' ys.length c') :: l) w) (hd : d < n := by decide) : SL r P n ds ops q (⟨some d, .slice t x y z none, ty, pos, aft, none⟩ :: rest) l w := by
  subst hys
  have hl : ((xs.take hi).drop lo).length = hi - lo := by simp; omega
  refine s (e_slslice ht hsz hx hy hz h1 (by have := hR.2.1; omega)) ?_ rfl hd
  have := h _ (cap - lo) (hR.slice h1 h2)
  rw [hl] at this
  exact this
end
end Go.XK
