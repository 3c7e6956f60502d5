/- Chapter 27: equality of images. My own text. -/
import Derived.Test.YtlgkjpmaekkpjaaC1
import Derived.Laws.StructEq
namespace Go.Proofs.Ytlgkjpmaekkpjaa
open Go.XK Go.RowKit
theorem int_beq (a b : Int) : (a == b) = decide (a = b) := rfl
theorem ite_and (c d : Bool) (w : World) : (if c = false then Result.ok false w else Result.ok d w) = Result.ok (c && d) w := by cases c <;> rfl
theorem run_neq_img (x y : Operand) (a b : Img) (w : World) : (do eqGuard .neq 34 x y (.agg a.enc.toArray) (.agg b.enc.toArray); binOp .neq 34 (.agg a.enc.toArray) (.agg b.enc.toArray) : Sem Value).run Try.prog w = .ok (.bool (decide (a ≠ b))) w := by
  have hf : (Try.prog.fieldsOf 34).toList = [⟨"Platform", 3, 0, false, "", "", 0⟩, ⟨"Media", 3, 1, false, "", "", 8⟩, ⟨"Segment", 3, 2, false, "", "", 16⟩, ⟨"Sectors", 3, 3, false, "", "", 24⟩, ⟨"LBA", 3, 4, false, "", "", 32⟩, ⟨"Bootable", 4, 5, false, "", "", 40⟩] := by kernel_rfl
  rw [Sem.run_bind, run_eqGuard_agg _ _ _ _ _ _ _ (by kernel_rfl), Result.andThen_ok, run_neq_struct, run_equalIn_struct _ _ _ _ _ (by kernel_rfl) (by kernel_rfl), hf]
  have hx : (decide (a ≠ b)) = !(decide (a.P = b.P) && (decide (a.M = b.M) && (decide (a.S = b.S) && (decide (a.C = b.C) && (decide (a.L = b.L) && decide (a.b = b.b)))))) := by
    cases a; cases b; simp
  have hb : ∀ p q : Bool, (p == q) = decide (p = q) := fun p q => by cases p <;> cases q <;> rfl
  rw [hx]
  simp [Op.eqFields, Img.enc, part, run_equalIn_int _ _ _ _ _ _ _ Try.underlying3, Try.isAgg3, Try.isAgg4, run_equalIn_bool' _ _ _ _ _ Try.underlying4, ite_and, int_beq, hb]
end Go.Proofs.Ytlgkjpmaekkpjaa
