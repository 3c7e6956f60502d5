/- The law SuspExtensions: its row, out of its walk. Printed by my program; the frame is the kit's printed row turned to this calculus. -/
import Derived.Test.YtnbclhbpjlpcoaaRows
import Derived.Test.YtnbclhbpjlpcoaaRow
import Derived.Test.YtnbclhbpjlpcoaaC13
import Derived.WalkKit
import Derived.ProofKit
import Derived.OpenShut
import Derived.ShutString
import Derived.ChangeOld
import Derived.Below
import Derived.SizedLaws
namespace Go.Proofs.Ytnbclhbpjlpcoaa.suspExtensions
open Go.ChangeShapes Go.WideShapes Go.ChangeAt Go.RowKit Go.XK
open Go.ChangeMaps (open_string shut_string)
set_option linter.unusedVariables false
theorem own : ownKnob Try.prog.godebug = none := by kernel_rfl
theorem laidOut : laidOutB Try.prog = true := by kernel_rfl
set_option maxRecDepth 100000 in
theorem lifted (os : Os) (started : os.Started) (H : Type) (enc : TypeId × Value → H) :
    ReturnsInHanded {} Try.checked os 5 .any (Rows.suspExtensionsSpec.pre6 enc Try.prog Try.f5 Rows.suspExtensionsRow.domain false) (Rows.suspExtensionsSpec.post enc Try.prog Try.f5 false true false false) := by
  refine returnsInHanded_of_change_sized (C := Try.checked) own started (by kernel_rfl) Try.func5
    (ChangeSpec.witness6 (enc := enc) (C := Try.checked) false ⟨#[], #[.int .i64 0, .string ByteArray.empty, .string ByteArray.empty, .string ByteArray.empty, .string ByteArray.empty, .slice none 0 0], []⟩ 8 (by kernel_rfl) (by kernel_rfl) (by kernel_rfl) (by kernel_rfl)) ?_
  intro W base args ds gs before hval0 hW hcnd hsz0 _
  have hsz : (DataW.weightsEach Try.prog (Try.f5.params.toList ++ Rows.suspExtensionsSpec.plain.varTypes Try.prog) (ds ++ gs)).all (· ≤ reachBytes) = true := hsz0
  have hval : ∀ (j : Nat) t v, Try.f5.params[j]? = some t → args[j]? = some v → Value.okWide Try.prog W .any base t v := hval0
  have hW' := hW
  obtain ⟨p, q, hA0, hV, rfl, hfz, hnd⟩ := hW
  have hA : DataW.TrodAll enc Try.prog W 0 (fun _ => true) true Try.f5.params.toList args.toList ds p := hA0
  rw [Try.params5] at hA hval hsz
  obtain ⟨v0, vs0, d0, ds0, p0, q0, hargs, rfl, rfl, h0, r0⟩ := trodAll_cons hA
  obtain ⟨v1, vs1, d1, ds1, p1, q1, rfl, rfl, rfl, h1, r1⟩ := trodAll_cons r0
  obtain ⟨v2, vs2, d2, ds2, p2, q2, rfl, rfl, rfl, h2, r2⟩ := trodAll_cons r1
  obtain ⟨v3, vs3, d3, ds3, p3, q3, rfl, rfl, rfl, h3, r3⟩ := trodAll_cons r2
  obtain ⟨v4, vs4, d4, ds4, p4, q4, rfl, rfl, rfl, h4, r4⟩ := trodAll_cons r3
  obtain ⟨v5, vs5, d5, ds5, p5, q5, rfl, rfl, rfl, h5, r5⟩ := trodAll_cons r4
  obtain ⟨rfl, rfl, rfl⟩ := trodAll_nil r5
  obtain rfl : args = #[v0, v1, v2, v3, v4, v5] := by cases args; simp_all
  obtain ⟨rfl, rfl⟩ := trodVars_none hV
  obtain ⟨a0, rfl, rfl, rfl, w0⟩ := open_int Try.underlying3 (hval 0 3 v0 rfl rfl) h0
  obtain ⟨a1, rfl, rfl, rfl, y1⟩ := open_string Try.underlying9 (hval 1 9 v1 rfl rfl) h1
  obtain ⟨a2, rfl, rfl, rfl, y2⟩ := open_string Try.underlying9 (hval 2 9 v2 rfl rfl) h2
  obtain ⟨a3, rfl, rfl, rfl, y3⟩ := open_string Try.underlying9 (hval 3 9 v3 rfl rfl) h3
  obtain ⟨a4, rfl, rfl, rfl, y4⟩ := open_string Try.underlying9 (hval 4 9 v4 rfl rfl) h4
  obtain ⟨a5, len5, cap5, rfl⟩ := okWide_slice Try.underlying22 (hval 5 22 v5 rfl rfl)
  have k5 := h5
  have lt5 : ∀ x ∈ p5, x.block < W.heap.size := by obtain ⟨m, hm⟩ := k5; exact DataW.trod_lt m _ _ _ hm
  obtain ⟨z5, hz5, hr5, hok5⟩ := open_slr encE (fun x => x.g.length ≤ 9223372036854775807) (k := 3) Try.underlying22 (by kernel_rfl) open_en h5
  subst hz5
  have b1 : a1.data.toList.length ≤ 140737488351232 := by
    have hw := List.all_eq_true.1 hsz a1.data.toList.length (by simp [DataW.weightsEach, DataW.weights])
    exact of_decide_eq_true (p := a1.data.toList.length ≤ 140737488351232) hw
  have b2 : a2.data.toList.length ≤ 140737488351232 := by
    have hw := List.all_eq_true.1 hsz a2.data.toList.length (by simp [DataW.weightsEach, DataW.weights])
    exact of_decide_eq_true (p := a2.data.toList.length ≤ 140737488351232) hw
  have b3 : a3.data.toList.length ≤ 140737488351232 := by
    have hw := List.all_eq_true.1 hsz a3.data.toList.length (by simp [DataW.weightsEach, DataW.weights])
    exact of_decide_eq_true (p := a3.data.toList.length ≤ 140737488351232) hw
  have b4 : a4.data.toList.length ≤ 140737488351232 := by
    have hw := List.all_eq_true.1 hsz a4.data.toList.length (by simp [DataW.weightsEach, DataW.weights])
    exact of_decide_eq_true (p := a4.data.toList.length ≤ 140737488351232) hw
  clear hA0 hval0 hsz0 hsz
  refine Calls.mono (exts_s a0 a1 a2 a3 a4 z5 a5 cap5 W b1 b2 b3 b4 hr5) fun e W' ⟨v, he, hv, bel⟩ => ?_
  subst hv
  subst he
  exact ⟨_, rfl, _, _, _, [], _, [], hW', trodAll_mk1 (shut_bool Try.underlying4 _), (trodAll_cons_mk (shut_int Try.underlying3 w0) (trodAll_cons_mk (shut_string Try.underlying9 y1) (trodAll_cons_mk (shut_string Try.underlying9 y2) (trodAll_cons_mk (shut_string Try.underlying9 y3) (trodAll_cons_mk (shut_string Try.underlying9 y4) (trodAll_cons_mk (Below.trod laidOut (by kernel_rfl) (of_decide_eq_true (by kernel_rfl)) k5 bel lt5) trodAll_mk0)))))), rfl, bel.frame _, fun h => by cases h⟩
theorem over : Rows.suspExtensionsRow.holds Try.pinned (OpenSpec.ofChange Rows.suspExtensionsSpec) :=
  OpenClaim.holds_of_wide 5 Try.f5 rfl rfl rfl rfl rfl rfl rfl ⟨rfl, rfl, rfl, rfl, rfl⟩ rfl rfl rfl rfl rfl (by kernel_rfl) Try.func5 (by kernel_rfl)
    (of_decide_eq_true (by kernel_rfl)) (by unfold Func.isWrapper; first | (rw [if_pos (by decide +kernel)]; kernel_rfl) | (rw [if_neg (by decide +kernel)]; exact ⟨rfl, rfl⟩))
    (fun os started H enc _ => lifted os started H enc)
theorem proved : Rows.SuspExtensionsSaid := over
#print axioms proved
end Go.Proofs.Ytnbclhbpjlpcoaa.suspExtensions
namespace Go.Proofs.Ytnbclhbpjlpcoaa
/-- The row, under a short name, for the claim. -/
theorem suspExtensions_holds : Rows.SuspExtensionsSaid := suspExtensions.proved
end Go.Proofs.Ytnbclhbpjlpcoaa
