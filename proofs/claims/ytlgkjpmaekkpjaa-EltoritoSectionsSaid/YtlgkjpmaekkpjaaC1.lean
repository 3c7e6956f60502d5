/- Chapter 27: C1. Printed by my program wip/tools/wk.py. -/
import Derived.Test.YtlgkjpmaekkpjaaMath
import Derived.Test.YtlgkjpmaekkpjaaProg
set_option linter.unusedVariables false
set_option linter.unusedSimpArgs false
set_option maxRecDepth 4000
set_option maxHeartbeats 1000000
namespace Go.Proofs.Ytlgkjpmaekkpjaa
open Go.XK Go.RowKit
theorem ent3 : Ent Try.prog 3 := enters_of Try.func3 (by kernel_rfl) rfl
theorem ent4 : Ent Try.prog 4 := enters_of Try.func4 (by kernel_rfl) rfl
theorem ent5 : Ent Try.prog 5 := enters_of Try.func5 (by kernel_rfl) rfl
theorem ent6 : Ent Try.prog 6 := enters_of Try.func6 (by kernel_rfl) rfl
theorem ent7 : Ent Try.prog 7 := enters_of Try.func7 (by kernel_rfl) rfl
theorem ent8 : Ent Try.prog 8 := enters_of Try.func8 (by kernel_rfl) rfl
theorem ent9 : Ent Try.prog 9 := enters_of Try.func9 (by kernel_rfl) rfl
theorem ent10 : Ent Try.prog 10 := enters_of Try.func10 (by kernel_rfl) rfl
theorem ent11 : Ent Try.prog 11 := enters_of Try.func11 (by kernel_rfl) rfl
theorem ent12 : Ent Try.prog 12 := enters_of Try.func12 (by kernel_rfl) rfl
theorem ent13 : Ent Try.prog 13 := enters_of Try.func13 (by kernel_rfl) rfl
theorem ent14 : Ent Try.prog 14 := enters_of Try.func14 (by kernel_rfl) rfl
theorem ent15 : Ent Try.prog 15 := enters_of Try.func15 (by kernel_rfl) rfl
theorem ent16 : Ent Try.prog 16 := enters_of Try.func16 (by kernel_rfl) rfl
theorem ent17 : Ent Try.prog 17 := enters_of Try.func17 (by kernel_rfl) rfl
theorem ent18 : Ent Try.prog 18 := enters_of Try.func18 (by kernel_rfl) rfl
theorem ent19 : Ent Try.prog 19 := enters_of Try.func19 (by kernel_rfl) rfl
theorem ent20 : Ent Try.prog 20 := enters_of Try.func20 (by kernel_rfl) rfl
theorem ent21 : Ent Try.prog 21 := enters_of Try.func21 (by kernel_rfl) rfl
theorem ent22 : Ent Try.prog 22 := enters_of Try.func22 (by kernel_rfl) rfl
theorem ent23 : Ent Try.prog 23 := enters_of Try.func23 (by kernel_rfl) rfl
theorem ent24 : Ent Try.prog 24 := enters_of Try.func24 (by kernel_rfl) rfl
theorem ent25 : Ent Try.prog 25 := enters_of Try.func25 (by kernel_rfl) rfl
theorem ent26 : Ent Try.prog 26 := enters_of Try.func26 (by kernel_rfl) rfl
theorem ent27 : Ent Try.prog 27 := enters_of Try.func27 (by kernel_rfl) rfl
theorem ent28 : Ent Try.prog 28 := enters_of Try.func28 (by kernel_rfl) rfl
theorem ent29 : Ent Try.prog 29 := enters_of Try.func29 (by kernel_rfl) rfl
theorem ent30 : Ent Try.prog 30 := enters_of Try.func30 (by kernel_rfl) rfl
theorem ent31 : Ent Try.prog 31 := enters_of Try.func31 (by kernel_rfl) rfl
theorem ent32 : Ent Try.prog 32 := enters_of Try.func32 (by kernel_rfl) rfl
theorem ent33 : Ent Try.prog 33 := enters_of Try.func33 (by kernel_rfl) rfl
theorem ent34 : Ent Try.prog 34 := enters_of Try.func34 (by kernel_rfl) rfl
theorem ent35 : Ent Try.prog 35 := enters_of Try.func35 (by kernel_rfl) rfl
theorem ent36 : Ent Try.prog 36 := enters_of Try.func36 (by kernel_rfl) rfl
theorem ent37 : Ent Try.prog 37 := enters_of Try.func37 (by kernel_rfl) rfl
theorem ent38 : Ent Try.prog 38 := enters_of Try.func38 (by kernel_rfl) rfl
theorem ent39 : Ent Try.prog 39 := enters_of Try.func39 (by kernel_rfl) rfl
theorem ent40 : Ent Try.prog 40 := enters_of Try.func40 (by kernel_rfl) rfl
theorem ent41 : Ent Try.prog 41 := enters_of Try.func41 (by kernel_rfl) rfl
theorem ent42 : Ent Try.prog 42 := enters_of Try.func42 (by kernel_rfl) rfl
theorem ent43 : Ent Try.prog 43 := enters_of Try.func43 (by kernel_rfl) rfl
theorem ent44 : Ent Try.prog 44 := enters_of Try.func44 (by kernel_rfl) rfl
theorem ent45 : Ent Try.prog 45 := enters_of Try.func45 (by kernel_rfl) rfl
theorem ent46 : Ent Try.prog 46 := enters_of Try.func46 (by kernel_rfl) rfl
theorem ent47 : Ent Try.prog 47 := enters_of Try.func47 (by kernel_rfl) rfl
theorem ent48 : Ent Try.prog 48 := enters_of Try.func48 (by kernel_rfl) rfl
theorem ent49 : Ent Try.prog 49 := enters_of Try.func49 (by kernel_rfl) rfl
theorem ent50 : Ent Try.prog 50 := enters_of Try.func50 (by kernel_rfl) rfl
theorem ent51 : Ent Try.prog 51 := enters_of Try.func51 (by kernel_rfl) rfl
theorem ent52 : Ent Try.prog 52 := enters_of Try.func52 (by kernel_rfl) rfl
theorem ent53 : Ent Try.prog 53 := enters_of Try.func53 (by kernel_rfl) rfl
theorem ent54 : Ent Try.prog 54 := enters_of Try.func54 (by kernel_rfl) rfl
theorem ent55 : Ent Try.prog 55 := enters_of Try.func55 (by kernel_rfl) rfl
theorem ent56 : Ent Try.prog 56 := enters_of Try.func56 (by kernel_rfl) rfl
theorem ent57 : Ent Try.prog 57 := enters_of Try.func57 (by kernel_rfl) rfl
theorem ent59 : Ent Try.prog 59 := enters_of Try.func59 (by kernel_rfl) rfl
theorem ent60 : Ent Try.prog 60 := enters_of Try.func60 (by kernel_rfl) rfl
theorem ent61 : Ent Try.prog 61 := enters_of Try.func61 (by kernel_rfl) rfl
theorem ent62 : Ent Try.prog 62 := enters_of Try.func62 (by kernel_rfl) rfl
theorem ent63 : Ent Try.prog 63 := enters_of Try.func63 (by kernel_rfl) rfl
theorem ent64 : Ent Try.prog 64 := enters_of Try.func64 (by kernel_rfl) rfl
theorem ent65 : Ent Try.prog 65 := enters_of Try.func65 (by kernel_rfl) rfl
theorem ent67 : Ent Try.prog 67 := enters_of Try.func67 (by kernel_rfl) rfl
theorem ent68 : Ent Try.prog 68 := enters_of Try.func68 (by kernel_rfl) rfl
theorem ent69 : Ent Try.prog 69 := enters_of Try.func69 (by kernel_rfl) rfl
/-- masterdisc/endian.up$1 (function 68) -/
theorem up1_c (n : Int) (w : World) : CallR Try.prog 68 [.int .i64 n] w (fun v w' => v = .int .i64 n ∧ Ext w w') := by
  refine callR_of (n := 4) [(0, .int .i64 n)] Try.func68 rfl rfl (Nat.le_of_ble_eq_true rfl) rfl ?_
  refine sc_seq ?_
  refine sc_reg ?_
  refine Go.XK.s (v := .int .i64 0) (e_assign rfl) ?_
  refine sl_nil (nrm_k ?_)
  refine sc_seq ?_
  refine sc_reg ?_
  refine Go.XK.s (v := .int .i64 n) (e_move rfl) ?_
  refine Go.XK.s (v := .int .i64 n) (e_assign rfl) ?_
  refine sl_nil (nrm_k ?_)
  refine sc_retf rfl (ret1 Try.results68 (rvt rfl) ?_)
  exact ⟨rfl, (Ext.rfl' w)⟩

/-- masterdisc/endian.up (function 61) -/
theorem up_c (n : Int) (w : World) : CallR Try.prog 61 [.int .i64 n] w (fun v w' => v = .func (.func 68) #[] #[] ∧ Ext w w') := by
  refine callR_of (n := 3) [(0, .int .i64 n)] Try.func61 rfl rfl (Nat.le_of_ble_eq_true rfl) rfl ?_
  refine sc_seq ?_
  refine sc_reg ?_
  refine Go.XK.s (v := .nilFunc) (e_assign rfl) ?_
  refine sl_nil (nrm_k ?_)
  refine sc_seq ?_
  refine sc_reg ?_
  refine Go.XK.s (v := .func (.func 68) #[] #[]) (e_assign rfl) ?_
  refine sl_nil (nrm_k ?_)
  refine sc_retf rfl (ret1 Try.results61 (rvt rfl) ?_)
  exact ⟨rfl, (Ext.rfl' w)⟩

/-- masterdisc/eltorito.isValid$1 (function 43) -/
theorem inR_c (n m : Int) (w : World) : CallR Try.prog 43 [.int .i64 n, .int .i64 m] w (fun v w' => v = .bool (inR n m) ∧ Ext w w') := by
  refine callR_of (n := 12) [(0, .int .i64 n), (1, .int .i64 m)] Try.func43 rfl rfl (Nat.le_of_ble_eq_true rfl) rfl ?_
  refine sc_seq ?_
  refine sc_reg ?_
  refine Go.XK.s (v := .bool false) (e_assign rfl) ?_
  refine sl_nil (nrm_k ?_)
  refine sc_seq ?_
  refine sc_reg ?_
  refine Go.XK.s (v := .int .i64 n) (e_move rfl) ?_
  refine Go.XK.s (v := .bool (decide ((0 : Int) ≤ n))) (e_ge rfl rfl) ?_
  refine Go.XK.s (v := .bool (decide ((0 : Int) ≤ n))) (e_move rfl) ?_
  refine sl_merge 4 11 (.bool ((decide ((0 : Int) ≤ n)) && (decide (n ≤ m)))) ?_ ?_
  · refine sl_case (t := 7) rfl (fun g1_2 => ?_) (fun g1_2 => ?_)
    ·
      refine sl_gev (v := .int .i64 n) rfl rfl g1_2 (e_move rfl) rfl (by decide) ?_
      refine sl_gev (v := .int .i64 m) rfl rfl g1_2 (e_move rfl) rfl (by decide) ?_
      refine sl_gev (v := .bool (decide (n ≤ m))) rfl rfl g1_2 (e_le rfl rfl) rfl (by decide) ?_
      refine Go.XK.s (v := .bool (decide (n ≤ m))) (e_pickT rfl g1_2 rfl) ?_
      exact sl_nil (fun a ha => ⟨rfl, ha.sub (.cons (by rw [g1_2]; rfl) (sub_self_cons (sub_self_cons (sub_self_cons (sub_self_cons (Sub.refl _) rfl) rfl) rfl) rfl))⟩)
    ·
      refine sl_gskip rfl rfl g1_2 (by decide) ?_
      refine sl_gskip rfl rfl g1_2 (by decide) ?_
      refine sl_gskip rfl rfl g1_2 (by decide) ?_
      refine Go.XK.s (v := .bool false) (e_pickF rfl g1_2 rfl) ?_
      exact sl_nil (fun a ha => ⟨rfl, ha.sub (.cons (by rw [g1_2]; rfl) (sub_self_cons (sub_self_cons (sub_self_cons (sub_self_cons (Sub.refl _) rfl) rfl) rfl) rfl))⟩)
  refine Go.XK.s (v := .bool ((decide ((0 : Int) ≤ n)) && (decide (n ≤ m)))) (e_assign rfl) ?_
  refine sl_nil (nrm_k ?_)
  refine sc_retf rfl (ret1 Try.results43 (rvt rfl) ?_)
  exact ⟨rfl, (Ext.rfl' w)⟩

/-- masterdisc/masterdiscref27.platform (function 36) -/
theorem rplat_c (n : Int) (w : World) : CallR Try.prog 36 [.int .i64 n] w (fun v w' => v = .bool (plat n) ∧ Ext w w') := by
  refine callR_of (n := 17) [(0, .int .i64 n)] Try.func36 rfl rfl (Nat.le_of_ble_eq_true rfl) rfl ?_
  refine sc_seq ?_
  refine sc_reg ?_
  refine Go.XK.s (v := .bool false) (e_assign rfl) ?_
  refine sl_nil (nrm_k ?_)
  refine sc_seq ?_
  refine sc_reg ?_
  refine Go.XK.s (v := .int .i64 n) (e_move rfl) ?_
  refine Go.XK.s (v := .bool (decide (n = 0))) (e_eq rfl rfl) ?_
  refine Go.XK.s (v := .bool (decide (n = 0))) (e_move rfl) ?_
  refine sl_merge 3 8 (.bool ((decide (n = 0)) || (decide (n = 1)))) ?_ ?_
  · refine sl_case (t := 5) rfl (fun g1_2 => ?_) (fun g1_2 => ?_)
    ·
      refine sl_gskip rfl rfl g1_2 (by decide) ?_
      refine sl_gskip rfl rfl g1_2 (by decide) ?_
      refine Go.XK.s (v := .bool true) (e_pickT rfl g1_2 rfl) ?_
      exact sl_nil (fun a ha => ⟨rfl, ha.sub (.cons (by rw [g1_2]; rfl) (sub_self_cons (sub_self_cons (sub_self_cons (Sub.refl _) rfl) rfl) rfl))⟩)
    ·
      refine sl_gev (v := .int .i64 n) rfl rfl g1_2 (e_move rfl) rfl (by decide) ?_
      refine sl_gev (v := .bool (decide (n = 1))) rfl rfl g1_2 (e_eq rfl rfl) rfl (by decide) ?_
      refine Go.XK.s (v := .bool (decide (n = 1))) (e_pickF rfl g1_2 rfl) ?_
      exact sl_nil (fun a ha => ⟨rfl, ha.sub (.cons (by rw [g1_2]; rfl) (sub_self_cons (sub_self_cons (sub_self_cons (Sub.refl _) rfl) rfl) rfl))⟩)
  refine Go.XK.s (v := .bool ((decide (n = 0)) || (decide (n = 1)))) (e_move rfl) ?_
  refine sl_merge 3 12 (.bool (((decide (n = 0)) || (decide (n = 1))) || (decide (n = 2)))) ?_ ?_
  · refine sl_case (t := 9) rfl (fun g1_6 => ?_) (fun g1_6 => ?_)
    ·
      refine sl_gskip rfl rfl g1_6 (by decide) ?_
      refine sl_gskip rfl rfl g1_6 (by decide) ?_
      refine Go.XK.s (v := .bool true) (e_pickT rfl g1_6 rfl) ?_
      exact sl_nil (fun a ha => ⟨rfl, ha.sub (.cons (by rw [g1_6]; rfl) (sub_self_cons (sub_self_cons (sub_self_cons (Sub.refl _) rfl) rfl) rfl))⟩)
    ·
      refine sl_gev (v := .int .i64 n) rfl rfl g1_6 (e_move rfl) rfl (by decide) ?_
      refine sl_gev (v := .bool (decide (n = 2))) rfl rfl g1_6 (e_eq rfl rfl) rfl (by decide) ?_
      refine Go.XK.s (v := .bool (decide (n = 2))) (e_pickF rfl g1_6 rfl) ?_
      exact sl_nil (fun a ha => ⟨rfl, ha.sub (.cons (by rw [g1_6]; rfl) (sub_self_cons (sub_self_cons (sub_self_cons (Sub.refl _) rfl) rfl) rfl))⟩)
  refine Go.XK.s (v := .bool (((decide (n = 0)) || (decide (n = 1))) || (decide (n = 2)))) (e_move rfl) ?_
  refine sl_merge 3 16 (.bool ((((decide (n = 0)) || (decide (n = 1))) || (decide (n = 2))) || (decide (n = 239)))) ?_ ?_
  · refine sl_case (t := 13) rfl (fun g1_10 => ?_) (fun g1_10 => ?_)
    ·
      refine sl_gskip rfl rfl g1_10 (by decide) ?_
      refine sl_gskip rfl rfl g1_10 (by decide) ?_
      refine Go.XK.s (v := .bool true) (e_pickT rfl g1_10 rfl) ?_
      exact sl_nil (fun a ha => ⟨rfl, ha.sub (.cons (by rw [g1_10]; rfl) (sub_self_cons (sub_self_cons (sub_self_cons (Sub.refl _) rfl) rfl) rfl))⟩)
    ·
      refine sl_gev (v := .int .i64 n) rfl rfl g1_10 (e_move rfl) rfl (by decide) ?_
      refine sl_gev (v := .bool (decide (n = 239))) rfl rfl g1_10 (e_eq rfl rfl) rfl (by decide) ?_
      refine Go.XK.s (v := .bool (decide (n = 239))) (e_pickF rfl g1_10 rfl) ?_
      exact sl_nil (fun a ha => ⟨rfl, ha.sub (.cons (by rw [g1_10]; rfl) (sub_self_cons (sub_self_cons (sub_self_cons (Sub.refl _) rfl) rfl) rfl))⟩)
  refine Go.XK.s (v := .bool ((((decide (n = 0)) || (decide (n = 1))) || (decide (n = 2))) || (decide (n = 239)))) (e_assign rfl) ?_
  refine sl_nil (nrm_k ?_)
  refine sc_retf rfl (ret1 Try.results36 (rvt rfl) ?_)
  refine ⟨congrArg Value.bool ?_, (Ext.rfl' w)⟩
  simp [plat, Bool.or_assoc]

/-- masterdisc/endian.fits (function 67) -/
theorem fits_c (n : Int) (s : Nat) (w : World) (hs : s ≤ 7) : CallR Try.prog 67 [.int .i64 n, .int .i64 (s : Int)] w (fun v w' => v = .bool (fits n s) ∧ Ext w w') := by
  refine callR_of (n := 18) [(0, .int .i64 n), (1, .int .i64 (s : Int))] Try.func67 rfl rfl (Nat.le_of_ble_eq_true rfl) rfl ?_
  refine sc_seq ?_
  refine sc_reg ?_
  refine Go.XK.s (v := .bool false) (e_assign rfl) ?_
  refine sl_nil (nrm_k ?_)
  refine sc_seq ?_
  refine sc_reg ?_
  refine Go.XK.s (v := .int .i64 n) (e_move rfl) ?_
  refine Go.XK.s (v := .bool (decide ((0 : Int) ≤ n))) (e_ge rfl rfl) ?_
  refine Go.XK.s (v := .bool (decide ((0 : Int) ≤ n))) (e_move rfl) ?_
  refine sl_merge 10 17 (.bool ((decide ((0 : Int) ≤ n)) && ((decide ((s : Int) = 8)) || (decide (n < 256 ^ s))))) ?_ ?_
  · refine sl_case (t := 7) rfl (fun g1_2 => ?_) (fun g1_2 => ?_)
    ·
      refine sl_gev (v := .int .i64 (s : Int)) rfl rfl g1_2 (e_move rfl) rfl (by decide) ?_
      refine sl_gev (v := .bool (decide ((s : Int) = 8))) rfl rfl g1_2 (e_eq rfl rfl) rfl (by decide) ?_
      refine sl_gev (v := .bool (decide ((s : Int) = 8))) rfl rfl g1_2 (e_move rfl) rfl (by decide) ?_
      refine sl_merge 6 16 (.bool ((decide ((s : Int) = 8)) || (decide (n < 256 ^ s)))) ?_ ?_
      · refine sl_case (t := 10) rfl (fun g1_5 => ?_) (fun g1_5 => ?_)
        ·
          refine sl_gskip rfl rfl g1_5 (by decide) ?_
          refine sl_gskip rfl rfl g1_5 (by decide) ?_
          refine sl_gskip rfl rfl g1_5 (by decide) ?_
          refine sl_gskip rfl rfl g1_5 (by decide) ?_
          refine sl_gskip rfl rfl g1_5 (by decide) ?_
          refine sl_gev (v := .bool true) rfl rfl g1_2 (e_pickT rfl g1_5 rfl) rfl (by decide) ?_
          exact sl_nil (fun a ha => ⟨rfl, ha.sub (.cons (by rw [g1_5]; rfl) (sub_self_cons (sub_self_cons (sub_self_cons (sub_self_cons (sub_self_cons (sub_self_cons (Sub.refl _) rfl) rfl) rfl) rfl) rfl) rfl))⟩)
        ·
          refine sl_gev (v := .int .i64 n) rfl rfl g1_5 (e_move rfl) rfl (by decide) ?_
          refine sl_gev (v := .int .i64 (s : Int)) rfl rfl g1_5 (e_move rfl) rfl (by decide) ?_
          refine sl_gev (v := .int .i64 ((8 : Int) * (s : Int))) rfl rfl g1_5 (e_mul rfl rfl (by omega)) rfl (by decide) ?_
          refine sl_gev (v := .int .i64 (256 ^ s)) rfl rfl g1_5 ((Int.one_mul (256 ^ s)) ▸ e_shl8 s hs rfl rfl (by have := p256 s hs; omega) (by have := p256 s hs; omega)) rfl (by decide) ?_
          refine sl_gev (v := .bool (decide (n < 256 ^ s))) rfl rfl g1_5 (e_lt rfl rfl) rfl (by decide) ?_
          refine sl_gev (v := .bool (decide (n < 256 ^ s))) rfl rfl g1_2 (e_pickF rfl g1_5 rfl) rfl (by decide) ?_
          exact sl_nil (fun a ha => ⟨rfl, ha.sub (.cons (by rw [g1_5]; rfl) (sub_self_cons (sub_self_cons (sub_self_cons (sub_self_cons (sub_self_cons (sub_self_cons (Sub.refl _) rfl) rfl) rfl) rfl) rfl) rfl))⟩)
      refine Go.XK.s (v := .bool ((decide ((s : Int) = 8)) || (decide (n < 256 ^ s)))) (e_pickT rfl g1_2 rfl) ?_
      exact sl_nil (fun a ha => ⟨rfl, ha.sub (.cons (by rw [g1_2]; rfl) (sub_self_cons (sub_self_cons (sub_self_cons (sub_self_cons (sub_self_cons (Sub.refl _) rfl) rfl) rfl) rfl) rfl))⟩)
    ·
      refine sl_gskip rfl rfl g1_2 (by decide) ?_
      refine sl_gskip rfl rfl g1_2 (by decide) ?_
      refine sl_gskip rfl rfl g1_2 (by decide) ?_
      refine sl_gskipU rfl rfl (by decide) ?_
      refine sl_gskipU rfl rfl (by decide) ?_
      refine sl_gskipU rfl rfl (by decide) ?_
      refine sl_gskipU rfl rfl (by decide) ?_
      refine sl_gskipU rfl rfl (by decide) ?_
      refine sl_gskip rfl rfl g1_2 (by decide) ?_
      refine Go.XK.s (v := .bool false) (e_pickF rfl g1_2 rfl) ?_
      exact sl_nil (fun a ha => ⟨rfl, ha.sub (.cons (by rw [g1_2]; rfl) (sub_self_cons (sub_self_cons (sub_self_cons (sub_self_cons (sub_self_cons (sub_self_cons (sub_self_cons (sub_self_cons (sub_self_cons (sub_self_cons (Sub.refl _) rfl) rfl) rfl) rfl) rfl) rfl) rfl) rfl) rfl) rfl))⟩)
  refine Go.XK.s (v := .bool ((decide ((0 : Int) ≤ n)) && ((decide ((s : Int) = 8)) || (decide (n < 256 ^ s))))) (e_assign rfl) ?_
  refine sl_nil (nrm_k ?_)
  refine sc_retf rfl (ret1 Try.results67 (rvt rfl) ?_)
  exact ⟨congrArg Value.bool (fits_eq n s hs), (Ext.rfl' w)⟩

/-- masterdisc/eltorito.Sum (function 16) -/
theorem sum_c (s : List UInt8) (w : World) (hs : s.length ≤ 4611686018427387904) : CallR Try.prog 16 [.string (B s)] w (fun v w' => v = .int .i64 (wsum 0 s) ∧ Ext w w') := by
  refine callR_of (n := 27) [(0, .string (B s))] Try.func16 rfl rfl (Nat.le_of_ble_eq_true rfl) rfl ?_
  refine sc_seq ?_
  refine sc_reg ?_
  refine Go.XK.s (v := .int .i64 0) (e_assign rfl) ?_
  refine sl_nil (nrm_k ?_)
  refine sc_seq ?_
  refine sc_reg ?_
  refine Go.XK.s (v := .int .i64 0) (e_assign rfl) ?_
  refine sl_nil (nrm_k ?_)
  refine sc_seq ?_
  refine sc_seq ?_
  refine sc_reg ?_
  refine Go.XK.s (v := .int .i64 0) (e_assign rfl) ?_
  refine sl_nil (nrm_k ?_)
  refine sc_block ?_
  refine sc_loop (fun m_ l_ w_ => ∃ (i : Nat) (z : Int), m_ = s.length - i ∧ l_ = [(3, .int .i64 z), (4, .int .i64 (i : Int)), (0, .string (B s))] ∧ Ext w w_ ∧ (0 ≤ z ∧ z < 65536) ∧ wsum z (s.drop i) = wsum 0 s ∧ i ≤ s.length) _ [(3, .int .i64 0), (4, .int .i64 (0 : Int)), (0, .string (B s))] ⟨0, 0, rfl, rfl, (Ext.rfl' w), ⟨by omega, rfl, by omega⟩⟩ (.cons rfl (.cons rfl (.cons rfl (.nil)))) ?_
  rintro j2 _ w1 ⟨i, z, rfl, rfl, xw_w1, ⟨hz, hsum, hi⟩⟩
  refine sc_seq ?_
  refine sc_seq ?_
  refine sc_reg ?_
  refine Go.XK.s (v := .int .i64 (i : Int)) (e_move rfl) ?_
  refine Go.XK.s (v := .int .i64 ((i : Int) + 1)) (e_add rfl rfl (by omega)) ?_
  refine Go.XK.s (v := .string (B s)) (e_move rfl) ?_
  refine Go.XK.s (v := .int .i64 (s.length : Int)) (e_slen Try.underlying9 rfl) ?_
  refine Go.XK.s (v := .bool (decide ((i : Int) + 1 < (s.length : Int)))) (e_lt rfl rfl) ?_
  refine sl_nil (nrm_k ?_)
  refine sc_ifd rfl (fun c9 => ?_) (fun c9 => ?_)
  ·
    refine sc_skip (nrm_k ?_)
    refine sc_seq ?_
    refine sc_block ?_
    refine sc_free [(9, .bool (decide ((i : Int) + 1 < (s.length : Int)))), (8, .int .i64 (s.length : Int)), (7, .string (B s)), (6, .int .i64 ((i : Int) + 1)), (5, .int .i64 (i : Int)), (3, .int .i64 z), (4, .int .i64 (i : Int)), (0, .string (B s))] [12, 13, 14, 15, 16, 17, 18, 19, 20, 21, 22, 23, 24, 25] [(Is (.int .i64 z)), (Is (.string (B s))), (Is (.int .i64 (i : Int))), (Is (.int .u8 ((at_ s (i : Int)).toNat))), (Is (.int .i64 ((at_ s (i : Int)).toNat : Int))), (Is (.int .i64 (z + ((at_ s (i : Int)).toNat : Int)))), (Is (.string (B s))), (Is (.int .i64 (i : Int))), (Is (.int .i64 ((i : Int) + 1))), (Is (.int .u8 ((at_ s ((i : Int) + 1)).toNat))), (Is (.int .i64 ((at_ s ((i : Int) + 1)).toNat : Int))), (Is (.int .i64 (256 * (at_ s ((i : Int) + 1)).toNat))), (Is (.int .i64 ((z + ((at_ s (i : Int)).toNat : Int)) + (256 * (at_ s ((i : Int) + 1)).toNat)))), (Is (.int .i64 (((z + ((at_ s (i : Int)).toNat : Int)) + (256 * (at_ s ((i : Int) + 1)).toNat)) % 65536)))] [14] (by kernel_rfl) (Sub.refl _) (by kernel_rfl) (by kernel_rfl) (by kernel_rfl) rfl (by kernel_rfl) (ds_ext (Stays.spec (.is _ (.is _ (.is _ (.is _ (.is _ (.is _ (.is _ (.is _ (.is _ (.is _ (.is _ (.is _ (.is _ (.is _ (.nil))))))))))))))))) ⟨?_, ?_, ?_, ?_, ?_, ?_, ?_, ?_, ?_, ?_, ?_, ?_, ?_, ?_, trivial⟩ ?_
    · intro Q act_ wI hxI ha hp
      have xw_wI : Ext w wI := Ext.tr xw_w1 hxI
      exact h_evA (v := .int .i64 z) ha rfl (e_move rfl) rfl rfl (Ext.rfl' _)
    · intro Q act_ wI hxI ha hp
      have xw_wI : Ext w wI := Ext.tr xw_w1 hxI
      exact h_evA (v := .string (B s)) ha rfl (e_move rfl) rfl rfl (Ext.rfl' _)
    · intro Q act_ wI hxI ha hp
      have xw_wI : Ext w wI := Ext.tr xw_w1 hxI
      exact h_evA (v := .int .i64 (i : Int)) ha rfl (e_move rfl) rfl rfl (Ext.rfl' _)
    · intro Q act_ wI hxI ha hp
      have xw_wI : Ext w wI := Ext.tr xw_w1 hxI
      have ha := ha.add (show act_.tmps.getD 13 undef = .string (B s) from hp 1 (by kernel_rfl) (by decide))
      have ha := ha.add (show act_.tmps.getD 14 undef = .int .i64 (i : Int) from hp 2 (by kernel_rfl) (by decide))
      exact h_evA (v := .int .u8 ((at_ s (i : Int)).toNat)) ha rfl (e_sat Try.underlying9 rfl rfl (by omega) (by omega)) rfl rfl (Ext.rfl' _)
    · intro Q act_ wI hxI ha hp
      have xw_wI : Ext w wI := Ext.tr xw_w1 hxI
      have ha := ha.add (show act_.tmps.getD 15 undef = .int .u8 ((at_ s (i : Int)).toNat) from hp 3 (by kernel_rfl) (by decide))
      exact h_evA (v := .int .i64 ((at_ s (i : Int)).toNat : Int)) ha rfl (e_u8int (c := at_ s (i : Int)) Try.underlying5 Try.underlying3 (by decide) rfl) rfl rfl (Ext.rfl' _)
    · intro Q act_ wI hxI ha hp
      have xw_wI : Ext w wI := Ext.tr xw_w1 hxI
      have ha := ha.add (show act_.tmps.getD 12 undef = .int .i64 z from hp 0 (by kernel_rfl) (by decide))
      have ha := ha.add (show act_.tmps.getD 16 undef = .int .i64 ((at_ s (i : Int)).toNat : Int) from hp 4 (by kernel_rfl) (by decide))
      exact h_evA (v := .int .i64 (z + ((at_ s (i : Int)).toNat : Int))) ha rfl (e_add rfl rfl (by have hx_ := u8_lt (at_ s (i : Int)); have hy_ := u8_lt (at_ s ((i : Int) + 1)); omega)) rfl rfl (Ext.rfl' _)
    · intro Q act_ wI hxI ha hp
      have xw_wI : Ext w wI := Ext.tr xw_w1 hxI
      exact h_evA (v := .string (B s)) ha rfl (e_move rfl) rfl rfl (Ext.rfl' _)
    · intro Q act_ wI hxI ha hp
      have xw_wI : Ext w wI := Ext.tr xw_w1 hxI
      exact h_evA (v := .int .i64 (i : Int)) ha rfl (e_move rfl) rfl rfl (Ext.rfl' _)
    · intro Q act_ wI hxI ha hp
      have xw_wI : Ext w wI := Ext.tr xw_w1 hxI
      have ha := ha.add (show act_.tmps.getD 19 undef = .int .i64 (i : Int) from hp 7 (by kernel_rfl) (by decide))
      exact h_evA (v := .int .i64 ((i : Int) + 1)) ha rfl (e_add rfl rfl (by omega)) rfl rfl (Ext.rfl' _)
    · intro Q act_ wI hxI ha hp
      have xw_wI : Ext w wI := Ext.tr xw_w1 hxI
      have ha := ha.add (show act_.tmps.getD 18 undef = .string (B s) from hp 6 (by kernel_rfl) (by decide))
      have ha := ha.add (show act_.tmps.getD 20 undef = .int .i64 ((i : Int) + 1) from hp 8 (by kernel_rfl) (by decide))
      exact h_evA (v := .int .u8 ((at_ s ((i : Int) + 1)).toNat)) ha rfl (e_sat Try.underlying9 rfl rfl (by omega) (by omega)) rfl rfl (Ext.rfl' _)
    · intro Q act_ wI hxI ha hp
      have xw_wI : Ext w wI := Ext.tr xw_w1 hxI
      have ha := ha.add (show act_.tmps.getD 21 undef = .int .u8 ((at_ s ((i : Int) + 1)).toNat) from hp 9 (by kernel_rfl) (by decide))
      exact h_evA (v := .int .i64 ((at_ s ((i : Int) + 1)).toNat : Int)) ha rfl (e_u8int (c := at_ s ((i : Int) + 1)) Try.underlying5 Try.underlying3 (by decide) rfl) rfl rfl (Ext.rfl' _)
    · intro Q act_ wI hxI ha hp
      have xw_wI : Ext w wI := Ext.tr xw_w1 hxI
      have ha := ha.add (show act_.tmps.getD 22 undef = .int .i64 ((at_ s ((i : Int) + 1)).toNat : Int) from hp 10 (by kernel_rfl) (by decide))
      exact h_evA (v := .int .i64 (256 * (at_ s ((i : Int) + 1)).toNat)) ha rfl (shl8_u8 _ rfl rfl) rfl rfl (Ext.rfl' _)
    · intro Q act_ wI hxI ha hp
      have xw_wI : Ext w wI := Ext.tr xw_w1 hxI
      have ha := ha.add (show act_.tmps.getD 17 undef = .int .i64 (z + ((at_ s (i : Int)).toNat : Int)) from hp 5 (by kernel_rfl) (by decide))
      have ha := ha.add (show act_.tmps.getD 23 undef = .int .i64 (256 * (at_ s ((i : Int) + 1)).toNat) from hp 11 (by kernel_rfl) (by decide))
      exact h_evA (v := .int .i64 ((z + ((at_ s (i : Int)).toNat : Int)) + (256 * (at_ s ((i : Int) + 1)).toNat))) ha rfl (e_add rfl rfl (by have hx_ := u8_lt (at_ s (i : Int)); have hy_ := u8_lt (at_ s ((i : Int) + 1)); omega)) rfl rfl (Ext.rfl' _)
    · intro Q act_ wI hxI ha hp
      have xw_wI : Ext w wI := Ext.tr xw_w1 hxI
      have ha := ha.add (show act_.tmps.getD 24 undef = .int .i64 ((z + ((at_ s (i : Int)).toNat : Int)) + (256 * (at_ s ((i : Int) + 1)).toNat)) from hp 12 (by kernel_rfl) (by decide))
      exact h_evA (v := .int .i64 (((z + ((at_ s (i : Int)).toNat : Int)) + (256 * (at_ s ((i : Int) + 1)).toNat)) % 65536)) ha rfl (e_rem rfl rfl (by have hx_ := u8_lt (at_ s (i : Int)); have hy_ := u8_lt (at_ s ((i : Int) + 1)); omega) (by omega)) rfl rfl (Ext.rfl' _)
    intro vs_ w3 hx_w3 hvs act_ ha hv
    have xw_w3 : Ext w w3 := Ext.tr xw_w1 hx_w3
    have ha := ha.add ((hv 13 (by decide)).trans (show vs_ 13 = .int .i64 (((z + ((at_ s (i : Int)).toNat : Int)) + (256 * (at_ s ((i : Int) + 1)).toNat)) % 65536) from hvs 13 (by decide)))
    refine st_go ha ?_
    clear ha hv hvs
    refine st_ev (v := .int .i64 (((z + ((at_ s (i : Int)).toNat : Int)) + (256 * (at_ s ((i : Int) + 1)).toNat)) % 65536)) rfl (e_assign rfl) ?_
    refine st_nil (nrm_k ?_)
    refine sc_reg ?_
    refine Go.XK.s (v := .int .i64 (i : Int)) (e_move rfl) ?_
    refine Go.XK.s (v := .int .i64 ((i : Int) + 2)) (e_add rfl rfl (by omega)) ?_
    refine Go.XK.s (v := .int .i64 ((i : Int) + 2)) (e_assign rfl) ?_
    refine sl_nil ?_
    exact nrm_loopq rfl _ _ (by omega) ⟨i + 2, _, rfl, rfl, xw_w3, ⟨by omega, by rw [← hsum]; exact (wsum_drop (by omega) z).symm, by omega⟩⟩ (.cons rfl (.cons rfl (.cons rfl (.nil))))
  ·
    have hend : wsum z (s.drop i) = z := wsum_end (by omega) z
    refine sc_exit rfl (nrm_k ?_)
    refine sc_seq ?_
    refine sc_reg ?_
    refine Go.XK.s (v := .int .i64 z) (e_move rfl) ?_
    refine Go.XK.s (v := .int .i64 z) (e_assign rfl) ?_
    refine sl_nil (nrm_k ?_)
    refine sc_retf rfl (ret1 Try.results16 (rvt rfl) ?_)
    exact ⟨congrArg (Value.int .i64) (by rw [← hsum, hend]), xw_w1⟩

/-- masterdisc/masterdiscref27.Sum (function 17) -/
theorem rsum_c (s : List UInt8) (w : World) (hs : s.length ≤ 4611686018427387904) : CallR Try.prog 17 [.string (B s)] w (fun v w' => v = .int .i64 (wsum 0 s) ∧ Ext w w') := by
  refine callR_of (n := 27) [(0, .string (B s))] Try.func17 rfl rfl (Nat.le_of_ble_eq_true rfl) rfl ?_
  refine sc_seq ?_
  refine sc_reg ?_
  refine Go.XK.s (v := .int .i64 0) (e_assign rfl) ?_
  refine sl_nil (nrm_k ?_)
  refine sc_seq ?_
  refine sc_reg ?_
  refine Go.XK.s (v := .int .i64 0) (e_assign rfl) ?_
  refine sl_nil (nrm_k ?_)
  refine sc_seq ?_
  refine sc_seq ?_
  refine sc_reg ?_
  refine Go.XK.s (v := .int .i64 0) (e_assign rfl) ?_
  refine sl_nil (nrm_k ?_)
  refine sc_block ?_
  refine sc_loop (fun m_ l_ w_ => ∃ (i : Nat) (z : Int), m_ = s.length - i ∧ l_ = [(3, .int .i64 z), (4, .int .i64 (i : Int)), (0, .string (B s))] ∧ Ext w w_ ∧ (0 ≤ z ∧ z < 65536) ∧ wsum z (s.drop i) = wsum 0 s ∧ i ≤ s.length) _ [(3, .int .i64 0), (4, .int .i64 (0 : Int)), (0, .string (B s))] ⟨0, 0, rfl, rfl, (Ext.rfl' w), ⟨by omega, rfl, by omega⟩⟩ (.cons rfl (.cons rfl (.cons rfl (.nil)))) ?_
  rintro j2 _ w1 ⟨i, z, rfl, rfl, xw_w1, ⟨hz, hsum, hi⟩⟩
  refine sc_seq ?_
  refine sc_seq ?_
  refine sc_reg ?_
  refine Go.XK.s (v := .int .i64 (i : Int)) (e_move rfl) ?_
  refine Go.XK.s (v := .int .i64 ((i : Int) + 1)) (e_add rfl rfl (by omega)) ?_
  refine Go.XK.s (v := .string (B s)) (e_move rfl) ?_
  refine Go.XK.s (v := .int .i64 (s.length : Int)) (e_slen Try.underlying9 rfl) ?_
  refine Go.XK.s (v := .bool (decide ((i : Int) + 1 < (s.length : Int)))) (e_lt rfl rfl) ?_
  refine sl_nil (nrm_k ?_)
  refine sc_ifd rfl (fun c9 => ?_) (fun c9 => ?_)
  ·
    refine sc_skip (nrm_k ?_)
    refine sc_seq ?_
    refine sc_block ?_
    refine sc_free [(9, .bool (decide ((i : Int) + 1 < (s.length : Int)))), (8, .int .i64 (s.length : Int)), (7, .string (B s)), (6, .int .i64 ((i : Int) + 1)), (5, .int .i64 (i : Int)), (3, .int .i64 z), (4, .int .i64 (i : Int)), (0, .string (B s))] [12, 13, 14, 15, 16, 17, 18, 19, 20, 21, 22, 23, 24, 25] [(Is (.int .i64 z)), (Is (.string (B s))), (Is (.int .i64 (i : Int))), (Is (.int .u8 ((at_ s (i : Int)).toNat))), (Is (.int .i64 ((at_ s (i : Int)).toNat : Int))), (Is (.int .i64 (z + ((at_ s (i : Int)).toNat : Int)))), (Is (.string (B s))), (Is (.int .i64 (i : Int))), (Is (.int .i64 ((i : Int) + 1))), (Is (.int .u8 ((at_ s ((i : Int) + 1)).toNat))), (Is (.int .i64 ((at_ s ((i : Int) + 1)).toNat : Int))), (Is (.int .i64 ((256 : Int) * ((at_ s ((i : Int) + 1)).toNat : Int)))), (Is (.int .i64 ((z + ((at_ s (i : Int)).toNat : Int)) + ((256 : Int) * ((at_ s ((i : Int) + 1)).toNat : Int))))), (Is (.int .i64 (((z + ((at_ s (i : Int)).toNat : Int)) + ((256 : Int) * ((at_ s ((i : Int) + 1)).toNat : Int))) % 65536)))] [14] (by kernel_rfl) (Sub.refl _) (by kernel_rfl) (by kernel_rfl) (by kernel_rfl) rfl (by kernel_rfl) (ds_ext (Stays.spec (.is _ (.is _ (.is _ (.is _ (.is _ (.is _ (.is _ (.is _ (.is _ (.is _ (.is _ (.is _ (.is _ (.is _ (.nil))))))))))))))))) ⟨?_, ?_, ?_, ?_, ?_, ?_, ?_, ?_, ?_, ?_, ?_, ?_, ?_, ?_, trivial⟩ ?_
    · intro Q act_ wI hxI ha hp
      have xw_wI : Ext w wI := Ext.tr xw_w1 hxI
      exact h_evA (v := .int .i64 z) ha rfl (e_move rfl) rfl rfl (Ext.rfl' _)
    · intro Q act_ wI hxI ha hp
      have xw_wI : Ext w wI := Ext.tr xw_w1 hxI
      exact h_evA (v := .string (B s)) ha rfl (e_move rfl) rfl rfl (Ext.rfl' _)
    · intro Q act_ wI hxI ha hp
      have xw_wI : Ext w wI := Ext.tr xw_w1 hxI
      exact h_evA (v := .int .i64 (i : Int)) ha rfl (e_move rfl) rfl rfl (Ext.rfl' _)
    · intro Q act_ wI hxI ha hp
      have xw_wI : Ext w wI := Ext.tr xw_w1 hxI
      have ha := ha.add (show act_.tmps.getD 13 undef = .string (B s) from hp 1 (by kernel_rfl) (by decide))
      have ha := ha.add (show act_.tmps.getD 14 undef = .int .i64 (i : Int) from hp 2 (by kernel_rfl) (by decide))
      exact h_evA (v := .int .u8 ((at_ s (i : Int)).toNat)) ha rfl (e_sat Try.underlying9 rfl rfl (by omega) (by omega)) rfl rfl (Ext.rfl' _)
    · intro Q act_ wI hxI ha hp
      have xw_wI : Ext w wI := Ext.tr xw_w1 hxI
      have ha := ha.add (show act_.tmps.getD 15 undef = .int .u8 ((at_ s (i : Int)).toNat) from hp 3 (by kernel_rfl) (by decide))
      exact h_evA (v := .int .i64 ((at_ s (i : Int)).toNat : Int)) ha rfl (e_u8int (c := at_ s (i : Int)) Try.underlying5 Try.underlying3 (by decide) rfl) rfl rfl (Ext.rfl' _)
    · intro Q act_ wI hxI ha hp
      have xw_wI : Ext w wI := Ext.tr xw_w1 hxI
      have ha := ha.add (show act_.tmps.getD 12 undef = .int .i64 z from hp 0 (by kernel_rfl) (by decide))
      have ha := ha.add (show act_.tmps.getD 16 undef = .int .i64 ((at_ s (i : Int)).toNat : Int) from hp 4 (by kernel_rfl) (by decide))
      exact h_evA (v := .int .i64 (z + ((at_ s (i : Int)).toNat : Int))) ha rfl (e_add rfl rfl (by have hx_ := u8_lt (at_ s (i : Int)); have hy_ := u8_lt (at_ s ((i : Int) + 1)); omega)) rfl rfl (Ext.rfl' _)
    · intro Q act_ wI hxI ha hp
      have xw_wI : Ext w wI := Ext.tr xw_w1 hxI
      exact h_evA (v := .string (B s)) ha rfl (e_move rfl) rfl rfl (Ext.rfl' _)
    · intro Q act_ wI hxI ha hp
      have xw_wI : Ext w wI := Ext.tr xw_w1 hxI
      exact h_evA (v := .int .i64 (i : Int)) ha rfl (e_move rfl) rfl rfl (Ext.rfl' _)
    · intro Q act_ wI hxI ha hp
      have xw_wI : Ext w wI := Ext.tr xw_w1 hxI
      have ha := ha.add (show act_.tmps.getD 19 undef = .int .i64 (i : Int) from hp 7 (by kernel_rfl) (by decide))
      exact h_evA (v := .int .i64 ((i : Int) + 1)) ha rfl (e_add rfl rfl (by omega)) rfl rfl (Ext.rfl' _)
    · intro Q act_ wI hxI ha hp
      have xw_wI : Ext w wI := Ext.tr xw_w1 hxI
      have ha := ha.add (show act_.tmps.getD 18 undef = .string (B s) from hp 6 (by kernel_rfl) (by decide))
      have ha := ha.add (show act_.tmps.getD 20 undef = .int .i64 ((i : Int) + 1) from hp 8 (by kernel_rfl) (by decide))
      exact h_evA (v := .int .u8 ((at_ s ((i : Int) + 1)).toNat)) ha rfl (e_sat Try.underlying9 rfl rfl (by omega) (by omega)) rfl rfl (Ext.rfl' _)
    · intro Q act_ wI hxI ha hp
      have xw_wI : Ext w wI := Ext.tr xw_w1 hxI
      have ha := ha.add (show act_.tmps.getD 21 undef = .int .u8 ((at_ s ((i : Int) + 1)).toNat) from hp 9 (by kernel_rfl) (by decide))
      exact h_evA (v := .int .i64 ((at_ s ((i : Int) + 1)).toNat : Int)) ha rfl (e_u8int (c := at_ s ((i : Int) + 1)) Try.underlying5 Try.underlying3 (by decide) rfl) rfl rfl (Ext.rfl' _)
    · intro Q act_ wI hxI ha hp
      have xw_wI : Ext w wI := Ext.tr xw_w1 hxI
      have ha := ha.add (show act_.tmps.getD 22 undef = .int .i64 ((at_ s ((i : Int) + 1)).toNat : Int) from hp 10 (by kernel_rfl) (by decide))
      exact h_evA (v := .int .i64 ((256 : Int) * ((at_ s ((i : Int) + 1)).toNat : Int))) ha rfl (e_mul rfl rfl (by have hx_ := u8_lt (at_ s (i : Int)); have hy_ := u8_lt (at_ s ((i : Int) + 1)); omega)) rfl rfl (Ext.rfl' _)
    · intro Q act_ wI hxI ha hp
      have xw_wI : Ext w wI := Ext.tr xw_w1 hxI
      have ha := ha.add (show act_.tmps.getD 17 undef = .int .i64 (z + ((at_ s (i : Int)).toNat : Int)) from hp 5 (by kernel_rfl) (by decide))
      have ha := ha.add (show act_.tmps.getD 23 undef = .int .i64 ((256 : Int) * ((at_ s ((i : Int) + 1)).toNat : Int)) from hp 11 (by kernel_rfl) (by decide))
      exact h_evA (v := .int .i64 ((z + ((at_ s (i : Int)).toNat : Int)) + ((256 : Int) * ((at_ s ((i : Int) + 1)).toNat : Int)))) ha rfl (e_add rfl rfl (by have hx_ := u8_lt (at_ s (i : Int)); have hy_ := u8_lt (at_ s ((i : Int) + 1)); omega)) rfl rfl (Ext.rfl' _)
    · intro Q act_ wI hxI ha hp
      have xw_wI : Ext w wI := Ext.tr xw_w1 hxI
      have ha := ha.add (show act_.tmps.getD 24 undef = .int .i64 ((z + ((at_ s (i : Int)).toNat : Int)) + ((256 : Int) * ((at_ s ((i : Int) + 1)).toNat : Int))) from hp 12 (by kernel_rfl) (by decide))
      exact h_evA (v := .int .i64 (((z + ((at_ s (i : Int)).toNat : Int)) + ((256 : Int) * ((at_ s ((i : Int) + 1)).toNat : Int))) % 65536)) ha rfl (e_rem rfl rfl (by have hx_ := u8_lt (at_ s (i : Int)); have hy_ := u8_lt (at_ s ((i : Int) + 1)); omega) (by omega)) rfl rfl (Ext.rfl' _)
    intro vs_ w3 hx_w3 hvs act_ ha hv
    have xw_w3 : Ext w w3 := Ext.tr xw_w1 hx_w3
    have ha := ha.add ((hv 13 (by decide)).trans (show vs_ 13 = .int .i64 (((z + ((at_ s (i : Int)).toNat : Int)) + ((256 : Int) * ((at_ s ((i : Int) + 1)).toNat : Int))) % 65536) from hvs 13 (by decide)))
    refine st_go ha ?_
    clear ha hv hvs
    refine st_ev (v := .int .i64 (((z + ((at_ s (i : Int)).toNat : Int)) + ((256 : Int) * ((at_ s ((i : Int) + 1)).toNat : Int))) % 65536)) rfl (e_assign rfl) ?_
    refine st_nil (nrm_k ?_)
    refine sc_reg ?_
    refine Go.XK.s (v := .int .i64 (i : Int)) (e_move rfl) ?_
    refine Go.XK.s (v := .int .i64 ((i : Int) + 2)) (e_add rfl rfl (by omega)) ?_
    refine Go.XK.s (v := .int .i64 ((i : Int) + 2)) (e_assign rfl) ?_
    refine sl_nil ?_
    exact nrm_loopq rfl _ _ (by omega) ⟨i + 2, _, rfl, rfl, xw_w3, ⟨by omega, by rw [← hsum]; exact (wsum_drop (by omega) z).symm, by omega⟩⟩ (.cons rfl (.cons rfl (.cons rfl (.nil))))
  ·
    have hend : wsum z (s.drop i) = z := wsum_end (by omega) z
    refine sc_exit rfl (nrm_k ?_)
    refine sc_seq ?_
    refine sc_reg ?_
    refine Go.XK.s (v := .int .i64 z) (e_move rfl) ?_
    refine Go.XK.s (v := .int .i64 z) (e_assign rfl) ?_
    refine sl_nil (nrm_k ?_)
    refine sc_retf rfl (ret1 Try.results17 (rvt rfl) ?_)
    exact ⟨congrArg (Value.int .i64) (by rw [← hsum, hend]), xw_w1⟩

end Go.Proofs.Ytlgkjpmaekkpjaa
