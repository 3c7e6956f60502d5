/- Chapter 24: C5. Printed by my program wip/tools/wk.py. -/
import Derived.Test.YtnbclhbpjlpcoaaC4
set_option linter.unusedVariables false
set_option linter.unusedSimpArgs false
set_option maxRecDepth 4000
set_option maxHeartbeats 4000000
namespace Go.Proofs.Ytnbclhbpjlpcoaa
open Go.XK Go.RowKit
theorem rev_next {s : List UInt8} {i : Int} (h : 0 ≤ i) (h2 : i < s.length) : (s.drop i.toNat).reverse = (s.drop (i + 1).toNat).reverse ++ [at_ s i] := by
  obtain ⟨m, rfl⟩ : ∃ m : Nat, i = m := ⟨i.toNat, by omega⟩
  rw [show ((m : Int) + 1).toNat = m + 1 by omega, show (m : Int).toNat = m by omega, List.drop_eq_getElem_cons (by omega), List.reverse_cons]
  simp [at_, List.getD_eq_getElem?_getD, show m < s.length by omega]

/-- masterdisc/susp.isArea (function 59) -/
theorem area_c (off len : Int) (w : World) : CallR Try.prog 59 [.int .i64 off, .int .i64 len] w (fun v w' => v = .bool (area off len) ∧ Ext w w') := by
  refine callR_of (n := 21) [(0, .int .i64 off), (1, .int .i64 len)] Try.func59 rfl rfl (Nat.le_of_ble_eq_true rfl) rfl ?_
  refine sc_seq ?_
  refine sc_reg ?_
  refine Go.XK.s (v := .bool false) (e_assign rfl) ?_
  refine sl_nil (nrm_k ?_)
  refine sc_seq ?_
  refine sc_reg ?_
  refine Go.XK.s (v := .int .i64 off) (e_move rfl) ?_
  refine Go.XK.s (v := .bool (decide ((0 : Int) ≤ off))) (e_ge rfl rfl) ?_
  refine Go.XK.s (v := .bool (decide ((0 : Int) ≤ off))) (e_move rfl) ?_
  refine sl_merge 3 10 (.bool ((decide ((0 : Int) ≤ off)) && (decide (off < 2048)))) ?_ ?_
  · refine sl_case (t := 7) rfl (fun g1_2 => ?_) (fun g1_2 => ?_)
    ·
      refine sl_gev (v := .int .i64 off) rfl rfl g1_2 (e_move rfl) rfl (by decide) ?_
      refine sl_gev (v := .bool (decide (off < 2048))) rfl rfl g1_2 (e_lt rfl rfl) rfl (by decide) ?_
      refine Go.XK.s (v := .bool (decide (off < 2048))) (e_pickT rfl g1_2 rfl) ?_
      exact sl_nil (fun a ha => ⟨rfl, ha.sub (.cons (by rw [g1_2]; rfl) (sub_self_cons (sub_self_cons (sub_self_cons (Sub.refl _) rfl) rfl) rfl))⟩)
    ·
      refine sl_gskip rfl rfl g1_2 (by decide) ?_
      refine sl_gskip rfl rfl g1_2 (by decide) ?_
      refine Go.XK.s (v := .bool false) (e_pickF rfl g1_2 rfl) ?_
      exact sl_nil (fun a ha => ⟨rfl, ha.sub (.cons (by rw [g1_2]; rfl) (sub_self_cons (sub_self_cons (sub_self_cons (Sub.refl _) rfl) rfl) rfl))⟩)
  refine Go.XK.s (v := .bool ((decide ((0 : Int) ≤ off)) && (decide (off < 2048)))) (e_move rfl) ?_
  refine sl_merge 3 14 (.bool (((decide ((0 : Int) ≤ off)) && (decide (off < 2048))) && (decide ((1 : Int) ≤ len)))) ?_ ?_
  · refine sl_case (t := 11) rfl (fun g1_6 => ?_) (fun g1_6 => ?_)
    ·
      refine sl_gev (v := .int .i64 len) rfl rfl g1_6 (e_move rfl) rfl (by decide) ?_
      refine sl_gev (v := .bool (decide ((1 : Int) ≤ len))) rfl rfl g1_6 (e_ge rfl rfl) rfl (by decide) ?_
      refine Go.XK.s (v := .bool (decide ((1 : Int) ≤ len))) (e_pickT rfl g1_6 rfl) ?_
      exact sl_nil (fun a ha => ⟨rfl, ha.sub (.cons (by rw [g1_6]; rfl) (sub_self_cons (sub_self_cons (sub_self_cons (Sub.refl _) rfl) rfl) rfl))⟩)
    ·
      refine sl_gskip rfl rfl g1_6 (by decide) ?_
      refine sl_gskip rfl rfl g1_6 (by decide) ?_
      refine Go.XK.s (v := .bool false) (e_pickF rfl g1_6 rfl) ?_
      exact sl_nil (fun a ha => ⟨rfl, ha.sub (.cons (by rw [g1_6]; rfl) (sub_self_cons (sub_self_cons (sub_self_cons (Sub.refl _) rfl) rfl) rfl))⟩)
  refine Go.XK.s (v := .bool (((decide ((0 : Int) ≤ off)) && (decide (off < 2048))) && (decide ((1 : Int) ≤ len)))) (e_move rfl) ?_
  refine sl_merge 5 20 (.bool ((((decide ((0 : Int) ≤ off)) && (decide (off < 2048))) && (decide ((1 : Int) ≤ len))) && (decide (len ≤ (2048 : Int) - off)))) ?_ ?_
  · refine sl_case (t := 15) rfl (fun g1_10 => ?_) (fun g1_10 => ?_)
    ·
      refine sl_gev (v := .int .i64 len) rfl rfl g1_10 (e_move rfl) rfl (by decide) ?_
      refine sl_gev (v := .int .i64 off) rfl rfl g1_10 (e_move rfl) rfl (by decide) ?_
      refine sl_gev (v := .int .i64 ((2048 : Int) - off)) rfl rfl g1_10 (e_sub rfl rfl (by have h_ := g1_10; simp only [Bool.and_eq_true, decide_eq_true_eq] at h_; omega)) rfl (by decide) ?_
      refine sl_gev (v := .bool (decide (len ≤ (2048 : Int) - off))) rfl rfl g1_10 (e_le rfl rfl) rfl (by decide) ?_
      refine Go.XK.s (v := .bool (decide (len ≤ (2048 : Int) - off))) (e_pickT rfl g1_10 rfl) ?_
      exact sl_nil (fun a ha => ⟨rfl, ha.sub (.cons (by rw [g1_10]; rfl) (sub_self_cons (sub_self_cons (sub_self_cons (sub_self_cons (sub_self_cons (Sub.refl _) rfl) rfl) rfl) rfl) rfl))⟩)
    ·
      refine sl_gskip rfl rfl g1_10 (by decide) ?_
      refine sl_gskip rfl rfl g1_10 (by decide) ?_
      refine sl_gskip rfl rfl g1_10 (by decide) ?_
      refine sl_gskip rfl rfl g1_10 (by decide) ?_
      refine Go.XK.s (v := .bool false) (e_pickF rfl g1_10 rfl) ?_
      exact sl_nil (fun a ha => ⟨rfl, ha.sub (.cons (by rw [g1_10]; rfl) (sub_self_cons (sub_self_cons (sub_self_cons (sub_self_cons (sub_self_cons (Sub.refl _) rfl) rfl) rfl) rfl) rfl))⟩)
  refine Go.XK.s (v := .bool ((((decide ((0 : Int) ≤ off)) && (decide (off < 2048))) && (decide ((1 : Int) ≤ len))) && (decide (len ≤ (2048 : Int) - off)))) (e_assign rfl) ?_
  refine sl_nil (nrm_k ?_)
  refine sc_retf rfl (ret1 Try.results59 (rvt rfl) ?_)
  exact ⟨rfl, (Ext.rfl' w)⟩

/-- masterdisc/endian.double (function 69) -/
theorem double_c (n : Int) (w : World) : CallR Try.prog 69 [.int .i64 n] w (fun v w' => v = .bool ((decide (n = 1) || decide (n = 2)) || decide (n = 4)) ∧ Ext w w') := by
  refine callR_of (n := 13) [(0, .int .i64 n)] Try.func69 rfl rfl (Nat.le_of_ble_eq_true rfl) rfl ?_
  refine sc_seq ?_
  refine sc_reg ?_
  refine Go.XK.s (v := .bool false) (e_assign rfl) ?_
  refine sl_nil (nrm_k ?_)
  refine sc_seq ?_
  refine sc_reg ?_
  refine Go.XK.s (v := .int .i64 n) (e_move rfl) ?_
  refine Go.XK.s (v := .bool (decide (n = 1))) (e_eq rfl rfl) ?_
  refine Go.XK.s (v := .bool (decide (n = 1))) (e_move rfl) ?_
  refine sl_merge 3 8 (.bool ((decide (n = 1)) || (decide (n = 2)))) ?_ ?_
  · refine sl_case (t := 5) rfl (fun g1_2 => ?_) (fun g1_2 => ?_)
    ·
      refine sl_gskip rfl rfl g1_2 (by decide) ?_
      refine sl_gskip rfl rfl g1_2 (by decide) ?_
      refine Go.XK.s (v := .bool true) (e_pickT rfl g1_2 rfl) ?_
      exact sl_nil (fun a ha => ⟨rfl, ha.sub (.cons (by rw [g1_2]; rfl) (sub_self_cons (sub_self_cons (sub_self_cons (Sub.refl _) rfl) rfl) rfl))⟩)
    ·
      refine sl_gev (v := .int .i64 n) rfl rfl g1_2 (e_move rfl) rfl (by decide) ?_
      refine sl_gev (v := .bool (decide (n = 2))) rfl rfl g1_2 (e_eq rfl rfl) rfl (by decide) ?_
      refine Go.XK.s (v := .bool (decide (n = 2))) (e_pickF rfl g1_2 rfl) ?_
      exact sl_nil (fun a ha => ⟨rfl, ha.sub (.cons (by rw [g1_2]; rfl) (sub_self_cons (sub_self_cons (sub_self_cons (Sub.refl _) rfl) rfl) rfl))⟩)
  refine Go.XK.s (v := .bool ((decide (n = 1)) || (decide (n = 2)))) (e_move rfl) ?_
  refine sl_merge 3 12 (.bool (((decide (n = 1)) || (decide (n = 2))) || (decide (n = 4)))) ?_ ?_
  · refine sl_case (t := 9) rfl (fun g1_6 => ?_) (fun g1_6 => ?_)
    ·
      refine sl_gskip rfl rfl g1_6 (by decide) ?_
      refine sl_gskip rfl rfl g1_6 (by decide) ?_
      refine Go.XK.s (v := .bool true) (e_pickT rfl g1_6 rfl) ?_
      exact sl_nil (fun a ha => ⟨rfl, ha.sub (.cons (by rw [g1_6]; rfl) (sub_self_cons (sub_self_cons (sub_self_cons (Sub.refl _) rfl) rfl) rfl))⟩)
    ·
      refine sl_gev (v := .int .i64 n) rfl rfl g1_6 (e_move rfl) rfl (by decide) ?_
      refine sl_gev (v := .bool (decide (n = 4))) rfl rfl g1_6 (e_eq rfl rfl) rfl (by decide) ?_
      refine Go.XK.s (v := .bool (decide (n = 4))) (e_pickF rfl g1_6 rfl) ?_
      exact sl_nil (fun a ha => ⟨rfl, ha.sub (.cons (by rw [g1_6]; rfl) (sub_self_cons (sub_self_cons (sub_self_cons (Sub.refl _) rfl) rfl) rfl))⟩)
  refine Go.XK.s (v := .bool (((decide (n = 1)) || (decide (n = 2))) || (decide (n = 4)))) (e_assign rfl) ?_
  refine sl_nil (nrm_k ?_)
  refine sc_retf rfl (ret1 Try.results69 (rvt rfl) ?_)
  exact ⟨rfl, (Ext.rfl' w)⟩

/-- masterdisc/endian.double (function 69) -/
theorem double4_c (w : World) : CallR Try.prog 69 [.int .i64 4] w (fun v w' => v = .bool true ∧ Ext w w') := by
  refine callR_of (n := 13) [(0, .int .i64 4)] Try.func69 rfl rfl (Nat.le_of_ble_eq_true rfl) rfl ?_
  refine sc_seq ?_
  refine sc_reg ?_
  refine Go.XK.s (v := .bool false) (e_assign rfl) ?_
  refine sl_nil (nrm_k ?_)
  refine sc_seq ?_
  refine sc_reg ?_
  refine Go.XK.s (v := .int .i64 4) (e_move rfl) ?_
  refine Go.XK.s (v := .bool (decide ((4 : Int) = 1))) (e_eq rfl rfl) ?_
  refine Go.XK.s (v := .bool (decide ((4 : Int) = 1))) (e_move rfl) ?_
  refine sl_gev (v := .int .i64 4) rfl rfl (by decide) (e_move rfl) rfl (by decide) ?_
  refine sl_gev (v := .bool (decide ((4 : Int) = 2))) rfl rfl (by decide) (e_eq rfl rfl) rfl (by decide) ?_
  refine Go.XK.s (v := .bool (decide ((4 : Int) = 2))) (e_pickF rfl (by decide) rfl) ?_
  refine Go.XK.s (v := .bool (decide ((4 : Int) = 2))) (e_move rfl) ?_
  refine sl_gev (v := .int .i64 4) rfl rfl (by decide) (e_move rfl) rfl (by decide) ?_
  refine sl_gev (v := .bool (decide ((4 : Int) = 4))) rfl rfl (by decide) (e_eq rfl rfl) rfl (by decide) ?_
  refine Go.XK.s (v := .bool (decide ((4 : Int) = 4))) (e_pickF rfl (by decide) rfl) ?_
  refine Go.XK.s (v := .bool (decide ((4 : Int) = 4))) (e_assign rfl) ?_
  refine sl_nil (nrm_k ?_)
  refine sc_retf rfl (ret1 Try.results69 (rvt rfl) ?_)
  exact ⟨rfl, (Ext.rfl' w)⟩

/-- masterdisc/endian.fits (function 70) -/
theorem fits_c (n : Int) (s : Nat) (w : World) (hs : s ≤ 7) : CallR Try.prog 70 [.int .i64 n, .int .i64 (s : Int)] w (fun v w' => v = .bool (fits n s) ∧ Ext w w') := by
  refine callR_of (n := 18) [(0, .int .i64 n), (1, .int .i64 (s : Int))] Try.func70 rfl rfl (Nat.le_of_ble_eq_true rfl) rfl ?_
  refine sc_seq ?_
  refine sc_reg ?_
  refine Go.XK.s (v := .bool false) (e_assign rfl) ?_
  refine sl_nil (nrm_k ?_)
  refine sc_seq ?_
  refine sc_reg ?_
  refine Go.XK.s (v := .int .i64 n) (e_move rfl) ?_
  refine Go.XK.s (v := .bool (decide ((0 : Int) ≤ n))) (e_ge rfl rfl) ?_
  refine Go.XK.s (v := .bool (decide ((0 : Int) ≤ n))) (e_move rfl) ?_
  refine sl_merge 10 17 (.bool ((decide ((0 : Int) ≤ n)) && ((decide ((s : Int) = 8)) || (decide (n < 256 ^ s))))) ?_ ?_
  · refine sl_case (t := 7) rfl (fun g1_2 => ?_) (fun g1_2 => ?_)
    ·
      refine sl_gev (v := .int .i64 (s : Int)) rfl rfl g1_2 (e_move rfl) rfl (by decide) ?_
      refine sl_gev (v := .bool (decide ((s : Int) = 8))) rfl rfl g1_2 (e_eq rfl rfl) rfl (by decide) ?_
      refine sl_gev (v := .bool (decide ((s : Int) = 8))) rfl rfl g1_2 (e_move rfl) rfl (by decide) ?_
      refine sl_merge 6 16 (.bool ((decide ((s : Int) = 8)) || (decide (n < 256 ^ s)))) ?_ ?_
      · refine sl_case (t := 10) rfl (fun g1_5 => ?_) (fun g1_5 => ?_)
        ·
          refine sl_gskip rfl rfl g1_5 (by decide) ?_
          refine sl_gskip rfl rfl g1_5 (by decide) ?_
          refine sl_gskip rfl rfl g1_5 (by decide) ?_
          refine sl_gskip rfl rfl g1_5 (by decide) ?_
          refine sl_gskip rfl rfl g1_5 (by decide) ?_
          refine sl_gev (v := .bool true) rfl rfl g1_2 (e_pickT rfl g1_5 rfl) rfl (by decide) ?_
          exact sl_nil (fun a ha => ⟨rfl, ha.sub (.cons (by rw [g1_5]; rfl) (sub_self_cons (sub_self_cons (sub_self_cons (sub_self_cons (sub_self_cons (sub_self_cons (Sub.refl _) rfl) rfl) rfl) rfl) rfl) rfl))⟩)
        ·
          refine sl_gev (v := .int .i64 n) rfl rfl g1_5 (e_move rfl) rfl (by decide) ?_
          refine sl_gev (v := .int .i64 (s : Int)) rfl rfl g1_5 (e_move rfl) rfl (by decide) ?_
          refine sl_gev (v := .int .i64 ((8 : Int) * (s : Int))) rfl rfl g1_5 (e_mul rfl rfl (by omega)) rfl (by decide) ?_
          refine sl_gev (v := .int .i64 (256 ^ s)) rfl rfl g1_5 ((Int.one_mul (256 ^ s)) ▸ e_shl8 s hs rfl rfl (by have := p256 s hs; omega) (by have := p256 s hs; omega)) rfl (by decide) ?_
          refine sl_gev (v := .bool (decide (n < 256 ^ s))) rfl rfl g1_5 (e_lt rfl rfl) rfl (by decide) ?_
          refine sl_gev (v := .bool (decide (n < 256 ^ s))) rfl rfl g1_2 (e_pickF rfl g1_5 rfl) rfl (by decide) ?_
          exact sl_nil (fun a ha => ⟨rfl, ha.sub (.cons (by rw [g1_5]; rfl) (sub_self_cons (sub_self_cons (sub_self_cons (sub_self_cons (sub_self_cons (sub_self_cons (Sub.refl _) rfl) rfl) rfl) rfl) rfl) rfl))⟩)
      refine Go.XK.s (v := .bool ((decide ((s : Int) = 8)) || (decide (n < 256 ^ s)))) (e_pickT rfl g1_2 rfl) ?_
      exact sl_nil (fun a ha => ⟨rfl, ha.sub (.cons (by rw [g1_2]; rfl) (sub_self_cons (sub_self_cons (sub_self_cons (sub_self_cons (sub_self_cons (Sub.refl _) rfl) rfl) rfl) rfl) rfl))⟩)
    ·
      refine sl_gskip rfl rfl g1_2 (by decide) ?_
      refine sl_gskip rfl rfl g1_2 (by decide) ?_
      refine sl_gskip rfl rfl g1_2 (by decide) ?_
      refine sl_gskipU rfl rfl (by decide) ?_
      refine sl_gskipU rfl rfl (by decide) ?_
      refine sl_gskipU rfl rfl (by decide) ?_
      refine sl_gskipU rfl rfl (by decide) ?_
      refine sl_gskipU rfl rfl (by decide) ?_
      refine sl_gskip rfl rfl g1_2 (by decide) ?_
      refine Go.XK.s (v := .bool false) (e_pickF rfl g1_2 rfl) ?_
      exact sl_nil (fun a ha => ⟨rfl, ha.sub (.cons (by rw [g1_2]; rfl) (sub_self_cons (sub_self_cons (sub_self_cons (sub_self_cons (sub_self_cons (sub_self_cons (sub_self_cons (sub_self_cons (sub_self_cons (sub_self_cons (Sub.refl _) rfl) rfl) rfl) rfl) rfl) rfl) rfl) rfl) rfl) rfl))⟩)
  refine Go.XK.s (v := .bool ((decide ((0 : Int) ≤ n)) && ((decide ((s : Int) = 8)) || (decide (n < 256 ^ s))))) (e_assign rfl) ?_
  refine sl_nil (nrm_k ?_)
  refine sc_retf rfl (ret1 Try.results70 (rvt rfl) ?_)
  exact ⟨congrArg Value.bool (fits_eq n s hs), (Ext.rfl' w)⟩

/-- masterdisc/endian.up$1 (function 78) -/
theorem up1_c (n : Int) (w : World) : CallR Try.prog 78 [.int .i64 n] w (fun v w' => v = .int .i64 n ∧ Ext w w') := by
  refine callR_of (n := 4) [(0, .int .i64 n)] Try.func78 rfl rfl (Nat.le_of_ble_eq_true rfl) rfl ?_
  refine sc_seq ?_
  refine sc_reg ?_
  refine Go.XK.s (v := .int .i64 0) (e_assign rfl) ?_
  refine sl_nil (nrm_k ?_)
  refine sc_seq ?_
  refine sc_reg ?_
  refine Go.XK.s (v := .int .i64 n) (e_move rfl) ?_
  refine Go.XK.s (v := .int .i64 n) (e_assign rfl) ?_
  refine sl_nil (nrm_k ?_)
  refine sc_retf rfl (ret1 Try.results78 (rvt rfl) ?_)
  exact ⟨rfl, (Ext.rfl' w)⟩

/-- masterdisc/endian.up (function 72) -/
theorem up_c (n : Int) (w : World) : CallR Try.prog 72 [.int .i64 n] w (fun v w' => v = .func (.func 78) #[] #[] ∧ Ext w w') := by
  refine callR_of (n := 3) [(0, .int .i64 n)] Try.func72 rfl rfl (Nat.le_of_ble_eq_true rfl) rfl ?_
  refine sc_seq ?_
  refine sc_reg ?_
  refine Go.XK.s (v := .nilFunc) (e_assign rfl) ?_
  refine sl_nil (nrm_k ?_)
  refine sc_seq ?_
  refine sc_reg ?_
  refine Go.XK.s (v := .func (.func 78) #[] #[]) (e_assign rfl) ?_
  refine sl_nil (nrm_k ?_)
  refine sc_retf rfl (ret1 Try.results72 (rvt rfl) ?_)
  exact ⟨rfl, (Ext.rfl' w)⟩

/-- masterdisc/endian.down$1 (function 79) -/
theorem down1_c (bz : Nat) (z n : Int) (w : World) (hbz : Blk w bz 3 [.int .i64 z]) (hz : 0 ≤ z ∧ z ≤ 1000) (hn : 0 ≤ n ∧ n ≤ 1000) : CallR Try.prog 79 [.int .i64 n, .pointer (some ⟨bz, 0, none⟩)] w (fun v w' => v = .int .i64 (z - 1 - n) ∧ Ext w w') := by
  refine callR_of (n := 8) [(0, .int .i64 n), (1, .pointer (some ⟨bz, 0, none⟩))] Try.func79 rfl rfl (Nat.le_of_ble_eq_true rfl) rfl ?_
  refine sc_seq ?_
  refine sc_reg ?_
  refine Go.XK.s (v := .int .i64 0) (e_assign rfl) ?_
  refine sl_nil (nrm_k ?_)
  refine sc_seq ?_
  refine sc_reg ?_
  refine Go.XK.s (v := .int .i64 z) (e_load rfl (load1 Try.isAgg3 (hbz.cell (j := 0) rfl))) ?_
  refine Go.XK.s (v := .int .i64 (z - 1)) (e_sub rfl rfl (by omega)) ?_
  refine Go.XK.s (v := .int .i64 n) (e_move rfl) ?_
  refine Go.XK.s (v := .int .i64 ((z - 1) - n)) (e_sub rfl rfl (by omega)) ?_
  refine Go.XK.s (v := .int .i64 ((z - 1) - n)) (e_assign rfl) ?_
  refine sl_nil (nrm_k ?_)
  refine sc_retf rfl (ret1 Try.results79 (rvt rfl) ?_)
  exact ⟨rfl, (Ext.rfl' w)⟩

/-- masterdisc/endian.down (function 73) -/
theorem down_c (n : Int) (w : World) : CallR Try.prog 73 [.int .i64 n] w (fun v w' => ∃ b : Nat, v = .func (.func 79) #[] #[.pointer (some ⟨b, 0, none⟩)] ∧ Blk w' b 3 [.int .i64 n] ∧ w.heap.size ≤ b ∧ Ext w w') := by
  refine callR_of (n := 4) [(0, .int .i64 n)] Try.func73 rfl rfl (Nat.le_of_ble_eq_true rfl) rfl ?_
  refine sc_seq ?_
  refine sc_reg ?_
  refine s_box (cs := [.int .i64 n]) rfl rfl ?_
  intro b1 w1 hb1 he1 hs1 hx1
  have ge_b1 : w.heap.size ≤ b1 := by have h_ := (Below.size (Ext.rfl' w)); omega
  have xw_w1 : Ext w w1 := Ext.tr (Ext.rfl' w) hx1
  refine Go.XK.s (v := .nilFunc) (e_assign rfl) ?_
  refine sl_nil (nrm_k ?_)
  refine sc_seq ?_
  refine sc_reg ?_
  refine Go.XK.s (v := .func (.func 79) #[] #[.pointer (some ⟨b1, 0, none⟩)]) (e_makeFunc (vs := [.pointer (some ⟨b1, 0, none⟩)]) rfl) ?_
  refine Go.XK.s (v := .func (.func 79) #[] #[.pointer (some ⟨b1, 0, none⟩)]) (e_assign rfl) ?_
  refine sl_nil (nrm_k ?_)
  refine sc_retf rfl (ret1 Try.results73 (rvt rfl) ?_)
  exact ⟨b1, rfl, hb1, ge_b1, xw_w1⟩

/-- masterdisc/endian.write (function 71) -/
theorem wup_c (n : Int) (z : Nat) (w : World) (h0 : 0 ≤ n) (hz : z ≤ 7) : CallR Try.prog 71 [.int .i64 n, .int .i64 (z : Int), .func (.func 78) #[] #[]] w (fun v w' => v = .string (B (le z n)) ∧ Ext w w') := by
  refine callR_of (n := 28) [(0, .int .i64 n), (1, .int .i64 (z : Int)), (2, .func (.func 78) #[] #[])] Try.func71 rfl rfl (Nat.le_of_ble_eq_true rfl) rfl ?_
  refine sc_seq ?_
  refine sc_reg ?_
  refine Go.XK.s (v := .string (B [])) (e_assign rfl) ?_
  refine sl_nil (nrm_k ?_)
  refine sc_seq ?_
  refine sc_reg ?_
  refine Go.XK.s (v := .int .i64 (z : Int)) (e_move rfl) ?_
  refine s_make1 (m := z) (z := .int .u8 0) (bytes := 1) rfl rfl Try.underlying70 (by kernel_rfl) rfl (by omega) (by omega) ?_
  intro b10 w1 hb10 he10 hs10 hx10
  have ge_b10 : w.heap.size ≤ b10 := by have h_ := (Below.size (Ext.rfl' w)); omega
  have xw_w1 : Ext w w1 := Ext.tr (Ext.rfl' w) hx10
  refine Go.XK.s (v := .slice (some ⟨b10, 0, none⟩) z z) (e_assign rfl) ?_
  refine sl_nil (nrm_k ?_)
  refine sc_seq ?_
  refine sc_seq ?_
  refine sc_reg ?_
  refine Go.XK.s (v := .int .i64 (z : Int)) (e_move rfl) ?_
  refine Go.XK.s (v := .int .i64 0) (e_move rfl) ?_
  refine sl_nil (nrm_k ?_)
  refine sc_block ?_
  refine sc_loop (fun m_ l_ w_ => ∃ (k : Nat), m_ = z - k ∧ l_ = [(12, .int .i64 (k : Int)), (0, .int .i64 n), (1, .int .i64 (z : Int)), (2, .func (.func 78) #[] #[]), (7, .slice (some ⟨b10, 0, none⟩) z z), (11, .int .i64 (z : Int))] ∧ Ext w w_ ∧ Blk w_ b10 5 (wr z n k) ∧ k ≤ z) _ [(12, .int .i64 (0 : Int)), (0, .int .i64 n), (1, .int .i64 (z : Int)), (2, .func (.func 78) #[] #[]), (7, .slice (some ⟨b10, 0, none⟩) z z), (11, .int .i64 (z : Int))] ⟨0, rfl, rfl, xw_w1, (by rw [wr_zero] at hb10; exact hb10), Nat.zero_le _⟩ (.cons rfl (.cons rfl (.cons rfl (.cons rfl (.cons rfl (.cons rfl (.nil))))))) ?_
  rintro j3 _ w2 ⟨k, rfl, rfl, xw_w2, hb10, hk⟩
  refine sc_seq ?_
  refine sc_reg ?_
  refine Go.XK.s (v := .bool (decide ((k : Int) < (z : Int)))) (e_lt rfl rfl) ?_
  refine sl_nil (nrm_k ?_)
  refine sc_seq ?_
  refine sc_ifd rfl (fun c13 => ?_) (fun c13 => ?_)
  ·
    refine sc_skip (nrm_k ?_)
    refine sc_seq ?_
    refine sc_block ?_
    refine sc_seq ?_
    refine sc_reg ?_
    refine Go.XK.s (v := .int .i64 (k : Int)) (e_move rfl) ?_
    refine Go.XK.s (v := .int .i64 (k : Int)) (e_assign rfl) ?_
    refine sl_nil (nrm_k ?_)
    refine sc_free [(8, .int .i64 (k : Int)), (14, .int .i64 (k : Int)), (13, .bool (decide ((k : Int) < (z : Int)))), (12, .int .i64 (k : Int)), (0, .int .i64 n), (1, .int .i64 (z : Int)), (2, .func (.func 78) #[] #[]), (7, .slice (some ⟨b10, 0, none⟩) z z), (11, .int .i64 (z : Int))] [15, 16, 17, 18, 19, 20, 21, 22, 23] [(Is (.slice (some ⟨b10, 0, none⟩) z z)), (Is (.func (.func 78) #[] #[])), (Is (.int .i64 (k : Int))), (Is (.int .i64 (k : Int))), (Is (.int .i64 n)), (Is (.int .i64 (k : Int))), (Is (.int .i64 ((8 : Int) * (k : Int)))), (Is (.int .i64 (n / 256 ^ k))), (Is (.int .u8 ((u8of (n / 256 ^ k)).toNat)))] [9, 10] (by kernel_rfl) (Sub.refl _) (by kernel_rfl) (by kernel_rfl) (by kernel_rfl) rfl (by kernel_rfl) (ds_ext (Stays.spec (.is _ (.is _ (.is _ (.is _ (.is _ (.is _ (.is _ (.is _ (.is _ (.nil)))))))))))) ⟨?_, ?_, ?_, ?_, ?_, ?_, ?_, ?_, ?_, trivial⟩ ?_
    · intro Q act_ wI hxI ha hp
      have xw_wI : Ext w wI := Ext.tr xw_w2 hxI
      replace hb10 := hb10.ext hxI
      exact h_evA (v := .slice (some ⟨b10, 0, none⟩) z z) ha rfl (e_move rfl) rfl rfl (Ext.rfl' _)
    · intro Q act_ wI hxI ha hp
      have xw_wI : Ext w wI := Ext.tr xw_w2 hxI
      replace hb10 := hb10.ext hxI
      exact h_evA (v := .func (.func 78) #[] #[]) ha rfl (e_move rfl) rfl rfl (Ext.rfl' _)
    · intro Q act_ wI hxI ha hp
      have xw_wI : Ext w wI := Ext.tr xw_w2 hxI
      replace hb10 := hb10.ext hxI
      exact h_evA (v := .int .i64 (k : Int)) ha rfl (e_move rfl) rfl rfl (Ext.rfl' _)
    · intro Q act_ wI hxI ha hp
      have xw_wI : Ext w wI := Ext.tr xw_w2 hxI
      replace hb10 := hb10.ext hxI
      have ha := ha.add (show act_.tmps.getD 16 undef = .func (.func 78) #[] #[] from hp 1 (by kernel_rfl) (by decide))
      have ha := ha.add (show act_.tmps.getD 17 undef = .int .i64 (k : Int) from hp 2 (by kernel_rfl) (by decide))
      exact h_callA ha ent78 rfl rfl rfl (up1_c _ wI) rfl (by rintro _ w1 ⟨rfl, hR⟩; exact ⟨rfl, hR⟩)
    · intro Q act_ wI hxI ha hp
      have xw_wI : Ext w wI := Ext.tr xw_w2 hxI
      replace hb10 := hb10.ext hxI
      exact h_evA (v := .int .i64 n) ha rfl (e_move rfl) rfl rfl (Ext.rfl' _)
    · intro Q act_ wI hxI ha hp
      have xw_wI : Ext w wI := Ext.tr xw_w2 hxI
      replace hb10 := hb10.ext hxI
      exact h_evA (v := .int .i64 (k : Int)) ha rfl (e_move rfl) rfl rfl (Ext.rfl' _)
    · intro Q act_ wI hxI ha hp
      have xw_wI : Ext w wI := Ext.tr xw_w2 hxI
      replace hb10 := hb10.ext hxI
      have ha := ha.add (show act_.tmps.getD 20 undef = .int .i64 (k : Int) from hp 5 (by kernel_rfl) (by decide))
      exact h_evA (v := .int .i64 ((8 : Int) * (k : Int))) ha rfl (e_mul rfl rfl (by omega)) rfl rfl (Ext.rfl' _)
    · intro Q act_ wI hxI ha hp
      have xw_wI : Ext w wI := Ext.tr xw_w2 hxI
      replace hb10 := hb10.ext hxI
      have ha := ha.add (show act_.tmps.getD 19 undef = .int .i64 n from hp 4 (by kernel_rfl) (by decide))
      have ha := ha.add (show act_.tmps.getD 21 undef = .int .i64 ((8 : Int) * (k : Int)) from hp 6 (by kernel_rfl) (by decide))
      exact h_evA (v := .int .i64 (n / 256 ^ k)) ha rfl (e_shr8 k (by omega) rfl rfl) rfl rfl (Ext.rfl' _)
    · intro Q act_ wI hxI ha hp
      have xw_wI : Ext w wI := Ext.tr xw_w2 hxI
      replace hb10 := hb10.ext hxI
      have ha := ha.add (show act_.tmps.getD 22 undef = .int .i64 (n / 256 ^ k) from hp 7 (by kernel_rfl) (by decide))
      exact h_evA (v := .int .u8 ((u8of (n / 256 ^ k)).toNat)) ha rfl (e_intu8 Try.underlying3 Try.underlying5 rfl) rfl rfl (Ext.rfl' _)
    intro vs_ w4 hx_w4 hvs act_ ha hv
    have xw_w4 : Ext w w4 := Ext.tr xw_w2 hx_w4
    replace hb10 := hb10.ext hx_w4
    have ha := ha.add ((hv 0 (by decide)).trans (show vs_ 0 = .slice (some ⟨b10, 0, none⟩) z z from hvs 0 (by decide)))
    have ha := ha.add ((hv 3 (by decide)).trans (show vs_ 3 = .int .i64 (k : Int) from hvs 3 (by decide)))
    have ha := ha.add ((hv 8 (by decide)).trans (show vs_ 8 = .int .u8 ((u8of (n / 256 ^ k)).toNat) from hvs 8 (by decide)))
    refine st_go ha ?_
    clear ha hv hvs
    refine st_ev (v := .pointer (some ⟨b10, k, none⟩)) rfl (e_idxBlk1 Try.underlying70 Try.sizeOf5 rfl rfl k rfl (by omega)) ?_
    refine st_blkV [.int .u8 ((u8of (n / 256 ^ k)).toNat : Int)] (wr z n (k + 1)) rfl rfl rfl hb10 rfl Try.sizeOf5 (by rw [wr_length n hk]; first | (simp; done) | (simp; omega)) rfl (wr_succ n (by omega)) ?_
    intro wS hbS hmS hsS
    replace hb10 := hbS
    have xw_wS : Ext w wS := below_mut xw_w4 (Below.size xw_w4) hmS ge_b10
    refine st_nil (nrm_k ?_)
    refine sc_reg ?_
    refine Go.XK.s (v := .int .i64 ((k : Int) + 1)) (e_add rfl rfl (by omega)) ?_
    refine Go.XK.s (v := .int .i64 ((k : Int) + 1)) (e_move rfl) ?_
    refine sl_nil ?_
    exact nrm_loopq rfl _ _ (by omega) ⟨k + 1, rfl, rfl, xw_wS, hb10, (by omega)⟩ (.cons rfl (.cons rfl (.cons rfl (.cons rfl (.cons rfl (.cons rfl (.nil)))))))
  ·
    have hbE := hb10
    rw [show k = z from by omega] at hbE
    refine sc_exit rfl (nrm_k ?_)
    refine sc_seq ?_
    refine sc_reg ?_
    refine Go.XK.s (v := .slice (some ⟨b10, 0, none⟩) z z) (e_move rfl) ?_
    refine Go.XK.s (v := .string (B (le z n))) (e_convr rfl (conv_blk (s := le z n) Try.underlying70 Try.underlying5 Try.underlying9 (by rw [← wr_full]; exact hbE) (le_length z n))) ?_
    refine Go.XK.s (v := .string (B (le z n))) (e_assign rfl) ?_
    refine sl_nil (nrm_k ?_)
    refine sc_retf rfl (ret1 Try.results71 (rvt rfl) ?_)
    exact ⟨rfl, xw_w2⟩

/-- masterdisc/endian.write (function 71) -/
theorem wdown_c (n : Int) (bD : Nat) (w : World) (h0 : 0 ≤ n) (hbD : Blk w bD 3 [.int .i64 4]) : CallR Try.prog 71 [.int .i64 n, .int .i64 4, .func (.func 79) #[] #[.pointer (some ⟨bD, 0, none⟩)]] w (fun v w' => v = .string (B ((le 4 n).reverse)) ∧ Ext w w') := by
  refine callR_of (n := 28) [(0, .int .i64 n), (1, .int .i64 4), (2, .func (.func 79) #[] #[.pointer (some ⟨bD, 0, none⟩)])] Try.func71 rfl rfl (Nat.le_of_ble_eq_true rfl) rfl ?_
  refine sc_seq ?_
  refine sc_reg ?_
  refine Go.XK.s (v := .string (B [])) (e_assign rfl) ?_
  refine sl_nil (nrm_k ?_)
  refine sc_seq ?_
  refine sc_reg ?_
  refine Go.XK.s (v := .int .i64 4) (e_move rfl) ?_
  refine s_make1 (m := 4) (z := .int .u8 0) (bytes := 1) rfl rfl Try.underlying70 (by kernel_rfl) rfl (by omega) (by omega) ?_
  intro b10 w1 hb10 he10 hs10 hx10
  have ne_b10_bD : b10 ≠ bD := by have h_ := hbD.lt; omega
  have ge_b10 : w.heap.size ≤ b10 := by have h_ := (Below.size (Ext.rfl' w)); omega
  have xw_w1 : Ext w w1 := Ext.tr (Ext.rfl' w) hx10
  replace hbD := hbD.ext hx10
  refine Go.XK.s (v := .slice (some ⟨b10, 0, none⟩) 4 4) (e_assign rfl) ?_
  refine sl_nil (nrm_k ?_)
  refine sc_seq ?_
  refine sc_seq ?_
  refine sc_reg ?_
  refine Go.XK.s (v := .int .i64 4) (e_move rfl) ?_
  refine Go.XK.s (v := .int .i64 0) (e_move rfl) ?_
  refine sl_nil (nrm_k ?_)
  refine sc_block ?_
  refine sc_loop (fun m_ l_ w_ => ∃ (k : Nat), m_ = 4 - k ∧ l_ = [(12, .int .i64 (k : Int)), (0, .int .i64 n), (1, .int .i64 4), (2, .func (.func 79) #[] #[.pointer (some ⟨bD, 0, none⟩)]), (7, .slice (some ⟨b10, 0, none⟩) 4 4), (11, .int .i64 4)] ∧ Ext w w_ ∧ Blk w_ bD 3 [.int .i64 4] ∧ Blk w_ b10 5 (wrb 4 n k) ∧ k ≤ 4) _ [(12, .int .i64 (0 : Int)), (0, .int .i64 n), (1, .int .i64 4), (2, .func (.func 79) #[] #[.pointer (some ⟨bD, 0, none⟩)]), (7, .slice (some ⟨b10, 0, none⟩) 4 4), (11, .int .i64 4)] ⟨0, rfl, rfl, xw_w1, hbD, (by have h_ := hb10; rw [wrb_zero] at h_; exact h_), Nat.zero_le _⟩ (.cons rfl (.cons rfl (.cons rfl (.cons rfl (.cons rfl (.cons rfl (.nil))))))) ?_
  rintro j3 _ w2 ⟨k, rfl, rfl, xw_w2, hbD, hb10, hk⟩
  refine sc_seq ?_
  refine sc_reg ?_
  refine Go.XK.s (v := .bool (decide ((k : Int) < 4))) (e_lt rfl rfl) ?_
  refine sl_nil (nrm_k ?_)
  refine sc_seq ?_
  refine sc_ifd rfl (fun c13 => ?_) (fun c13 => ?_)
  ·
    refine sc_skip (nrm_k ?_)
    refine sc_seq ?_
    refine sc_block ?_
    refine sc_seq ?_
    refine sc_reg ?_
    refine Go.XK.s (v := .int .i64 (k : Int)) (e_move rfl) ?_
    refine Go.XK.s (v := .int .i64 (k : Int)) (e_assign rfl) ?_
    refine sl_nil (nrm_k ?_)
    refine sc_free [(8, .int .i64 (k : Int)), (14, .int .i64 (k : Int)), (13, .bool (decide ((k : Int) < 4))), (12, .int .i64 (k : Int)), (0, .int .i64 n), (1, .int .i64 4), (2, .func (.func 79) #[] #[.pointer (some ⟨bD, 0, none⟩)]), (7, .slice (some ⟨b10, 0, none⟩) 4 4), (11, .int .i64 4)] [15, 16, 17, 18, 19, 20, 21, 22, 23] [(Is (.slice (some ⟨b10, 0, none⟩) 4 4)), (Is (.func (.func 79) #[] #[.pointer (some ⟨bD, 0, none⟩)])), (Is (.int .i64 (k : Int))), (Is (.int .i64 (4 - 1 - (k : Int)))), (Is (.int .i64 n)), (Is (.int .i64 (k : Int))), (Is (.int .i64 ((8 : Int) * (k : Int)))), (Is (.int .i64 (n / 256 ^ k))), (Is (.int .u8 ((u8of (n / 256 ^ k)).toNat)))] [9, 10] (by kernel_rfl) (Sub.refl _) (by kernel_rfl) (by kernel_rfl) (by kernel_rfl) rfl (by kernel_rfl) (ds_ext (Stays.spec (.is _ (.is _ (.is _ (.is _ (.is _ (.is _ (.is _ (.is _ (.is _ (.nil)))))))))))) ⟨?_, ?_, ?_, ?_, ?_, ?_, ?_, ?_, ?_, trivial⟩ ?_
    · intro Q act_ wI hxI ha hp
      have xw_wI : Ext w wI := Ext.tr xw_w2 hxI
      replace hbD := hbD.ext hxI
      replace hb10 := hb10.ext hxI
      exact h_evA (v := .slice (some ⟨b10, 0, none⟩) 4 4) ha rfl (e_move rfl) rfl rfl (Ext.rfl' _)
    · intro Q act_ wI hxI ha hp
      have xw_wI : Ext w wI := Ext.tr xw_w2 hxI
      replace hbD := hbD.ext hxI
      replace hb10 := hb10.ext hxI
      exact h_evA (v := .func (.func 79) #[] #[.pointer (some ⟨bD, 0, none⟩)]) ha rfl (e_move rfl) rfl rfl (Ext.rfl' _)
    · intro Q act_ wI hxI ha hp
      have xw_wI : Ext w wI := Ext.tr xw_w2 hxI
      replace hbD := hbD.ext hxI
      replace hb10 := hb10.ext hxI
      exact h_evA (v := .int .i64 (k : Int)) ha rfl (e_move rfl) rfl rfl (Ext.rfl' _)
    · intro Q act_ wI hxI ha hp
      have xw_wI : Ext w wI := Ext.tr xw_w2 hxI
      replace hbD := hbD.ext hxI
      replace hb10 := hb10.ext hxI
      have ha := ha.add (show act_.tmps.getD 16 undef = .func (.func 79) #[] #[.pointer (some ⟨bD, 0, none⟩)] from hp 1 (by kernel_rfl) (by decide))
      have ha := ha.add (show act_.tmps.getD 17 undef = .int .i64 (k : Int) from hp 2 (by kernel_rfl) (by decide))
      exact h_callA ha ent79 rfl rfl rfl (down1_c _ 4 (k : Int) wI hbD (by omega) (by omega)) rfl (by rintro _ w1 ⟨rfl, hR⟩; exact ⟨rfl, hR⟩)
    · intro Q act_ wI hxI ha hp
      have xw_wI : Ext w wI := Ext.tr xw_w2 hxI
      replace hbD := hbD.ext hxI
      replace hb10 := hb10.ext hxI
      exact h_evA (v := .int .i64 n) ha rfl (e_move rfl) rfl rfl (Ext.rfl' _)
    · intro Q act_ wI hxI ha hp
      have xw_wI : Ext w wI := Ext.tr xw_w2 hxI
      replace hbD := hbD.ext hxI
      replace hb10 := hb10.ext hxI
      exact h_evA (v := .int .i64 (k : Int)) ha rfl (e_move rfl) rfl rfl (Ext.rfl' _)
    · intro Q act_ wI hxI ha hp
      have xw_wI : Ext w wI := Ext.tr xw_w2 hxI
      replace hbD := hbD.ext hxI
      replace hb10 := hb10.ext hxI
      have ha := ha.add (show act_.tmps.getD 20 undef = .int .i64 (k : Int) from hp 5 (by kernel_rfl) (by decide))
      exact h_evA (v := .int .i64 ((8 : Int) * (k : Int))) ha rfl (e_mul rfl rfl (by omega)) rfl rfl (Ext.rfl' _)
    · intro Q act_ wI hxI ha hp
      have xw_wI : Ext w wI := Ext.tr xw_w2 hxI
      replace hbD := hbD.ext hxI
      replace hb10 := hb10.ext hxI
      have ha := ha.add (show act_.tmps.getD 19 undef = .int .i64 n from hp 4 (by kernel_rfl) (by decide))
      have ha := ha.add (show act_.tmps.getD 21 undef = .int .i64 ((8 : Int) * (k : Int)) from hp 6 (by kernel_rfl) (by decide))
      exact h_evA (v := .int .i64 (n / 256 ^ k)) ha rfl (e_shr8 k (by omega) rfl rfl) rfl rfl (Ext.rfl' _)
    · intro Q act_ wI hxI ha hp
      have xw_wI : Ext w wI := Ext.tr xw_w2 hxI
      replace hbD := hbD.ext hxI
      replace hb10 := hb10.ext hxI
      have ha := ha.add (show act_.tmps.getD 22 undef = .int .i64 (n / 256 ^ k) from hp 7 (by kernel_rfl) (by decide))
      exact h_evA (v := .int .u8 ((u8of (n / 256 ^ k)).toNat)) ha rfl (e_intu8 Try.underlying3 Try.underlying5 rfl) rfl rfl (Ext.rfl' _)
    intro vs_ w4 hx_w4 hvs act_ ha hv
    have xw_w4 : Ext w w4 := Ext.tr xw_w2 hx_w4
    replace hbD := hbD.ext hx_w4
    replace hb10 := hb10.ext hx_w4
    have ha := ha.add ((hv 0 (by decide)).trans (show vs_ 0 = .slice (some ⟨b10, 0, none⟩) 4 4 from hvs 0 (by decide)))
    have ha := ha.add ((hv 3 (by decide)).trans (show vs_ 3 = .int .i64 (4 - 1 - (k : Int)) from hvs 3 (by decide)))
    have ha := ha.add ((hv 8 (by decide)).trans (show vs_ 8 = .int .u8 ((u8of (n / 256 ^ k)).toNat) from hvs 8 (by decide)))
    refine st_go ha ?_
    clear ha hv hvs
    refine st_ev (v := .pointer (some ⟨b10, 4 - 1 - k, none⟩)) rfl (e_idxBlk1 Try.underlying70 Try.sizeOf5 rfl rfl (4 - 1 - k) (by omega) (by omega)) ?_
    refine st_blkV [.int .u8 ((u8of (n / 256 ^ k)).toNat : Int)] (wrb 4 n (k + 1)) rfl rfl rfl hb10 rfl Try.sizeOf5 (by rw [wrb_length n hk]; first | (simp; done) | (simp; omega)) rfl (wrb_succ n (by omega)) ?_
    intro wS hbS hmS hsS
    replace hb10 := hbS
    have xw_wS : Ext w wS := below_mut xw_w4 (Below.size xw_w4) hmS ge_b10
    replace hbD := hbD.mut hmS (Ne.symm ne_b10_bD)
    refine st_nil (nrm_k ?_)
    refine sc_reg ?_
    refine Go.XK.s (v := .int .i64 ((k : Int) + 1)) (e_add rfl rfl (by omega)) ?_
    refine Go.XK.s (v := .int .i64 ((k : Int) + 1)) (e_move rfl) ?_
    refine sl_nil ?_
    exact nrm_loopq rfl _ _ (by omega) ⟨k + 1, rfl, rfl, xw_wS, hbD, hb10, (by omega)⟩ (.cons rfl (.cons rfl (.cons rfl (.cons rfl (.cons rfl (.cons rfl (.nil)))))))
  ·
    have hbE := hb10
    rw [show k = 4 from by omega] at hbE
    refine sc_exit rfl (nrm_k ?_)
    refine sc_seq ?_
    refine sc_reg ?_
    refine Go.XK.s (v := .slice (some ⟨b10, 0, none⟩) 4 4) (e_move rfl) ?_
    refine Go.XK.s (v := .string (B ((le 4 n).reverse))) (e_convr rfl (conv_blk (s := (le 4 n).reverse) Try.underlying70 Try.underlying5 Try.underlying9 (by rw [← wrb_full]; exact hbE) (le_rev_length 4 n))) ?_
    refine Go.XK.s (v := .string (B ((le 4 n).reverse))) (e_assign rfl) ?_
    refine sl_nil (nrm_k ?_)
    refine sc_retf rfl (ret1 Try.results71 (rvt rfl) ?_)
    exact ⟨rfl, xw_w2⟩

/-- masterdisc/endian.Both (function 58) -/
theorem both_c (n : Int) (w : World) : CallR Try.prog 58 [.int .i64 n, .int .i64 4] w (fun v w' => v = .tuple #[.string (B (bothV n)), .int .i64 (if fits n 4 then 0 else 2)] ∧ Ext w w') := by
  refine callR_of (n := 24) [(0, .int .i64 n), (1, .int .i64 4)] Try.func58 rfl rfl (Nat.le_of_ble_eq_true rfl) rfl ?_
  refine sc_seq ?_
  refine sc_reg ?_
  refine Go.XK.s (v := .string (B [])) (e_assign rfl) ?_
  refine Go.XK.s (v := .int .i64 0) (e_assign rfl) ?_
  refine sl_nil (nrm_k ?_)
  refine sc_seq ?_
  refine sc_seq ?_
  refine sc_reg ?_
  refine Go.XK.s (v := .int .i64 4) (e_move rfl) ?_
  refine sl_call ent69 rfl rfl (double4_c w) (by decide) ?_
  rintro _ w1 ⟨rfl, hw1⟩
  have xw_w1 : Ext w w1 := Ext.tr (Ext.rfl' w) hw1
  refine Go.XK.s (v := .bool false) (e_not (b := true) rfl) ?_
  refine sl_nil (nrm_k ?_)
  refine sc_no rfl rfl ?_
  refine sc_skip (nrm_k ?_)
  refine sc_seq ?_
  refine sc_seq ?_
  refine sc_reg ?_
  refine Go.XK.s (v := .int .i64 n) (e_move rfl) ?_
  refine Go.XK.s (v := .int .i64 4) (e_move rfl) ?_
  refine sl_call ent70 rfl rfl (fits_c _ 4 w1 (by decide)) (by decide) ?_
  rintro _ w2 ⟨rfl, hw2⟩
  have xw_w2 : Ext w w2 := Ext.tr xw_w1 hw2
  refine Go.XK.s (v := .bool (!(fits n 4))) (e_not rfl) ?_
  refine sl_nil (nrm_k ?_)
  refine sc_if rfl (fun c12 => ?_) (fun c12 => ?_)
  ·
    have hf : fits n 4 = false := by simpa using c12
    refine sc_seq ?_
    refine sc_reg ?_
    refine Go.XK.s (v := .string (B [])) (e_assign rfl) ?_
    refine Go.XK.s (v := .int .i64 2) (e_assign rfl) ?_
    refine sl_nil (nrm_k ?_)
    refine sc_retf rfl (ret2 Try.results58 (rvt rfl) (rvt rfl) ?_)
    exact ⟨by rw [bothV_no hf, hf]; rfl, xw_w2⟩
  ·
    have hf : fits n 4 = true := by simpa using c12
    have h0 : 0 ≤ n := by have h_ := (fits4 n).symm.trans hf; simp at h_; omega
    refine sc_skip (nrm_k ?_)
    refine sc_seq ?_
    refine sc_reg ?_
    refine Go.XK.s (v := .int .i64 n) (e_move rfl) ?_
    refine Go.XK.s (v := .int .i64 4) (e_move rfl) ?_
    refine Go.XK.s (v := .int .i64 4) (e_move rfl) ?_
    refine sl_call ent72 rfl rfl (up_c _ w2) (by decide) ?_
    rintro _ w3 ⟨rfl, hw3⟩
    have xw_w3 : Ext w w3 := Ext.tr xw_w2 hw3
    refine sl_call ent71 rfl rfl (wup_c _ 4 w3 (by omega) (by decide)) (by decide) ?_
    rintro _ w4 ⟨rfl, hw4⟩
    have xw_w4 : Ext w w4 := Ext.tr xw_w3 hw4
    refine Go.XK.s (v := .int .i64 n) (e_move rfl) ?_
    refine Go.XK.s (v := .int .i64 4) (e_move rfl) ?_
    refine Go.XK.s (v := .int .i64 4) (e_move rfl) ?_
    refine sl_call ent73 rfl rfl (down_c 4 w4) (by decide) ?_
    rintro _ w5 ⟨bD, rfl, hbD, hgD, hw5⟩
    have ge_bD : w.heap.size ≤ bD := by have h_ := Below.size xw_w4; omega
    have xw_w5 : Ext w w5 := Ext.tr xw_w4 hw5
    refine sl_call ent71 rfl rfl (wdown_c _ _ w5 (by omega) hbD) (by decide) ?_
    rintro _ w6 ⟨rfl, hw6⟩
    have xw_w6 : Ext w w6 := Ext.tr xw_w5 hw6
    replace hbD := hbD.ext hw6
    refine Go.XK.s (v := .string (B ((le 4 n) ++ ((le 4 n).reverse)))) (e_sadd rfl rfl (by simp [le_length])) ?_
    refine Go.XK.s (v := .string (B ((le 4 n) ++ ((le 4 n).reverse)))) (e_assign rfl) ?_
    refine Go.XK.s (v := .int .i64 0) (e_assign rfl) ?_
    refine sl_nil (nrm_k ?_)
    refine sc_retf rfl (ret2 Try.results58 (rvt rfl) (rvt rfl) ?_)
    exact ⟨by rw [bothV_of hf, hf]; rfl, xw_w6⟩

/-- masterdisc/masterdiscref01.fits (function 83) -/
theorem rfits_c (n : Int) (z : Nat) (w : World) (h0 : n ≤ 9223372036854775807) (hz : z ≤ 7) : CallR Try.prog 83 [.int .i64 n, .int .i64 (z : Int)] w (fun v w' => v = .bool (fits n z) ∧ Ext w w') := by
  refine callR_of (n := 17) [(0, .int .i64 n), (1, .int .i64 (z : Int))] Try.func83 rfl rfl (Nat.le_of_ble_eq_true rfl) rfl ?_
  refine sc_seq ?_
  refine sc_reg ?_
  refine Go.XK.s (v := .bool false) (e_assign rfl) ?_
  refine sl_nil (nrm_k ?_)
  refine sc_seq ?_
  refine sc_seq ?_
  refine sc_reg ?_
  refine Go.XK.s (v := .int .i64 n) (e_move rfl) ?_
  refine Go.XK.s (v := .bool (decide (n < 0))) (e_lt rfl rfl) ?_
  refine sl_nil (nrm_k ?_)
  refine sc_ifd rfl (fun c7 => ?_) (fun c7 => ?_)
  ·
    refine sc_seq ?_
    refine sc_reg ?_
    refine Go.XK.s (v := .bool false) (e_assign rfl) ?_
    refine sl_nil (nrm_k ?_)
    refine sc_retf rfl (ret1 Try.results83 (rvt rfl) ?_)
    exact ⟨congrArg Value.bool (by simp [fits]; omega), (Ext.rfl' w)⟩
  ·
    refine sc_skip (nrm_k ?_)
    refine sc_seq ?_
    refine sc_seq ?_
    refine sc_reg ?_
    refine Go.XK.s (v := .int .i64 0) (e_assign rfl) ?_
    refine sl_nil (nrm_k ?_)
    refine sc_block ?_
    refine sc_loop (fun m_ l_ w_ => ∃ (k : Nat) (m : Int), m_ = z - k ∧ l_ = [(0, .int .i64 m), (5, .int .i64 (k : Int)), (1, .int .i64 (z : Int))] ∧ Ext w w_ ∧ k ≤ z ∧ m = n / 256 ^ k) _ [(0, .int .i64 n), (5, .int .i64 (0 : Int)), (1, .int .i64 (z : Int))] ⟨0, n, rfl, rfl, (Ext.rfl' w), ⟨Nat.zero_le _, by simp⟩⟩ (.cons rfl (.cons rfl (.cons rfl (.nil)))) ?_
    rintro j2 _ w1 ⟨k, m, rfl, rfl, xw_w1, ⟨hk, hm⟩⟩
    have hm0 : 0 ≤ m ∧ m ≤ n := by
      rw [hm]; exact ⟨Int.ediv_nonneg (by omega) (Int.le_of_lt (Int.pow_pos (by decide))), Int.ediv_le_self _ (by omega)⟩
    refine sc_seq ?_
    refine sc_seq ?_
    refine sc_reg ?_
    refine Go.XK.s (v := .int .i64 (k : Int)) (e_move rfl) ?_
    refine Go.XK.s (v := .int .i64 (z : Int)) (e_move rfl) ?_
    refine Go.XK.s (v := .bool (decide ((k : Int) < (z : Int)))) (e_lt rfl rfl) ?_
    refine sl_nil (nrm_k ?_)
    refine sc_ifd rfl (fun c10 => ?_) (fun c10 => ?_)
    ·
      refine sc_skip (nrm_k ?_)
      refine sc_seq ?_
      refine sc_block ?_
      refine sc_reg ?_
      refine Go.XK.s (v := .int .i64 m) (e_move rfl) ?_
      refine Go.XK.s (v := .int .i64 (m / 256)) (e_quo rfl rfl (by omega) (by omega) (by omega)) ?_
      refine Go.XK.s (v := .int .i64 (m / 256)) (e_assign rfl) ?_
      refine sl_nil (nrm_k ?_)
      refine sc_reg ?_
      refine Go.XK.s (v := .int .i64 (k : Int)) (e_move rfl) ?_
      refine Go.XK.s (v := .int .i64 ((k : Int) + 1)) (e_add rfl rfl (by omega)) ?_
      refine Go.XK.s (v := .int .i64 ((k : Int) + 1)) (e_assign rfl) ?_
      refine sl_nil ?_
      exact nrm_loopq rfl _ _ (by omega) ⟨k + 1, m / 256, rfl, rfl, xw_w1, ⟨by omega, by rw [hm, div_pow_succ]⟩⟩ (.cons rfl (.cons rfl (.cons rfl (.nil))))
    ·
      refine sc_exit rfl (nrm_k ?_)
      refine sc_seq ?_
      refine sc_reg ?_
      refine Go.XK.s (v := .int .i64 m) (e_move rfl) ?_
      refine Go.XK.s (v := .bool (decide (m = 0))) (e_eq rfl rfl) ?_
      refine Go.XK.s (v := .bool (decide (m = 0))) (e_assign rfl) ?_
      refine sl_nil (nrm_k ?_)
      refine sc_retf rfl (ret1 Try.results83 (rvt rfl) ?_)
      exact ⟨congrArg Value.bool (rfits_end (by omega) (by omega) (by rw [hm, show k = z from by omega])), xw_w1⟩

/-- masterdisc/masterdiscref01.Bytes (function 84) -/
theorem rbytes_c (n : Int) (z : Nat) (w : World) (h0 : 0 ≤ n) (h1 : n ≤ 9223372036854775807) (hz : z ≤ 7) : CallR Try.prog 84 [.int .i64 n, .int .i64 (z : Int)] w (fun v w' => v = .string (B (le z n)) ∧ Ext w w') := by
  refine callR_of (n := 23) [(0, .int .i64 n), (1, .int .i64 (z : Int))] Try.func84 rfl rfl (Nat.le_of_ble_eq_true rfl) rfl ?_
  refine sc_seq ?_
  refine sc_reg ?_
  refine Go.XK.s (v := .string (B [])) (e_assign rfl) ?_
  refine sl_nil (nrm_k ?_)
  refine sc_seq ?_
  refine sc_reg ?_
  refine s_bslice (vs := []) (e := 5) rfl [] (by kernel_rfl) ?_
  intro b7 w1 hb7 he7 hs7 hx7
  have ge_b7 : w.heap.size ≤ b7 := by have h_ := (Below.size (Ext.rfl' w)); omega
  have xw_w1 : Ext w w1 := Ext.tr (Ext.rfl' w) hx7
  have ho7 : Go.XK.Own w1 w.heap.size 5 1 encB8 (.slice (some ⟨b7, 0, none⟩) 0 0) [] := Go.XK.Own.ofBlk (xs := []) hb7 ge_b7 (fun _ => rfl) (by simp)
  refine Go.XK.s (v := .slice (some ⟨b7, 0, none⟩) 0 0) (e_assign rfl) ?_
  refine sl_nil (nrm_k ?_)
  refine sc_seq ?_
  refine sc_seq ?_
  refine sc_reg ?_
  refine Go.XK.s (v := .int .i64 0) (e_assign rfl) ?_
  refine sl_nil (nrm_k ?_)
  refine sc_block ?_
  refine sc_loop (fun m_ l_ w_ => ∃ (k : Nat) (m : Int) (v : Value), m_ = z - k ∧ l_ = [(0, .int .i64 m), (6, .int .i64 (k : Int)), (5, v), (1, .int .i64 (z : Int))] ∧ Ext w w_ ∧ Go.XK.Own w_ w.heap.size 5 1 encB8 v (le k n) ∧ k ≤ z ∧ m = n / 256 ^ k) _ [(0, .int .i64 n), (6, .int .i64 (0 : Int)), (5, (.slice (some ⟨b7, 0, none⟩) 0 0)), (1, .int .i64 (z : Int))] ⟨0, n, .slice (some ⟨b7, 0, none⟩) 0 0, rfl, rfl, xw_w1, ho7, ⟨Nat.zero_le _, by simp⟩⟩ (.cons rfl (.cons rfl (.cons rfl (.cons rfl (.nil))))) ?_
  rintro j3 _ w2 ⟨k, m, v, rfl, rfl, xw_w2, ho, ⟨hk, hm⟩⟩
  have hm0 : 0 ≤ m ∧ m ≤ n := by
    rw [hm]; exact ⟨Int.ediv_nonneg (by omega) (Int.le_of_lt (Int.pow_pos (by decide))), Int.ediv_le_self _ (by omega)⟩
  refine sc_seq ?_
  refine sc_seq ?_
  refine sc_reg ?_
  refine Go.XK.s (v := .int .i64 (k : Int)) (e_move rfl) ?_
  refine Go.XK.s (v := .int .i64 (z : Int)) (e_move rfl) ?_
  refine Go.XK.s (v := .bool (decide ((k : Int) < (z : Int)))) (e_lt rfl rfl) ?_
  refine sl_nil (nrm_k ?_)
  refine sc_ifd rfl (fun c10 => ?_) (fun c10 => ?_)
  ·
    refine sc_skip (nrm_k ?_)
    refine sc_seq ?_
    refine sc_block ?_
    refine sc_seq ?_
    refine sc_reg ?_
    refine Go.XK.s (v := v) (e_move rfl) ?_
    refine Go.XK.s (v := .int .i64 m) (e_move rfl) ?_
    refine Go.XK.s (v := .int .i64 (m % 256)) (e_rem rfl rfl (by omega) (by omega)) ?_
    refine Go.XK.s (v := .int .u8 ((u8of (m % 256)).toNat)) (e_intu8 Try.underlying3 Try.underlying5 rfl) ?_
    refine s_bslice (vs := [(0, .int .u8 ((u8of (m % 256)).toNat))]) (e := 5) rfl [.int .u8 ((u8of (m % 256)).toNat)] (by kernel_rfl) ?_
    intro b17 w4 hb17 he17 hs17 hx17
    have no_b17_ho : Value.ownBlock v ≠ some b17 := fun h_ => by have h2_ := (Go.XK.Own.lt ho _ h_).2; omega
    have ge_b17 : w.heap.size ≤ b17 := by have h_ := (Below.size xw_w2); omega
    have xw_w4 : Ext w w4 := Ext.tr xw_w2 hx17
    replace ho := ho.ext hx17
    refine s_appendLit2 (w0 := w) (z := .int .u8 0) (kk := 1) (bytes := 1) rfl rfl Try.underlying70 (by kernel_rfl) rfl (by decide) (fun _ => rfl) one_encB8 [u8of (m % 256)] ho xw_w4 hb17 rfl rfl (by simp [le_length, maxLen]; omega) (by simp [le_length, maxLen]; omega) ?_
    intro v18 w5 ho18 xw_w5 hg18 hat18
    replace hb17 := hb17.grown hg18 no_b17_ho
    refine Go.XK.s (v := v18) (e_assign rfl) ?_
    refine sl_nil (nrm_k ?_)
    refine sc_reg ?_
    refine Go.XK.s (v := .int .i64 m) (e_move rfl) ?_
    refine Go.XK.s (v := .int .i64 (m / 256)) (e_quo rfl rfl (by omega) (by omega) (by omega)) ?_
    refine Go.XK.s (v := .int .i64 (m / 256)) (e_assign rfl) ?_
    refine sl_nil (nrm_k ?_)
    refine sc_reg ?_
    refine Go.XK.s (v := .int .i64 (k : Int)) (e_move rfl) ?_
    refine Go.XK.s (v := .int .i64 ((k : Int) + 1)) (e_add rfl rfl (by omega)) ?_
    refine Go.XK.s (v := .int .i64 ((k : Int) + 1)) (e_assign rfl) ?_
    refine sl_nil ?_
    exact nrm_loopq rfl _ _ (by omega) ⟨k + 1, m / 256, v18, rfl, rfl, xw_w5, (by have h_ := ho18; rw [hm] at h_; rw [u8of_emod, ← le_succ] at h_; exact h_), ⟨by omega, by rw [hm, div_pow_succ]⟩⟩ (.cons rfl (.cons rfl (.cons rfl (.cons rfl (.nil)))))
  ·
    refine sc_exit rfl (nrm_k ?_)
    refine sc_seq ?_
    refine sc_reg ?_
    refine Go.XK.s (v := v) (e_move rfl) ?_
    refine Go.XK.s (v := .string (B (le k n))) (e_convOwn rfl ho Try.underlying70 Try.underlying5 Try.underlying9) ?_
    refine Go.XK.s (v := .string (B (le k n))) (e_assign rfl) ?_
    refine sl_nil (nrm_k ?_)
    refine sc_retf rfl (ret1 Try.results84 (rvt rfl) ?_)
    exact ⟨by rw [show k = z from by omega], xw_w2⟩

/-- masterdisc/masterdiscref01.Little (function 80) -/
theorem rlittle_c (n : Int) (w : World) (hm : n ≤ 9223372036854775807) : CallR Try.prog 80 [.int .i64 n, .int .i64 4] w (fun v w' => v = .tuple #[.string (B (if fits n 4 then le 4 n else [])), .int .i64 (if fits n 4 then 0 else 2)] ∧ Ext w w') := by
  refine callR_of (n := 19) [(0, .int .i64 n), (1, .int .i64 4)] Try.func80 rfl rfl (Nat.le_of_ble_eq_true rfl) rfl ?_
  refine sc_seq ?_
  refine sc_reg ?_
  refine Go.XK.s (v := .string (B [])) (e_assign rfl) ?_
  refine Go.XK.s (v := .int .i64 0) (e_assign rfl) ?_
  refine sl_nil (nrm_k ?_)
  refine sc_seq ?_
  refine sc_seq ?_
  refine sc_reg ?_
  refine Go.XK.s (v := .int .i64 4) (e_move rfl) ?_
  refine Go.XK.s (v := .bool (decide ((4 : Int) < 1))) (e_lt rfl rfl) ?_
  refine Go.XK.s (v := .bool (decide ((4 : Int) < 1))) (e_move rfl) ?_
  refine sl_gev (v := .int .i64 4) rfl rfl (by decide) (e_move rfl) rfl (by decide) ?_
  refine sl_gev (v := .bool (decide ((8 : Int) < 4))) rfl rfl (by decide) (e_gt rfl rfl) rfl (by decide) ?_
  refine Go.XK.s (v := .bool (decide ((8 : Int) < 4))) (e_pickF rfl (by decide) rfl) ?_
  refine sl_nil (nrm_k ?_)
  refine sc_no rfl (by decide) ?_
  refine sc_skip (nrm_k ?_)
  refine sc_seq ?_
  refine sc_seq ?_
  refine sc_reg ?_
  refine Go.XK.s (v := .int .i64 n) (e_move rfl) ?_
  refine Go.XK.s (v := .int .i64 4) (e_move rfl) ?_
  refine sl_call ent83 rfl rfl (rfits_c _ 4 w (by omega) (by omega)) (by decide) ?_
  rintro _ w1 ⟨rfl, hw1⟩
  have xw_w1 : Ext w w1 := Ext.tr (Ext.rfl' w) hw1
  refine Go.XK.s (v := .bool (!(fits n 4))) (e_not rfl) ?_
  refine sl_nil (nrm_k ?_)
  refine sc_if rfl (fun c15 => ?_) (fun c15 => ?_)
  ·
    have hf : fits n 4 = false := by simpa using c15
    refine sc_seq ?_
    refine sc_reg ?_
    refine Go.XK.s (v := .string (B [])) (e_assign rfl) ?_
    refine Go.XK.s (v := .int .i64 2) (e_assign rfl) ?_
    refine sl_nil (nrm_k ?_)
    refine sc_retf rfl (ret2 Try.results80 (rvt rfl) (rvt rfl) ?_)
    exact ⟨by simp [hf], xw_w1⟩
  ·
    have hf : fits n 4 = true := by simpa using c15
    have h0 : 0 ≤ n := (of_decide_eq_true hf).1
    refine sc_skip (nrm_k ?_)
    refine sc_seq ?_
    refine sc_reg ?_
    refine Go.XK.s (v := .int .i64 n) (e_move rfl) ?_
    refine Go.XK.s (v := .int .i64 4) (e_move rfl) ?_
    refine sl_call ent84 rfl rfl (rbytes_c _ 4 w1 (by omega) (by omega) (by omega)) (by decide) ?_
    rintro _ w2 ⟨rfl, hw2⟩
    have xw_w2 : Ext w w2 := Ext.tr xw_w1 hw2
    refine Go.XK.s (v := .string (B (le 4 n))) (e_assign rfl) ?_
    refine Go.XK.s (v := .int .i64 0) (e_assign rfl) ?_
    refine sl_nil (nrm_k ?_)
    refine sc_retf rfl (ret2 Try.results80 (rvt rfl) (rvt rfl) ?_)
    exact ⟨by simp [hf], xw_w2⟩

/-- masterdisc/masterdiscref01.Reverse (function 81) -/
theorem rrev_c (s : List UInt8) (w : World) (hs : s.length ≤ 1000) : CallR Try.prog 81 [.string (B s)] w (fun v w' => v = .string (B s.reverse) ∧ Ext w w') := by
  refine callR_of (n := 21) [(0, .string (B s))] Try.func81 rfl rfl (Nat.le_of_ble_eq_true rfl) rfl ?_
  refine sc_seq ?_
  refine sc_reg ?_
  refine Go.XK.s (v := .string (B [])) (e_assign rfl) ?_
  refine sl_nil (nrm_k ?_)
  refine sc_seq ?_
  refine sc_reg ?_
  refine s_bslice (vs := []) (e := 5) rfl [] (by kernel_rfl) ?_
  intro b5 w1 hb5 he5 hs5 hx5
  have ge_b5 : w.heap.size ≤ b5 := by have h_ := (Below.size (Ext.rfl' w)); omega
  have xw_w1 : Ext w w1 := Ext.tr (Ext.rfl' w) hx5
  have ho5 : Go.XK.Own w1 w.heap.size 5 1 encB8 (.slice (some ⟨b5, 0, none⟩) 0 0) [] := Go.XK.Own.ofBlk (xs := []) hb5 ge_b5 (fun _ => rfl) (by simp)
  refine Go.XK.s (v := .slice (some ⟨b5, 0, none⟩) 0 0) (e_assign rfl) ?_
  refine sl_nil (nrm_k ?_)
  refine sc_seq ?_
  refine sc_seq ?_
  refine sc_reg ?_
  refine Go.XK.s (v := .string (B s)) (e_move rfl) ?_
  refine Go.XK.s (v := .int .i64 (s.length : Int)) (e_slen Try.underlying9 rfl) ?_
  refine Go.XK.s (v := .int .i64 ((s.length : Int) - 1)) (e_sub rfl rfl (by omega)) ?_
  refine Go.XK.s (v := .int .i64 ((s.length : Int) - 1)) (e_assign rfl) ?_
  refine sl_nil (nrm_k ?_)
  refine sc_block ?_
  refine sc_loop (fun m_ l_ w_ => ∃ (i : Int) (v : Value), m_ = (i + 1).toNat ∧ l_ = [(4, .int .i64 i), (3, v), (0, .string (B s))] ∧ Ext w w_ ∧ Go.XK.Own w_ w.heap.size 5 1 encB8 v ((s.drop (i + 1).toNat).reverse) ∧ -1 ≤ i ∧ i < s.length) _ [(4, .int .i64 ((s.length : Int) - 1)), (3, (.slice (some ⟨b5, 0, none⟩) 0 0)), (0, .string (B s))] ⟨(s.length : Int) - 1, .slice (some ⟨b5, 0, none⟩) 0 0, rfl, rfl, xw_w1, (by rw [List.drop_eq_nil_of_le (by omega)]; exact ho5), ⟨by omega, by omega⟩⟩ (.cons rfl (.cons rfl (.cons rfl (.nil)))) ?_
  rintro j3 _ w2 ⟨i, v, rfl, rfl, xw_w2, ho, ⟨hk, hk2⟩⟩
  refine sc_seq ?_
  refine sc_seq ?_
  refine sc_reg ?_
  refine Go.XK.s (v := .int .i64 i) (e_move rfl) ?_
  refine Go.XK.s (v := .bool (decide ((0 : Int) ≤ i))) (e_ge rfl rfl) ?_
  refine sl_nil (nrm_k ?_)
  refine sc_ifd rfl (fun c10 => ?_) (fun c10 => ?_)
  ·
    refine sc_skip (nrm_k ?_)
    refine sc_seq ?_
    refine sc_block ?_
    refine sc_reg ?_
    refine Go.XK.s (v := v) (e_move rfl) ?_
    refine Go.XK.s (v := .string (B s)) (e_move rfl) ?_
    refine Go.XK.s (v := .int .i64 i) (e_move rfl) ?_
    refine Go.XK.s (v := .int .u8 ((at_ s i).toNat)) (e_sat Try.underlying9 rfl rfl (by omega) (by omega)) ?_
    refine s_bslice (vs := [(0, .int .u8 ((at_ s i).toNat))]) (e := 5) rfl [.int .u8 ((at_ s i).toNat)] (by kernel_rfl) ?_
    intro b17 w4 hb17 he17 hs17 hx17
    have no_b17_ho : Value.ownBlock v ≠ some b17 := fun h_ => by have h2_ := (Go.XK.Own.lt ho _ h_).2; omega
    have ge_b17 : w.heap.size ≤ b17 := by have h_ := (Below.size xw_w2); omega
    have xw_w4 : Ext w w4 := Ext.tr xw_w2 hx17
    replace ho := ho.ext hx17
    refine s_appendLit2 (w0 := w) (z := .int .u8 0) (kk := 1) (bytes := 1) rfl rfl Try.underlying70 (by kernel_rfl) rfl (by decide) (fun _ => rfl) one_encB8 [at_ s i] ho xw_w4 hb17 rfl rfl (by first | (simp only [maxLen]; simp; omega) | (simp; omega)) (by first | (simp only [maxLen]; simp; omega) | (simp; omega)) ?_
    intro v18 w5 ho18 xw_w5 hg18 hat18
    replace hb17 := hb17.grown hg18 no_b17_ho
    refine Go.XK.s (v := v18) (e_assign rfl) ?_
    refine sl_nil (nrm_k ?_)
    refine sc_reg ?_
    refine Go.XK.s (v := .int .i64 i) (e_move rfl) ?_
    refine Go.XK.s (v := .int .i64 (i - 1)) (e_sub rfl rfl (by omega)) ?_
    refine Go.XK.s (v := .int .i64 (i - 1)) (e_assign rfl) ?_
    refine sl_nil ?_
    exact nrm_loopq rfl _ _ (by omega) ⟨i - 1, v18, rfl, rfl, xw_w5, (by have h_ := ho18; rw [← rev_next (by omega) hk2] at h_; rw [show (i - 1 + 1).toNat = i.toNat by omega]; exact h_), ⟨by omega, by omega⟩⟩ (.cons rfl (.cons rfl (.cons rfl (.nil))))
  ·
    refine sc_exit rfl (nrm_k ?_)
    refine sc_seq ?_
    refine sc_reg ?_
    refine Go.XK.s (v := v) (e_move rfl) ?_
    refine Go.XK.s (v := .string (B ((s.drop (i + 1).toNat).reverse))) (e_convOwn rfl ho Try.underlying70 Try.underlying5 Try.underlying9) ?_
    refine Go.XK.s (v := .string (B ((s.drop (i + 1).toNat).reverse))) (e_assign rfl) ?_
    refine sl_nil (nrm_k ?_)
    refine sc_retf rfl (ret1 Try.results81 (rvt rfl) ?_)
    exact ⟨by rw [show (i + 1).toNat = 0 by omega, List.drop_zero], xw_w2⟩

/-- masterdisc/masterdiscref01.Both (function 74) -/
theorem rboth_c (n : Int) (w : World) (hm : n ≤ 9223372036854775807) : CallR Try.prog 74 [.int .i64 n, .int .i64 4] w (fun v w' => v = .tuple #[.string (B (bothV n)), .int .i64 (if fits n 4 then 0 else 2)] ∧ Ext w w') := by
  refine callR_of (n := 29) [(0, .int .i64 n), (1, .int .i64 4)] Try.func74 rfl rfl (Nat.le_of_ble_eq_true rfl) rfl ?_
  refine sc_seq ?_
  refine sc_reg ?_
  refine Go.XK.s (v := .string (B [])) (e_assign rfl) ?_
  refine Go.XK.s (v := .int .i64 0) (e_assign rfl) ?_
  refine sl_nil (nrm_k ?_)
  refine sc_seq ?_
  refine sc_seq ?_
  refine sc_reg ?_
  refine Go.XK.s (v := .int .i64 4) (e_move rfl) ?_
  refine Go.XK.s (v := .bool (decide ((4 : Int) ≠ 1))) (e_ne rfl rfl) ?_
  refine Go.XK.s (v := .bool (decide ((4 : Int) ≠ 1))) (e_move rfl) ?_
  refine sl_gev (v := .int .i64 4) rfl rfl (by decide) (e_move rfl) rfl (by decide) ?_
  refine sl_gev (v := .bool (decide ((4 : Int) ≠ 2))) rfl rfl (by decide) (e_ne rfl rfl) rfl (by decide) ?_
  refine Go.XK.s (v := .bool (decide ((4 : Int) ≠ 2))) (e_pickT rfl (by decide) rfl) ?_
  refine Go.XK.s (v := .bool (decide ((4 : Int) ≠ 2))) (e_move rfl) ?_
  refine sl_gev (v := .int .i64 4) rfl rfl (by decide) (e_move rfl) rfl (by decide) ?_
  refine sl_gev (v := .bool (decide ((4 : Int) ≠ 4))) rfl rfl (by decide) (e_ne rfl rfl) rfl (by decide) ?_
  refine Go.XK.s (v := .bool (decide ((4 : Int) ≠ 4))) (e_pickT rfl (by decide) rfl) ?_
  refine sl_nil (nrm_k ?_)
  refine sc_no rfl (by decide) ?_
  refine sc_skip (nrm_k ?_)
  refine sc_seq ?_
  refine sc_reg ?_
  refine Go.XK.s (v := .int .i64 n) (e_move rfl) ?_
  refine Go.XK.s (v := .int .i64 4) (e_move rfl) ?_
  refine sl_call ent80 rfl rfl (rlittle_c _ w (by omega)) (by decide) ?_
  rintro _ w1 ⟨rfl, hw1⟩
  have xw_w1 : Ext w w1 := Ext.tr (Ext.rfl' w) hw1
  refine Go.XK.s (v := .tuple #[.string (B (if fits n 4 then le 4 n else [])), .int .i64 (if fits n 4 then (0 : Int) else 2)]) (e_move rfl) ?_
  refine Go.XK.s (v := .string (B (if fits n 4 then le 4 n else []))) (e_extract (vs := [.string (B (if fits n 4 then le 4 n else [])), .int .i64 (if fits n 4 then (0 : Int) else 2)]) rfl rfl) ?_
  refine Go.XK.s (v := .int .i64 (if fits n 4 then (0 : Int) else 2)) (e_extract (vs := [.string (B (if fits n 4 then le 4 n else [])), .int .i64 (if fits n 4 then (0 : Int) else 2)]) rfl rfl) ?_
  refine Go.XK.s (v := .string (B (if fits n 4 then le 4 n else []))) (e_assign rfl) ?_
  refine Go.XK.s (v := .int .i64 (if fits n 4 then (0 : Int) else 2)) (e_assign rfl) ?_
  refine sl_nil (nrm_k ?_)
  refine sc_seq ?_
  refine sc_reg ?_
  refine Go.XK.s (v := .string (B (if fits n 4 then le 4 n else []))) (e_move rfl) ?_
  refine Go.XK.s (v := .string (B (if fits n 4 then le 4 n else []))) (e_move rfl) ?_
  refine sl_call ent81 rfl rfl (rrev_c (if fits n 4 then le 4 n else []) w1 (by split <;> simp [le_length])) (by decide) ?_
  rintro _ w2 ⟨rfl, hw2⟩
  have xw_w2 : Ext w w2 := Ext.tr xw_w1 hw2
  refine Go.XK.s (v := .string (B ((if fits n 4 then le 4 n else []) ++ ((if fits n 4 then le 4 n else []).reverse)))) (e_sadd rfl rfl (by split <;> simp [le_length])) ?_
  refine Go.XK.s (v := .int .i64 (if fits n 4 then (0 : Int) else 2)) (e_move rfl) ?_
  refine Go.XK.s (v := .string (B ((if fits n 4 then le 4 n else []) ++ ((if fits n 4 then le 4 n else []).reverse)))) (e_assign rfl) ?_
  refine Go.XK.s (v := .int .i64 (if fits n 4 then (0 : Int) else 2)) (e_assign rfl) ?_
  refine sl_nil (nrm_k ?_)
  refine sc_retf rfl (ret2 Try.results74 (rvt rfl) (rvt rfl) ?_)
  exact ⟨by unfold bothV; split <;> simp [bothB], xw_w2⟩

/-- masterdisc/masterdiscref24.both (function 60) -/
theorem rbothb_c (n : Int) (w : World) (hm : n ≤ 9223372036854775807) : CallR Try.prog 60 [.int .i64 n] w (fun v w' => v = .string (B (bothV n)) ∧ Ext w w') := by
  refine callR_of (n := 11) [(0, .int .i64 n)] Try.func60 rfl rfl (Nat.le_of_ble_eq_true rfl) rfl ?_
  refine sc_seq ?_
  refine sc_reg ?_
  refine Go.XK.s (v := .string (B [])) (e_assign rfl) ?_
  refine sl_nil (nrm_k ?_)
  refine sc_seq ?_
  refine sc_reg ?_
  refine Go.XK.s (v := .int .i64 n) (e_move rfl) ?_
  refine sl_call ent74 rfl rfl (rboth_c n w (by omega)) (by decide) ?_
  rintro _ w1 ⟨rfl, hw1⟩
  have xw_w1 : Ext w w1 := Ext.tr (Ext.rfl' w) hw1
  refine Go.XK.s (v := .tuple #[.string (B (bothV n)), .int .i64 (if fits n 4 then (0 : Int) else 2)]) (e_move rfl) ?_
  refine Go.XK.s (v := .string (B (bothV n))) (e_extract (vs := [.string (B (bothV n)), .int .i64 (if fits n 4 then (0 : Int) else 2)]) rfl rfl) ?_
  refine Go.XK.s (v := .int .i64 (if fits n 4 then (0 : Int) else 2)) (e_extract (vs := [.string (B (bothV n)), .int .i64 (if fits n 4 then (0 : Int) else 2)]) rfl rfl) ?_
  refine Go.XK.s (v := .string (B (bothV n))) (e_assign rfl) ?_
  refine Go.XK.s (v := .int .i64 (if fits n 4 then (0 : Int) else 2)) (e_assign rfl) ?_
  refine sl_nil (nrm_k ?_)
  refine sc_seq ?_
  refine sc_reg ?_
  refine Go.XK.s (v := .string (B (bothV n))) (e_move rfl) ?_
  refine Go.XK.s (v := .string (B (bothV n))) (e_assign rfl) ?_
  refine sl_nil (nrm_k ?_)
  refine sc_retf rfl (ret1 Try.results60 (rvt rfl) ?_)
  exact ⟨rfl, xw_w1⟩

end Go.Proofs.Ytnbclhbpjlpcoaa
