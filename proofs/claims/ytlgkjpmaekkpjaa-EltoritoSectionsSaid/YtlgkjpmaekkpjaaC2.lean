/- Chapter 27: C2. Printed by my program wip/tools/wk.py. -/
import Derived.Test.YtlgkjpmaekkpjaaC1
set_option linter.unusedVariables false
set_option linter.unusedSimpArgs false
set_option maxRecDepth 4000
set_option maxHeartbeats 1000000
namespace Go.Proofs.Ytlgkjpmaekkpjaa
open Go.XK Go.RowKit
theorem rfits_end {n m : Int} {z : Nat} (h0 : 0 ≤ n) (hm0 : 0 ≤ m) (hm : m = n / 256 ^ z) : decide (m = 0) = fits n z := by
  have hp : (0 : Int) < 256 ^ z := Int.pow_pos (by decide)
  have : (m = 0) ↔ (0 ≤ n ∧ n < 256 ^ z) := by
    rw [hm]
    constructor
    · intro h; exact ⟨h0, by
        rcases Int.lt_or_le n (256 ^ z) with h1 | h1
        · exact h1
        · have := (Int.le_ediv_iff_mul_le hp (a := 1) (b := n)).2 (by omega); omega⟩
    · intro h; exact Int.ediv_eq_zero_of_lt h.1 h.2
  simp only [fits, this]
/-- masterdisc/endian.check (function 59) -/
theorem check_c (n : Int) (s : Nat) (w : World) (h1 : 1 ≤ s) (hs : s ≤ 7) : CallR Try.prog 59 [.int .i64 n, .int .i64 (s : Int)] w (fun v w' => v = .int .i64 (if fits n s then 0 else 2) ∧ Ext w w') := by
  refine callR_of (n := 17) [(0, .int .i64 n), (1, .int .i64 (s : Int))] Try.func59 rfl rfl (Nat.le_of_ble_eq_true rfl) rfl ?_
  refine sc_seq ?_
  refine sc_reg ?_
  refine Go.XK.s (v := .int .i64 0) (e_assign rfl) ?_
  refine sl_nil (nrm_k ?_)
  refine sc_seq ?_
  refine sc_block ?_
  refine sc_seq ?_
  refine sc_reg ?_
  refine Go.XK.s (v := .int .i64 (s : Int)) (e_move rfl) ?_
  refine Go.XK.s (v := .bool (decide ((s : Int) < 1))) (e_lt rfl rfl) ?_
  refine Go.XK.s (v := .bool (decide ((s : Int) < 1))) (e_move rfl) ?_
  refine sl_merge 3 11 (.bool ((decide ((s : Int) < 1)) || (decide ((8 : Int) < (s : Int))))) ?_ ?_
  · refine sl_case (t := 8) rfl (fun g1_2 => ?_) (fun g1_2 => ?_)
    ·
      refine sl_gskip rfl rfl g1_2 (by decide) ?_
      refine sl_gskip rfl rfl g1_2 (by decide) ?_
      refine Go.XK.s (v := .bool true) (e_pickT rfl g1_2 rfl) ?_
      exact sl_nil (fun a ha => ⟨rfl, ha.sub (.cons (by rw [g1_2]; rfl) (sub_self_cons (sub_self_cons (sub_self_cons (Sub.refl _) rfl) rfl) rfl))⟩)
    ·
      refine sl_gev (v := .int .i64 (s : Int)) rfl rfl g1_2 (e_move rfl) rfl (by decide) ?_
      refine sl_gev (v := .bool (decide ((8 : Int) < (s : Int)))) rfl rfl g1_2 (e_gt rfl rfl) rfl (by decide) ?_
      refine Go.XK.s (v := .bool (decide ((8 : Int) < (s : Int)))) (e_pickF rfl g1_2 rfl) ?_
      exact sl_nil (fun a ha => ⟨rfl, ha.sub (.cons (by rw [g1_2]; rfl) (sub_self_cons (sub_self_cons (sub_self_cons (Sub.refl _) rfl) rfl) rfl))⟩)
  refine Go.XK.s (v := .bool ((decide ((s : Int) < 1)) || (decide ((8 : Int) < (s : Int))))) (e_assign rfl) ?_
  refine sl_nil (nrm_k ?_)
  refine sc_no rfl (by simp; omega) ?_
  refine sc_seq ?_
  refine sc_reg ?_
  refine Go.XK.s (v := .int .i64 n) (e_move rfl) ?_
  refine Go.XK.s (v := .int .i64 (s : Int)) (e_move rfl) ?_
  refine sl_call ent67 rfl rfl (fits_c _ _ w (by omega)) (by decide) ?_
  rintro _ w1 ⟨rfl, hw1⟩
  have xw_w1 : Ext w w1 := Ext.tr (Ext.rfl' w) hw1
  refine Go.XK.s (v := .bool (!(fits n s))) (e_not rfl) ?_
  refine Go.XK.s (v := .bool (!(fits n s))) (e_assign rfl) ?_
  refine sl_nil (nrm_k ?_)
  refine sc_if rfl (fun c12 => ?_) (fun c12 => ?_)
  ·
    refine sc_seq ?_
    refine sc_reg ?_
    refine Go.XK.s (v := .int .i64 2) (e_assign rfl) ?_
    refine sl_nil (nrm_k ?_)
    refine sc_retf rfl (ret1 Try.results59 (rvt rfl) ?_)
    exact ⟨by simp at c12; simp [c12], xw_w1⟩
  ·
    refine sc_skip (nrm_k ?_)
    refine sc_seq ?_
    refine sc_reg ?_
    refine Go.XK.s (v := .int .i64 0) (e_assign rfl) ?_
    refine sl_nil (nrm_k ?_)
    refine sc_retf rfl (ret1 Try.results59 (rvt rfl) ?_)
    exact ⟨by simp at c12; simp [c12], xw_w1⟩

/-- masterdisc/endian.write (function 60) -/
theorem write_c (n : Int) (z : Nat) (w : World) (h0 : 0 ≤ n) (hz : z ≤ 7) : CallR Try.prog 60 [.int .i64 n, .int .i64 (z : Int), .func (.func 68) #[] #[]] w (fun v w' => v = .string (B (le z n)) ∧ Ext w w') := by
  refine callR_of (n := 28) [(0, .int .i64 n), (1, .int .i64 (z : Int)), (2, .func (.func 68) #[] #[])] Try.func60 rfl rfl (Nat.le_of_ble_eq_true rfl) rfl ?_
  refine sc_seq ?_
  refine sc_reg ?_
  refine Go.XK.s (v := .string (B [])) (e_assign rfl) ?_
  refine sl_nil (nrm_k ?_)
  refine sc_seq ?_
  refine sc_reg ?_
  refine Go.XK.s (v := .int .i64 (z : Int)) (e_move rfl) ?_
  refine s_make1 (m := z) (z := .int .u8 0) (bytes := 1) rfl rfl Try.underlying35 (by kernel_rfl) rfl (by omega) (by omega) ?_
  intro b10 w1 hb10 he10 hs10 hx10
  have ge_b10 : w.heap.size ≤ b10 := by have h_ := (Below.size (Ext.rfl' w)); omega
  have xw_w1 : Ext w w1 := Ext.tr (Ext.rfl' w) hx10
  refine Go.XK.s (v := .slice (some ⟨b10, 0, none⟩) z z) (e_assign rfl) ?_
  refine sl_nil (nrm_k ?_)
  refine sc_seq ?_
  refine sc_seq ?_
  refine sc_reg ?_
  refine Go.XK.s (v := .int .i64 (z : Int)) (e_move rfl) ?_
  refine Go.XK.s (v := .int .i64 0) (e_move rfl) ?_
  refine sl_nil (nrm_k ?_)
  refine sc_block ?_
  refine sc_loop (fun m_ l_ w_ => ∃ (k : Nat), m_ = z - k ∧ l_ = [(12, .int .i64 (k : Int)), (0, .int .i64 n), (1, .int .i64 (z : Int)), (2, .func (.func 68) #[] #[]), (7, .slice (some ⟨b10, 0, none⟩) z z), (11, .int .i64 (z : Int))] ∧ Ext w w_ ∧ Blk w_ b10 5 (wr z n k) ∧ k ≤ z) _ [(12, .int .i64 (0 : Int)), (0, .int .i64 n), (1, .int .i64 (z : Int)), (2, .func (.func 68) #[] #[]), (7, .slice (some ⟨b10, 0, none⟩) z z), (11, .int .i64 (z : Int))] ⟨0, rfl, rfl, xw_w1, (by rw [wr_zero] at hb10; exact hb10), Nat.zero_le _⟩ (.cons rfl (.cons rfl (.cons rfl (.cons rfl (.cons rfl (.cons rfl (.nil))))))) ?_
  rintro j3 _ w2 ⟨k, rfl, rfl, xw_w2, hb10, hk⟩
  refine sc_seq ?_
  refine sc_reg ?_
  refine Go.XK.s (v := .bool (decide ((k : Int) < (z : Int)))) (e_lt rfl rfl) ?_
  refine sl_nil (nrm_k ?_)
  refine sc_seq ?_
  refine sc_ifd rfl (fun c13 => ?_) (fun c13 => ?_)
  ·
    refine sc_skip (nrm_k ?_)
    refine sc_seq ?_
    refine sc_block ?_
    refine sc_seq ?_
    refine sc_reg ?_
    refine Go.XK.s (v := .int .i64 (k : Int)) (e_move rfl) ?_
    refine Go.XK.s (v := .int .i64 (k : Int)) (e_assign rfl) ?_
    refine sl_nil (nrm_k ?_)
    refine sc_free [(8, .int .i64 (k : Int)), (14, .int .i64 (k : Int)), (13, .bool (decide ((k : Int) < (z : Int)))), (12, .int .i64 (k : Int)), (0, .int .i64 n), (1, .int .i64 (z : Int)), (2, .func (.func 68) #[] #[]), (7, .slice (some ⟨b10, 0, none⟩) z z), (11, .int .i64 (z : Int))] [15, 16, 17, 18, 19, 20, 21, 22, 23] [(Is (.slice (some ⟨b10, 0, none⟩) z z)), (Is (.func (.func 68) #[] #[])), (Is (.int .i64 (k : Int))), (Is (.int .i64 (k : Int))), (Is (.int .i64 n)), (Is (.int .i64 (k : Int))), (Is (.int .i64 ((8 : Int) * (k : Int)))), (Is (.int .i64 (n / 256 ^ k))), (Is (.int .u8 ((u8of (n / 256 ^ k)).toNat)))] [9, 10] (by kernel_rfl) (Sub.refl _) (by kernel_rfl) (by kernel_rfl) (by kernel_rfl) rfl (by kernel_rfl) (ds_ext (Stays.spec (.is _ (.is _ (.is _ (.is _ (.is _ (.is _ (.is _ (.is _ (.is _ (.nil)))))))))))) ⟨?_, ?_, ?_, ?_, ?_, ?_, ?_, ?_, ?_, trivial⟩ ?_
    · intro Q act_ wI hxI ha hp
      have xw_wI : Ext w wI := Ext.tr xw_w2 hxI
      replace hb10 := hb10.ext hxI
      exact h_evA (v := .slice (some ⟨b10, 0, none⟩) z z) ha rfl (e_move rfl) rfl rfl (Ext.rfl' _)
    · intro Q act_ wI hxI ha hp
      have xw_wI : Ext w wI := Ext.tr xw_w2 hxI
      replace hb10 := hb10.ext hxI
      exact h_evA (v := .func (.func 68) #[] #[]) ha rfl (e_move rfl) rfl rfl (Ext.rfl' _)
    · intro Q act_ wI hxI ha hp
      have xw_wI : Ext w wI := Ext.tr xw_w2 hxI
      replace hb10 := hb10.ext hxI
      exact h_evA (v := .int .i64 (k : Int)) ha rfl (e_move rfl) rfl rfl (Ext.rfl' _)
    · intro Q act_ wI hxI ha hp
      have xw_wI : Ext w wI := Ext.tr xw_w2 hxI
      replace hb10 := hb10.ext hxI
      have ha := ha.add (show act_.tmps.getD 16 undef = .func (.func 68) #[] #[] from hp 1 (by kernel_rfl) (by decide))
      have ha := ha.add (show act_.tmps.getD 17 undef = .int .i64 (k : Int) from hp 2 (by kernel_rfl) (by decide))
      exact h_callA ha ent68 rfl rfl rfl (up1_c _ wI) rfl (by rintro _ w1 ⟨rfl, hR⟩; exact ⟨rfl, hR⟩)
    · intro Q act_ wI hxI ha hp
      have xw_wI : Ext w wI := Ext.tr xw_w2 hxI
      replace hb10 := hb10.ext hxI
      exact h_evA (v := .int .i64 n) ha rfl (e_move rfl) rfl rfl (Ext.rfl' _)
    · intro Q act_ wI hxI ha hp
      have xw_wI : Ext w wI := Ext.tr xw_w2 hxI
      replace hb10 := hb10.ext hxI
      exact h_evA (v := .int .i64 (k : Int)) ha rfl (e_move rfl) rfl rfl (Ext.rfl' _)
    · intro Q act_ wI hxI ha hp
      have xw_wI : Ext w wI := Ext.tr xw_w2 hxI
      replace hb10 := hb10.ext hxI
      have ha := ha.add (show act_.tmps.getD 20 undef = .int .i64 (k : Int) from hp 5 (by kernel_rfl) (by decide))
      exact h_evA (v := .int .i64 ((8 : Int) * (k : Int))) ha rfl (e_mul rfl rfl (by omega)) rfl rfl (Ext.rfl' _)
    · intro Q act_ wI hxI ha hp
      have xw_wI : Ext w wI := Ext.tr xw_w2 hxI
      replace hb10 := hb10.ext hxI
      have ha := ha.add (show act_.tmps.getD 19 undef = .int .i64 n from hp 4 (by kernel_rfl) (by decide))
      have ha := ha.add (show act_.tmps.getD 21 undef = .int .i64 ((8 : Int) * (k : Int)) from hp 6 (by kernel_rfl) (by decide))
      exact h_evA (v := .int .i64 (n / 256 ^ k)) ha rfl (e_shr8 k (by omega) rfl rfl) rfl rfl (Ext.rfl' _)
    · intro Q act_ wI hxI ha hp
      have xw_wI : Ext w wI := Ext.tr xw_w2 hxI
      replace hb10 := hb10.ext hxI
      have ha := ha.add (show act_.tmps.getD 22 undef = .int .i64 (n / 256 ^ k) from hp 7 (by kernel_rfl) (by decide))
      exact h_evA (v := .int .u8 ((u8of (n / 256 ^ k)).toNat)) ha rfl (e_intu8 Try.underlying3 Try.underlying5 rfl) rfl rfl (Ext.rfl' _)
    intro vs_ w4 hx_w4 hvs act_ ha hv
    have xw_w4 : Ext w w4 := Ext.tr xw_w2 hx_w4
    replace hb10 := hb10.ext hx_w4
    have ha := ha.add ((hv 0 (by decide)).trans (show vs_ 0 = .slice (some ⟨b10, 0, none⟩) z z from hvs 0 (by decide)))
    have ha := ha.add ((hv 3 (by decide)).trans (show vs_ 3 = .int .i64 (k : Int) from hvs 3 (by decide)))
    have ha := ha.add ((hv 8 (by decide)).trans (show vs_ 8 = .int .u8 ((u8of (n / 256 ^ k)).toNat) from hvs 8 (by decide)))
    refine st_go ha ?_
    clear ha hv hvs
    refine st_ev (v := .pointer (some ⟨b10, k, none⟩)) rfl (e_idxBlk1 Try.underlying35 Try.sizeOf5 rfl rfl k rfl (by omega)) ?_
    refine st_blkV [.int .u8 ((u8of (n / 256 ^ k)).toNat : Int)] (wr z n (k + 1)) rfl rfl rfl hb10 rfl Try.sizeOf5 (by rw [wr_length n hk]; simp; omega) rfl (wr_succ n (by omega)) ?_
    intro wS hbS hmS hsS
    replace hb10 := hbS
    have xw_wS : Ext w wS := below_mut xw_w4 (Below.size xw_w4) hmS ge_b10
    refine st_nil (nrm_k ?_)
    refine sc_reg ?_
    refine Go.XK.s (v := .int .i64 ((k : Int) + 1)) (e_add rfl rfl (by omega)) ?_
    refine Go.XK.s (v := .int .i64 ((k : Int) + 1)) (e_move rfl) ?_
    refine sl_nil ?_
    exact nrm_loopq rfl _ _ (by omega) ⟨k + 1, rfl, rfl, xw_wS, hb10, (by omega)⟩ (.cons rfl (.cons rfl (.cons rfl (.cons rfl (.cons rfl (.cons rfl (.nil)))))))
  ·
    have hbE := hb10
    rw [show k = z from by omega] at hbE
    refine sc_exit rfl (nrm_k ?_)
    refine sc_seq ?_
    refine sc_reg ?_
    refine Go.XK.s (v := .slice (some ⟨b10, 0, none⟩) z z) (e_move rfl) ?_
    refine Go.XK.s (v := .string (B (le z n))) (e_convr rfl (conv_blk (s := le z n) Try.underlying35 Try.underlying5 Try.underlying9 (by rw [← wr_full]; exact hbE) (le_length z n))) ?_
    refine Go.XK.s (v := .string (B (le z n))) (e_assign rfl) ?_
    refine sl_nil (nrm_k ?_)
    refine sc_retf rfl (ret1 Try.results60 (rvt rfl) ?_)
    exact ⟨rfl, xw_w2⟩

/-- masterdisc/endian.Little (function 47) -/
theorem little_c (n : Int) (z : Nat) (w : World) (h1 : 1 ≤ z) (hz : z ≤ 7) : CallR Try.prog 47 [.int .i64 n, .int .i64 (z : Int)] w (fun v w' => v = .tuple #[.string (B (num n z)), .int .i64 (if fits n z then 0 else 2)] ∧ Ext w w') := by
  refine callR_of (n := 18) [(0, .int .i64 n), (1, .int .i64 (z : Int))] Try.func47 rfl rfl (Nat.le_of_ble_eq_true rfl) rfl ?_
  refine sc_seq ?_
  refine sc_reg ?_
  refine Go.XK.s (v := .string (B [])) (e_assign rfl) ?_
  refine Go.XK.s (v := .int .i64 0) (e_assign rfl) ?_
  refine sl_nil (nrm_k ?_)
  refine sc_seq ?_
  refine sc_seq ?_
  refine sc_reg ?_
  refine Go.XK.s (v := .int .i64 n) (e_move rfl) ?_
  refine Go.XK.s (v := .int .i64 (z : Int)) (e_move rfl) ?_
  refine sl_call ent59 rfl rfl (check_c _ _ w (by omega) (by omega)) (by decide) ?_
  rintro _ w1 ⟨rfl, hw1⟩
  have xw_w1 : Ext w w1 := Ext.tr (Ext.rfl' w) hw1
  refine Go.XK.s (v := .int .i64 (if fits n z then 0 else 2)) (e_assign rfl) ?_
  refine sl_nil (nrm_k ?_)
  refine sc_seq ?_
  refine sc_reg ?_
  refine Go.XK.s (v := .int .i64 (if fits n z then 0 else 2)) (e_move rfl) ?_
  refine Go.XK.s (v := .bool (decide ((if fits n z then 0 else 2) ≠ 0))) (e_ne rfl rfl) ?_
  refine sl_nil (nrm_k ?_)
  refine sc_ifd rfl (fun c11 => ?_) (fun c11 => ?_)
  ·
    have hf : fits n z = false := by cases h : fits n z with
      | true => rw [h] at c11; simp at c11
      | false => rfl
    refine sc_seq ?_
    refine sc_reg ?_
    refine Go.XK.s (v := .int .i64 (if fits n z then 0 else 2)) (e_move rfl) ?_
    refine Go.XK.s (v := .string (B [])) (e_assign rfl) ?_
    refine Go.XK.s (v := .int .i64 (if fits n z then 0 else 2)) (e_assign rfl) ?_
    refine sl_nil (nrm_k ?_)
    refine sc_retf rfl (ret2 Try.results47 (rvt rfl) (rvt rfl) ?_)
    exact ⟨by simp [num, hf], xw_w1⟩
  ·
    have hf : fits n z = true := by cases h : fits n z with
      | false => rw [h] at c11; simp at c11
      | true => rfl
    have h0 : 0 ≤ n := (of_decide_eq_true hf).1
    refine sc_skip (nrm_k ?_)
    refine sc_seq ?_
    refine sc_reg ?_
    refine Go.XK.s (v := .int .i64 n) (e_move rfl) ?_
    refine Go.XK.s (v := .int .i64 (z : Int)) (e_move rfl) ?_
    refine Go.XK.s (v := .int .i64 (z : Int)) (e_move rfl) ?_
    refine sl_call ent61 rfl rfl (up_c _ w1) (by decide) ?_
    rintro _ w2 ⟨rfl, hw2⟩
    have xw_w2 : Ext w w2 := Ext.tr xw_w1 hw2
    refine sl_call ent60 rfl rfl (write_c _ _ w2 h0 (by omega)) (by decide) ?_
    rintro _ w3 ⟨rfl, hw3⟩
    have xw_w3 : Ext w w3 := Ext.tr xw_w2 hw3
    refine Go.XK.s (v := .string (B (le z n))) (e_assign rfl) ?_
    refine Go.XK.s (v := .int .i64 0) (e_assign rfl) ?_
    refine sl_nil (nrm_k ?_)
    refine sc_retf rfl (ret2 Try.results47 (rvt rfl) (rvt rfl) ?_)
    exact ⟨by simp [num, hf], xw_w3⟩

/-- masterdisc/eltorito.number (function 26) -/
theorem number_c (n : Int) (z : Nat) (w : World) (h1 : 1 ≤ z) (hz : z ≤ 7) : CallR Try.prog 26 [.int .i64 n, .int .i64 (z : Int)] w (fun v w' => v = .string (B (num n z)) ∧ Ext w w') := by
  refine callR_of (n := 14) [(0, .int .i64 n), (1, .int .i64 (z : Int))] Try.func26 rfl rfl (Nat.le_of_ble_eq_true rfl) rfl ?_
  refine sc_seq ?_
  refine sc_reg ?_
  refine Go.XK.s (v := .string (B [])) (e_assign rfl) ?_
  refine sl_nil (nrm_k ?_)
  refine sc_seq ?_
  refine sc_reg ?_
  refine Go.XK.s (v := .int .i64 n) (e_move rfl) ?_
  refine Go.XK.s (v := .int .i64 (z : Int)) (e_move rfl) ?_
  refine sl_call ent47 rfl rfl (little_c _ z w (by omega) (by omega)) (by decide) ?_
  rintro _ w1 ⟨rfl, hw1⟩
  have xw_w1 : Ext w w1 := Ext.tr (Ext.rfl' w) hw1
  refine Go.XK.s (v := .tuple #[.string (B (num n z)), .int .i64 (if fits n z then 0 else 2)]) (e_move rfl) ?_
  refine Go.XK.s (v := .string (B (num n z))) (e_extract (vs := [.string (B (num n z)), .int .i64 (if fits n z then 0 else 2)]) rfl rfl) ?_
  refine Go.XK.s (v := .int .i64 (if fits n z then 0 else 2)) (e_extract (vs := [.string (B (num n z)), .int .i64 (if fits n z then 0 else 2)]) rfl rfl) ?_
  refine Go.XK.s (v := .string (B (num n z))) (e_assign rfl) ?_
  refine Go.XK.s (v := .int .i64 (if fits n z then 0 else 2)) (e_assign rfl) ?_
  refine sl_nil (nrm_k ?_)
  refine sc_seq ?_
  refine sc_reg ?_
  refine Go.XK.s (v := .string (B (num n z))) (e_move rfl) ?_
  refine Go.XK.s (v := .string (B (num n z))) (e_assign rfl) ?_
  refine sl_nil (nrm_k ?_)
  refine sc_retf rfl (ret1 Try.results26 (rvt rfl) ?_)
  exact ⟨rfl, xw_w1⟩

/-- masterdisc/masterdiscref01.fits (function 62) -/
theorem rfits_c (n : Int) (z : Nat) (w : World) (h0 : n ≤ 9223372036854775807) (hz : z ≤ 7) : CallR Try.prog 62 [.int .i64 n, .int .i64 (z : Int)] w (fun v w' => v = .bool (fits n z) ∧ Ext w w') := by
  refine callR_of (n := 17) [(0, .int .i64 n), (1, .int .i64 (z : Int))] Try.func62 rfl rfl (Nat.le_of_ble_eq_true rfl) rfl ?_
  refine sc_seq ?_
  refine sc_reg ?_
  refine Go.XK.s (v := .bool false) (e_assign rfl) ?_
  refine sl_nil (nrm_k ?_)
  refine sc_seq ?_
  refine sc_seq ?_
  refine sc_reg ?_
  refine Go.XK.s (v := .int .i64 n) (e_move rfl) ?_
  refine Go.XK.s (v := .bool (decide (n < 0))) (e_lt rfl rfl) ?_
  refine sl_nil (nrm_k ?_)
  refine sc_ifd rfl (fun c7 => ?_) (fun c7 => ?_)
  ·
    refine sc_seq ?_
    refine sc_reg ?_
    refine Go.XK.s (v := .bool false) (e_assign rfl) ?_
    refine sl_nil (nrm_k ?_)
    refine sc_retf rfl (ret1 Try.results62 (rvt rfl) ?_)
    exact ⟨congrArg Value.bool (by simp [fits]; omega), (Ext.rfl' w)⟩
  ·
    refine sc_skip (nrm_k ?_)
    refine sc_seq ?_
    refine sc_seq ?_
    refine sc_reg ?_
    refine Go.XK.s (v := .int .i64 0) (e_assign rfl) ?_
    refine sl_nil (nrm_k ?_)
    refine sc_block ?_
    refine sc_loop (fun m_ l_ w_ => ∃ (k : Nat) (m : Int), m_ = z - k ∧ l_ = [(0, .int .i64 m), (5, .int .i64 (k : Int)), (1, .int .i64 (z : Int))] ∧ Ext w w_ ∧ k ≤ z ∧ m = n / 256 ^ k) _ [(0, .int .i64 n), (5, .int .i64 (0 : Int)), (1, .int .i64 (z : Int))] ⟨0, n, rfl, rfl, (Ext.rfl' w), ⟨Nat.zero_le _, by simp⟩⟩ (.cons rfl (.cons rfl (.cons rfl (.nil)))) ?_
    rintro j2 _ w1 ⟨k, m, rfl, rfl, xw_w1, ⟨hk, hm⟩⟩
    have hm0 : 0 ≤ m ∧ m ≤ n := by
      rw [hm]; exact ⟨Int.ediv_nonneg (by omega) (Int.le_of_lt (Int.pow_pos (by decide))), Int.ediv_le_self _ (by omega)⟩
    refine sc_seq ?_
    refine sc_seq ?_
    refine sc_reg ?_
    refine Go.XK.s (v := .int .i64 (k : Int)) (e_move rfl) ?_
    refine Go.XK.s (v := .int .i64 (z : Int)) (e_move rfl) ?_
    refine Go.XK.s (v := .bool (decide ((k : Int) < (z : Int)))) (e_lt rfl rfl) ?_
    refine sl_nil (nrm_k ?_)
    refine sc_ifd rfl (fun c10 => ?_) (fun c10 => ?_)
    ·
      refine sc_skip (nrm_k ?_)
      refine sc_seq ?_
      refine sc_block ?_
      refine sc_reg ?_
      refine Go.XK.s (v := .int .i64 m) (e_move rfl) ?_
      refine Go.XK.s (v := .int .i64 (m / 256)) (e_quo rfl rfl (by omega) (by omega) (by omega)) ?_
      refine Go.XK.s (v := .int .i64 (m / 256)) (e_assign rfl) ?_
      refine sl_nil (nrm_k ?_)
      refine sc_reg ?_
      refine Go.XK.s (v := .int .i64 (k : Int)) (e_move rfl) ?_
      refine Go.XK.s (v := .int .i64 ((k : Int) + 1)) (e_add rfl rfl (by omega)) ?_
      refine Go.XK.s (v := .int .i64 ((k : Int) + 1)) (e_assign rfl) ?_
      refine sl_nil ?_
      exact nrm_loopq rfl _ _ (by omega) ⟨k + 1, m / 256, rfl, rfl, xw_w1, ⟨by omega, by rw [hm, div_pow_succ]⟩⟩ (.cons rfl (.cons rfl (.cons rfl (.nil))))
    ·
      refine sc_exit rfl (nrm_k ?_)
      refine sc_seq ?_
      refine sc_reg ?_
      refine Go.XK.s (v := .int .i64 m) (e_move rfl) ?_
      refine Go.XK.s (v := .bool (decide (m = 0))) (e_eq rfl rfl) ?_
      refine Go.XK.s (v := .bool (decide (m = 0))) (e_assign rfl) ?_
      refine sl_nil (nrm_k ?_)
      refine sc_retf rfl (ret1 Try.results62 (rvt rfl) ?_)
      exact ⟨congrArg Value.bool (rfits_end (by omega) (by omega) (by rw [hm, show k = z from by omega])), xw_w1⟩

/-- masterdisc/masterdiscref01.Bytes (function 63) -/
theorem rbytes_c (n : Int) (z : Nat) (w : World) (h0 : 0 ≤ n) (h1 : n ≤ 9223372036854775807) (hz : z ≤ 7) : CallR Try.prog 63 [.int .i64 n, .int .i64 (z : Int)] w (fun v w' => v = .string (B (le z n)) ∧ Ext w w') := by
  refine callR_of (n := 23) [(0, .int .i64 n), (1, .int .i64 (z : Int))] Try.func63 rfl rfl (Nat.le_of_ble_eq_true rfl) rfl ?_
  refine sc_seq ?_
  refine sc_reg ?_
  refine Go.XK.s (v := .string (B [])) (e_assign rfl) ?_
  refine sl_nil (nrm_k ?_)
  refine sc_seq ?_
  refine sc_reg ?_
  refine s_bslice (vs := []) (e := 5) rfl [] (by kernel_rfl) ?_
  intro b7 w1 hb7 he7 hs7 hx7
  have ge_b7 : w.heap.size ≤ b7 := by have h_ := (Below.size (Ext.rfl' w)); omega
  have xw_w1 : Ext w w1 := Ext.tr (Ext.rfl' w) hx7
  refine Go.XK.s (v := .slice (some ⟨b7, 0, none⟩) 0 0) (e_assign rfl) ?_
  refine sl_nil (nrm_k ?_)
  refine sc_seq ?_
  refine sc_seq ?_
  refine sc_reg ?_
  refine Go.XK.s (v := .int .i64 0) (e_assign rfl) ?_
  refine sl_nil (nrm_k ?_)
  refine sc_block ?_
  refine sc_loop (fun m_ l_ w_ => ∃ (k : Nat) (m : Int) (v : Value), m_ = z - k ∧ l_ = [(0, .int .i64 m), (6, .int .i64 (k : Int)), (5, v), (1, .int .i64 (z : Int))] ∧ Ext w w_ ∧ Go.XK.Own w_ w.heap.size 5 1 encB8 v (le k n) ∧ k ≤ z ∧ m = n / 256 ^ k) _ [(0, .int .i64 n), (6, .int .i64 (0 : Int)), (5, (.slice (some ⟨b7, 0, none⟩) 0 0)), (1, .int .i64 (z : Int))] ⟨0, n, .slice (some ⟨b7, 0, none⟩) 0 0, rfl, rfl, xw_w1, (Own.ofBlk (xs := ([] : List UInt8)) hb7 ge_b7 (fun _ => rfl) (by decide)), ⟨Nat.zero_le _, by simp⟩⟩ (.cons rfl (.cons rfl (.cons rfl (.cons rfl (.nil))))) ?_
  rintro j3 _ w2 ⟨k, m, v, rfl, rfl, xw_w2, ho, ⟨hk, hm⟩⟩
  have hm0 : 0 ≤ m ∧ m ≤ n := by
    rw [hm]; exact ⟨Int.ediv_nonneg (by omega) (Int.le_of_lt (Int.pow_pos (by decide))), Int.ediv_le_self _ (by omega)⟩
  refine sc_seq ?_
  refine sc_seq ?_
  refine sc_reg ?_
  refine Go.XK.s (v := .int .i64 (k : Int)) (e_move rfl) ?_
  refine Go.XK.s (v := .int .i64 (z : Int)) (e_move rfl) ?_
  refine Go.XK.s (v := .bool (decide ((k : Int) < (z : Int)))) (e_lt rfl rfl) ?_
  refine sl_nil (nrm_k ?_)
  refine sc_ifd rfl (fun c10 => ?_) (fun c10 => ?_)
  ·
    refine sc_skip (nrm_k ?_)
    refine sc_seq ?_
    refine sc_block ?_
    refine sc_seq ?_
    refine sc_reg ?_
    refine Go.XK.s (v := v) (e_move rfl) ?_
    refine Go.XK.s (v := .int .i64 m) (e_move rfl) ?_
    refine Go.XK.s (v := .int .i64 (m % 256)) (e_rem rfl rfl (by omega) (by omega)) ?_
    refine Go.XK.s (v := .int .u8 ((u8of (m % 256)).toNat)) (e_intu8 Try.underlying3 Try.underlying5 rfl) ?_
    refine s_bslice (vs := [(0, .int .u8 ((u8of (m % 256)).toNat))]) (e := 5) rfl [.int .u8 ((u8of (m % 256)).toNat)] (by kernel_rfl) ?_
    intro b17 w4 hb17 he17 hs17 hx17
    have no_b17_ho : Value.ownBlock v ≠ some b17 := fun h_ => by have h2_ := (Go.XK.Own.lt ho _ h_).2; omega
    have ge_b17 : w.heap.size ≤ b17 := by have h_ := (Below.size xw_w2); omega
    have xw_w4 : Ext w w4 := Ext.tr xw_w2 hx17
    replace ho := ho.ext hx17
    refine s_appendLit (w0 := w) (z := .int .u8 0) (kk := 1) (bytes := 1) rfl rfl Try.underlying35 (by kernel_rfl) rfl (by decide) (fun _ => rfl) one_encB8 [u8of (m % 256)] ho xw_w4 hb17 rfl rfl (by simp [le_length, maxLen]; omega) (by simp [le_length, maxLen]; omega) ?_
    intro v18 w5 ho18 xw_w5 hg18
    refine Go.XK.s (v := v18) (e_assign rfl) ?_
    refine sl_nil (nrm_k ?_)
    refine sc_reg ?_
    refine Go.XK.s (v := .int .i64 m) (e_move rfl) ?_
    refine Go.XK.s (v := .int .i64 (m / 256)) (e_quo rfl rfl (by omega) (by omega) (by omega)) ?_
    refine Go.XK.s (v := .int .i64 (m / 256)) (e_assign rfl) ?_
    refine sl_nil (nrm_k ?_)
    refine sc_reg ?_
    refine Go.XK.s (v := .int .i64 (k : Int)) (e_move rfl) ?_
    refine Go.XK.s (v := .int .i64 ((k : Int) + 1)) (e_add rfl rfl (by omega)) ?_
    refine Go.XK.s (v := .int .i64 ((k : Int) + 1)) (e_assign rfl) ?_
    refine sl_nil ?_
    exact nrm_loopq rfl _ _ (by omega) ⟨k + 1, m / 256, v18, rfl, rfl, xw_w5, (by have h_ := ho18; rw [hm] at h_; rw [u8of_emod, ← le_succ] at h_; exact h_), ⟨by omega, by rw [hm, div_pow_succ]⟩⟩ (.cons rfl (.cons rfl (.cons rfl (.cons rfl (.nil)))))
  ·
    refine sc_exit rfl (nrm_k ?_)
    refine sc_seq ?_
    refine sc_reg ?_
    refine Go.XK.s (v := v) (e_move rfl) ?_
    refine Go.XK.s (v := .string (B (le k n))) (e_convOwn rfl ho Try.underlying35 Try.underlying5 Try.underlying9) ?_
    refine Go.XK.s (v := .string (B (le k n))) (e_assign rfl) ?_
    refine sl_nil (nrm_k ?_)
    refine sc_retf rfl (ret1 Try.results63 (rvt rfl) ?_)
    exact ⟨by rw [show k = z from by omega], xw_w2⟩

/-- masterdisc/masterdiscref01.Little (function 48) -/
theorem rlittle_c (n : Int) (z : Nat) (w : World) (h1 : 1 ≤ z) (hz : z ≤ 7) (hm : n ≤ 9223372036854775807) : CallR Try.prog 48 [.int .i64 n, .int .i64 (z : Int)] w (fun v w' => v = .tuple #[.string (B (num n z)), .int .i64 (if fits n z then 0 else 2)] ∧ Ext w w') := by
  refine callR_of (n := 19) [(0, .int .i64 n), (1, .int .i64 (z : Int))] Try.func48 rfl rfl (Nat.le_of_ble_eq_true rfl) rfl ?_
  refine sc_seq ?_
  refine sc_reg ?_
  refine Go.XK.s (v := .string (B [])) (e_assign rfl) ?_
  refine Go.XK.s (v := .int .i64 0) (e_assign rfl) ?_
  refine sl_nil (nrm_k ?_)
  refine sc_seq ?_
  refine sc_seq ?_
  refine sc_reg ?_
  refine Go.XK.s (v := .int .i64 (z : Int)) (e_move rfl) ?_
  refine Go.XK.s (v := .bool (decide ((z : Int) < 1))) (e_lt rfl rfl) ?_
  refine Go.XK.s (v := .bool (decide ((z : Int) < 1))) (e_move rfl) ?_
  refine sl_merge 3 11 (.bool ((decide ((z : Int) < 1)) || (decide ((8 : Int) < (z : Int))))) ?_ ?_
  · refine sl_case (t := 8) rfl (fun g1_2 => ?_) (fun g1_2 => ?_)
    ·
      refine sl_gskip rfl rfl g1_2 (by decide) ?_
      refine sl_gskip rfl rfl g1_2 (by decide) ?_
      refine Go.XK.s (v := .bool true) (e_pickT rfl g1_2 rfl) ?_
      exact sl_nil (fun a ha => ⟨rfl, ha.sub (.cons (by rw [g1_2]; rfl) (sub_self_cons (sub_self_cons (sub_self_cons (Sub.refl _) rfl) rfl) rfl))⟩)
    ·
      refine sl_gev (v := .int .i64 (z : Int)) rfl rfl g1_2 (e_move rfl) rfl (by decide) ?_
      refine sl_gev (v := .bool (decide ((8 : Int) < (z : Int)))) rfl rfl g1_2 (e_gt rfl rfl) rfl (by decide) ?_
      refine Go.XK.s (v := .bool (decide ((8 : Int) < (z : Int)))) (e_pickF rfl g1_2 rfl) ?_
      exact sl_nil (fun a ha => ⟨rfl, ha.sub (.cons (by rw [g1_2]; rfl) (sub_self_cons (sub_self_cons (sub_self_cons (Sub.refl _) rfl) rfl) rfl))⟩)
  refine sl_nil (nrm_k ?_)
  refine sc_no rfl (by simp; omega) ?_
  refine sc_skip (nrm_k ?_)
  refine sc_seq ?_
  refine sc_seq ?_
  refine sc_reg ?_
  refine Go.XK.s (v := .int .i64 n) (e_move rfl) ?_
  refine Go.XK.s (v := .int .i64 (z : Int)) (e_move rfl) ?_
  refine sl_call ent62 rfl rfl (rfits_c _ z w (by omega) (by omega)) (by decide) ?_
  rintro _ w1 ⟨rfl, hw1⟩
  have xw_w1 : Ext w w1 := Ext.tr (Ext.rfl' w) hw1
  refine Go.XK.s (v := .bool (!(fits n z))) (e_not rfl) ?_
  refine sl_nil (nrm_k ?_)
  refine sc_if rfl (fun c15 => ?_) (fun c15 => ?_)
  ·
    have hf : fits n z = false := by simpa using c15
    refine sc_seq ?_
    refine sc_reg ?_
    refine Go.XK.s (v := .string (B [])) (e_assign rfl) ?_
    refine Go.XK.s (v := .int .i64 2) (e_assign rfl) ?_
    refine sl_nil (nrm_k ?_)
    refine sc_retf rfl (ret2 Try.results48 (rvt rfl) (rvt rfl) ?_)
    exact ⟨by simp [num, hf], xw_w1⟩
  ·
    have hf : fits n z = true := by simpa using c15
    have h0 : 0 ≤ n := (of_decide_eq_true hf).1
    refine sc_skip (nrm_k ?_)
    refine sc_seq ?_
    refine sc_reg ?_
    refine Go.XK.s (v := .int .i64 n) (e_move rfl) ?_
    refine Go.XK.s (v := .int .i64 (z : Int)) (e_move rfl) ?_
    refine sl_call ent63 rfl rfl (rbytes_c _ z w1 (by omega) (by omega) (by omega)) (by decide) ?_
    rintro _ w2 ⟨rfl, hw2⟩
    have xw_w2 : Ext w w2 := Ext.tr xw_w1 hw2
    refine Go.XK.s (v := .string (B (le z n))) (e_assign rfl) ?_
    refine Go.XK.s (v := .int .i64 0) (e_assign rfl) ?_
    refine sl_nil (nrm_k ?_)
    refine sc_retf rfl (ret2 Try.results48 (rvt rfl) (rvt rfl) ?_)
    exact ⟨by simp [num, hf], xw_w2⟩

/-- masterdisc/masterdiscref27.little (function 31) -/
theorem rnumber_c (n : Int) (z : Nat) (w : World) (h1 : 1 ≤ z) (hz : z ≤ 7) (hm : n ≤ 9223372036854775807) : CallR Try.prog 31 [.int .i64 n, .int .i64 (z : Int)] w (fun v w' => v = .string (B (num n z)) ∧ Ext w w') := by
  refine callR_of (n := 14) [(0, .int .i64 n), (1, .int .i64 (z : Int))] Try.func31 rfl rfl (Nat.le_of_ble_eq_true rfl) rfl ?_
  refine sc_seq ?_
  refine sc_reg ?_
  refine Go.XK.s (v := .string (B [])) (e_assign rfl) ?_
  refine sl_nil (nrm_k ?_)
  refine sc_seq ?_
  refine sc_reg ?_
  refine Go.XK.s (v := .int .i64 n) (e_move rfl) ?_
  refine Go.XK.s (v := .int .i64 (z : Int)) (e_move rfl) ?_
  refine sl_call ent48 rfl rfl (rlittle_c _ z w (by omega) (by omega) (by omega)) (by decide) ?_
  rintro _ w1 ⟨rfl, hw1⟩
  have xw_w1 : Ext w w1 := Ext.tr (Ext.rfl' w) hw1
  refine Go.XK.s (v := .tuple #[.string (B (num n z)), .int .i64 (if fits n z then 0 else 2)]) (e_move rfl) ?_
  refine Go.XK.s (v := .string (B (num n z))) (e_extract (vs := [.string (B (num n z)), .int .i64 (if fits n z then 0 else 2)]) rfl rfl) ?_
  refine Go.XK.s (v := .int .i64 (if fits n z then 0 else 2)) (e_extract (vs := [.string (B (num n z)), .int .i64 (if fits n z then 0 else 2)]) rfl rfl) ?_
  refine Go.XK.s (v := .string (B (num n z))) (e_assign rfl) ?_
  refine Go.XK.s (v := .int .i64 (if fits n z then 0 else 2)) (e_assign rfl) ?_
  refine sl_nil (nrm_k ?_)
  refine sc_seq ?_
  refine sc_reg ?_
  refine Go.XK.s (v := .string (B (num n z))) (e_move rfl) ?_
  refine Go.XK.s (v := .string (B (num n z))) (e_assign rfl) ?_
  refine sl_nil (nrm_k ?_)
  refine sc_retf rfl (ret1 Try.results31 (rvt rfl) ?_)
  exact ⟨rfl, xw_w1⟩

/-- masterdisc/masterdiscref01.Repeat (function 30) -/
theorem rrep_c (c : UInt8) (n : Int) (w : World) (hn : n ≤ 16777216) : CallR Try.prog 30 [.int .u8 c.toNat, .int .i64 n] w (fun v w' => v = .string (B (List.replicate n.toNat c)) ∧ Ext w w') := by
  refine callR_of (n := 19) [(0, .int .u8 c.toNat), (1, .int .i64 n)] Try.func30 rfl rfl (Nat.le_of_ble_eq_true rfl) rfl ?_
  refine sc_seq ?_
  refine sc_reg ?_
  refine Go.XK.s (v := .string (B [])) (e_assign rfl) ?_
  refine sl_nil (nrm_k ?_)
  refine sc_seq ?_
  refine sc_reg ?_
  refine s_bslice (vs := []) (e := 5) rfl [] (by kernel_rfl) ?_
  intro b7 w1 hb7 he7 hs7 hx7
  have ge_b7 : w.heap.size ≤ b7 := by have h_ := (Below.size (Ext.rfl' w)); omega
  have xw_w1 : Ext w w1 := Ext.tr (Ext.rfl' w) hx7
  refine Go.XK.s (v := .slice (some ⟨b7, 0, none⟩) 0 0) (e_assign rfl) ?_
  refine sl_nil (nrm_k ?_)
  refine sc_seq ?_
  refine sc_seq ?_
  refine sc_reg ?_
  refine Go.XK.s (v := .int .i64 0) (e_assign rfl) ?_
  refine sl_nil (nrm_k ?_)
  refine sc_block ?_
  refine sc_loop (fun m_ l_ w_ => ∃ (k : Nat) (v : Value), m_ = n.toNat - k ∧ l_ = [(6, .int .i64 (k : Int)), (5, v), (0, .int .u8 c.toNat), (1, .int .i64 n)] ∧ Ext w w_ ∧ Go.XK.Own w_ w.heap.size 5 1 encB8 v (List.replicate k c) ∧ k ≤ n.toNat) _ [(6, .int .i64 (0 : Int)), (5, (.slice (some ⟨b7, 0, none⟩) 0 0)), (0, .int .u8 c.toNat), (1, .int .i64 n)] ⟨0, .slice (some ⟨b7, 0, none⟩) 0 0, rfl, rfl, xw_w1, (Own.ofBlk (xs := ([] : List UInt8)) hb7 ge_b7 (fun _ => rfl) (by decide)), Nat.zero_le _⟩ (.cons rfl (.cons rfl (.cons rfl (.cons rfl (.nil))))) ?_
  rintro j3 _ w2 ⟨k, v, rfl, rfl, xw_w2, ho, hk⟩
  refine sc_seq ?_
  refine sc_seq ?_
  refine sc_reg ?_
  refine Go.XK.s (v := .int .i64 (k : Int)) (e_move rfl) ?_
  refine Go.XK.s (v := .int .i64 n) (e_move rfl) ?_
  refine Go.XK.s (v := .bool (decide ((k : Int) < n))) (e_lt rfl rfl) ?_
  refine sl_nil (nrm_k ?_)
  refine sc_ifd rfl (fun c10 => ?_) (fun c10 => ?_)
  ·
    refine sc_skip (nrm_k ?_)
    refine sc_seq ?_
    refine sc_block ?_
    refine sc_reg ?_
    refine Go.XK.s (v := v) (e_move rfl) ?_
    refine Go.XK.s (v := .int .u8 c.toNat) (e_move rfl) ?_
    refine s_bslice (vs := [(0, .int .u8 c.toNat)]) (e := 5) rfl [.int .u8 c.toNat] (by kernel_rfl) ?_
    intro b15 w4 hb15 he15 hs15 hx15
    have no_b15_ho : Value.ownBlock v ≠ some b15 := fun h_ => by have h2_ := (Go.XK.Own.lt ho _ h_).2; omega
    have ge_b15 : w.heap.size ≤ b15 := by have h_ := (Below.size xw_w2); omega
    have xw_w4 : Ext w w4 := Ext.tr xw_w2 hx15
    replace ho := ho.ext hx15
    refine s_appendLit (w0 := w) (z := .int .u8 0) (kk := 1) (bytes := 1) rfl rfl Try.underlying35 (by kernel_rfl) rfl (by decide) (fun _ => rfl) one_encB8 [c] ho xw_w4 hb15 rfl rfl (by simp [maxLen]; omega) (by simp [maxLen]; omega) ?_
    intro v16 w5 ho16 xw_w5 hg16
    refine Go.XK.s (v := v16) (e_assign rfl) ?_
    refine sl_nil (nrm_k ?_)
    refine sc_reg ?_
    refine Go.XK.s (v := .int .i64 (k : Int)) (e_move rfl) ?_
    refine Go.XK.s (v := .int .i64 ((k : Int) + 1)) (e_add rfl rfl (by omega)) ?_
    refine Go.XK.s (v := .int .i64 ((k : Int) + 1)) (e_assign rfl) ?_
    refine sl_nil ?_
    exact nrm_loopq rfl _ _ (by omega) ⟨k + 1, v16, rfl, rfl, xw_w5, (by have h_ := ho16; rw [← List.replicate_succ'] at h_; exact h_), (by omega)⟩ (.cons rfl (.cons rfl (.cons rfl (.cons rfl (.nil)))))
  ·
    refine sc_exit rfl (nrm_k ?_)
    refine sc_seq ?_
    refine sc_reg ?_
    refine Go.XK.s (v := v) (e_move rfl) ?_
    refine Go.XK.s (v := .string (B (List.replicate k c))) (e_convOwn rfl ho Try.underlying35 Try.underlying5 Try.underlying9) ?_
    refine Go.XK.s (v := .string (B (List.replicate k c))) (e_assign rfl) ?_
    refine sl_nil (nrm_k ?_)
    refine sc_retf rfl (ret1 Try.results30 (rvt rfl) ?_)
    exact ⟨by rw [show n.toNat = k from by omega], xw_w2⟩

end Go.Proofs.Ytlgkjpmaekkpjaa
