/- Chapter 52: C7. Printed by my program wip/tools/wk.py. -/
import Derived.Test.YtfcjianiodiejaaC6
import Derived.Test.YtfcjianiodiejaaMath3
set_option linter.unusedVariables false
set_option linter.unusedSimpArgs false
set_option maxRecDepth 4000
set_option maxHeartbeats 4000000
namespace Go.Proofs.Ytfcjianiodiejaa
open Go.XK Go.RowKit
/-- masterdisc/masterdisclaw52.block (function 24) -/
theorem block_c (c : UInt8) (w : World) (hc : c.toNat < 128) : CallR Try.prog 24 [.int .u8 c.toNat] w (fun v w' => v = .string (B (blk1 c)) ∧ Ext w w') := by
  refine callR_of (n := 7) [(0, .int .u8 c.toNat)] Try.func24 rfl rfl (Nat.le_of_ble_eq_true rfl) rfl ?_
  refine sc_seq ?_
  refine sc_reg ?_
  refine Go.XK.s (v := .string (B [])) (e_assign rfl) ?_
  refine sl_nil (nrm_k ?_)
  refine sc_seq ?_
  refine sc_reg ?_
  refine Go.XK.s (v := .int .u8 c.toNat) (e_move rfl) ?_
  refine Go.XK.s (v := .int .i32 (c.toNat : Int)) (e_conv Try.underlying5 Try.underlying21 rfl (u8_in .i32 (by decide) c)) ?_
  refine Go.XK.s (v := .string (B [c])) (e_runeStr rfl Try.underlying9 hc rfl) ?_
  refine sl_call ent63 rfl rfl (rep_c [c] 2048 w (by decide) (by simp)) (by decide) ?_
  rintro _ w1 ⟨rfl, hw1⟩
  have xw_w1 : Ext w w1 := Ext.tr (Ext.rfl' w) hw1
  refine Go.XK.s (v := .string (B (Lib.repeatL [c] 2048))) (e_assign rfl) ?_
  refine sl_nil (nrm_k ?_)
  refine sc_retf rfl (ret1 Try.results24 (rvt rfl) ?_)
  exact ⟨rfl, xw_w1⟩

/-- masterdisc/packetwriter.Usable (function 28) -/
theorem usable_c (start lba : Int) (w : World) (h1 : -9223372036854775808 ≤ lba ∧ lba ≤ 9223372036854775807) (h2 : start ≤ 9223372036854775807) : CallR Try.prog 28 [.int .i64 start, .int .i64 lba] w (fun v w' => v = .bool (usbl start lba) ∧ Ext w w') := by
  refine callR_of (n := 19) [(0, .int .i64 start), (1, .int .i64 lba)] Try.func28 rfl rfl (Nat.le_of_ble_eq_true rfl) rfl ?_
  refine sc_seq ?_
  refine sc_reg ?_
  refine Go.XK.s (v := .bool false) (e_assign rfl) ?_
  refine sl_nil (nrm_k ?_)
  refine sc_seq ?_
  refine sc_reg ?_
  refine Go.XK.s (v := .int .i64 start) (e_move rfl) ?_
  refine Go.XK.s (v := .bool (decide ((0 : Int) ≤ start))) (e_ge rfl rfl) ?_
  refine Go.XK.s (v := .bool (decide ((0 : Int) ≤ start))) (e_move rfl) ?_
  refine sl_merge 4 11 (.bool ((decide ((0 : Int) ≤ start)) && (decide (start ≤ lba)))) ?_ ?_
  · refine sl_case (t := 7) rfl (fun g1_2 => ?_) (fun g1_2 => ?_)
    ·
      refine sl_gev (v := .int .i64 lba) rfl rfl g1_2 (e_move rfl) rfl (by decide) ?_
      refine sl_gev (v := .int .i64 start) rfl rfl g1_2 (e_move rfl) rfl (by decide) ?_
      refine sl_gev (v := .bool (decide (start ≤ lba))) rfl rfl g1_2 (e_ge rfl rfl) rfl (by decide) ?_
      refine Go.XK.s (v := .bool (decide (start ≤ lba))) (e_pickT rfl g1_2 rfl) ?_
      exact sl_nil (fun a ha => ⟨rfl, ha.sub (.cons (by rw [g1_2]; rfl) (sub_self_cons (sub_self_cons (sub_self_cons (sub_self_cons (Sub.refl _) rfl) rfl) rfl) rfl))⟩)
    ·
      refine sl_gskip rfl rfl g1_2 (by decide) ?_
      refine sl_gskip rfl rfl g1_2 (by decide) ?_
      refine sl_gskip rfl rfl g1_2 (by decide) ?_
      refine Go.XK.s (v := .bool false) (e_pickF rfl g1_2 rfl) ?_
      exact sl_nil (fun a ha => ⟨rfl, ha.sub (.cons (by rw [g1_2]; rfl) (sub_self_cons (sub_self_cons (sub_self_cons (sub_self_cons (Sub.refl _) rfl) rfl) rfl) rfl))⟩)
  refine Go.XK.s (v := .bool ((decide ((0 : Int) ≤ start)) && (decide (start ≤ lba)))) (e_move rfl) ?_
  refine sl_merge 6 18 (.bool (((decide ((0 : Int) ≤ start)) && (decide (start ≤ lba))) && (decide ((lba - start) % 8 ≠ 7)))) ?_ ?_
  · refine sl_case (t := 12) rfl (fun g1_7 => ?_) (fun g1_7 => ?_)
    ·
      refine sl_gev (v := .int .i64 lba) rfl rfl g1_7 (e_move rfl) rfl (by decide) ?_
      refine sl_gev (v := .int .i64 start) rfl rfl g1_7 (e_move rfl) rfl (by decide) ?_
      refine sl_gev (v := .int .i64 (lba - start)) rfl rfl g1_7 (e_sub rfl rfl (by simp only [Bool.and_eq_true, decide_eq_true_eq] at g1_7; omega)) rfl (by decide) ?_
      refine sl_gev (v := .int .i64 ((lba - start) % 8)) rfl rfl g1_7 (e_rem rfl rfl (by simp only [Bool.and_eq_true, decide_eq_true_eq] at g1_7; omega) (by omega)) rfl (by decide) ?_
      refine sl_gev (v := .bool (decide ((lba - start) % 8 ≠ 7))) rfl rfl g1_7 (e_ne rfl rfl) rfl (by decide) ?_
      refine Go.XK.s (v := .bool (decide ((lba - start) % 8 ≠ 7))) (e_pickT rfl g1_7 rfl) ?_
      exact sl_nil (fun a ha => ⟨rfl, ha.sub (.cons (by rw [g1_7]; rfl) (sub_self_cons (sub_self_cons (sub_self_cons (sub_self_cons (sub_self_cons (sub_self_cons (Sub.refl _) rfl) rfl) rfl) rfl) rfl) rfl))⟩)
    ·
      refine sl_gskip rfl rfl g1_7 (by decide) ?_
      refine sl_gskip rfl rfl g1_7 (by decide) ?_
      refine sl_gskip rfl rfl g1_7 (by decide) ?_
      refine sl_gskip rfl rfl g1_7 (by decide) ?_
      refine sl_gskip rfl rfl g1_7 (by decide) ?_
      refine Go.XK.s (v := .bool false) (e_pickF rfl g1_7 rfl) ?_
      exact sl_nil (fun a ha => ⟨rfl, ha.sub (.cons (by rw [g1_7]; rfl) (sub_self_cons (sub_self_cons (sub_self_cons (sub_self_cons (sub_self_cons (sub_self_cons (Sub.refl _) rfl) rfl) rfl) rfl) rfl) rfl))⟩)
  refine Go.XK.s (v := .bool (((decide ((0 : Int) ≤ start)) && (decide (start ≤ lba))) && (decide ((lba - start) % 8 ≠ 7)))) (e_assign rfl) ?_
  refine sl_nil (nrm_k ?_)
  refine sc_retf rfl (ret1 Try.results28 (rvt rfl) ?_)
  exact ⟨rfl, (Ext.rfl' w)⟩

/-- masterdisc/packetwriter.New (function 23) -/
theorem new_c (start next : Int) (w : World) (h1 : -9223372036854775808 ≤ start ∧ start ≤ 9223372036854775807) (h2 : next ≤ 9223372036854775807) : CallR Try.prog 23 [.int .i64 start, .int .i64 next] w (fun v w' => ∃ v1, v = .tuple #[v1, .int .i64 (newE start next)] ∧ (newE start next = 0 → ∃ b : Nat, v1 = .pointer (some ⟨b, 0, none⟩) ∧ Blk w' b 109 [.int .i64 start, .int .i64 (newB start next), .slice none 0 0] ∧ w.heap.size ≤ b) ∧ (newE start next ≠ 0 → v1 = .pointer none) ∧ Ext w w') := by
  refine callR_of (n := 39) [(0, .int .i64 start), (1, .int .i64 next)] Try.func23 rfl rfl (Nat.le_of_ble_eq_true rfl) rfl ?_
  refine sc_seq ?_
  refine sc_reg ?_
  refine Go.XK.s (v := .pointer none) (e_assign rfl) ?_
  refine Go.XK.s (v := .int .i64 0) (e_assign rfl) ?_
  refine sl_nil (nrm_k ?_)
  refine sc_seq ?_
  refine sc_seq ?_
  refine sc_reg ?_
  refine Go.XK.s (v := .int .i64 start) (e_move rfl) ?_
  refine Go.XK.s (v := .bool (decide (start < 0))) (e_lt rfl rfl) ?_
  refine Go.XK.s (v := .bool (decide (start < 0))) (e_move rfl) ?_
  refine sl_merge 4 14 (.bool ((decide (start < 0)) || (decide (next < start)))) ?_ ?_
  · refine sl_case (t := 10) rfl (fun g1_2 => ?_) (fun g1_2 => ?_)
    ·
      refine sl_gskip rfl rfl g1_2 (by decide) ?_
      refine sl_gskip rfl rfl g1_2 (by decide) ?_
      refine sl_gskip rfl rfl g1_2 (by decide) ?_
      refine Go.XK.s (v := .bool true) (e_pickT rfl g1_2 rfl) ?_
      exact sl_nil (fun a ha => ⟨rfl, ha.sub (.cons (by rw [g1_2]; rfl) (sub_self_cons (sub_self_cons (sub_self_cons (sub_self_cons (Sub.refl _) rfl) rfl) rfl) rfl))⟩)
    ·
      refine sl_gev (v := .int .i64 next) rfl rfl g1_2 (e_move rfl) rfl (by decide) ?_
      refine sl_gev (v := .int .i64 start) rfl rfl g1_2 (e_move rfl) rfl (by decide) ?_
      refine sl_gev (v := .bool (decide (next < start))) rfl rfl g1_2 (e_lt rfl rfl) rfl (by decide) ?_
      refine Go.XK.s (v := .bool (decide (next < start))) (e_pickF rfl g1_2 rfl) ?_
      exact sl_nil (fun a ha => ⟨rfl, ha.sub (.cons (by rw [g1_2]; rfl) (sub_self_cons (sub_self_cons (sub_self_cons (sub_self_cons (Sub.refl _) rfl) rfl) rfl) rfl))⟩)
  refine Go.XK.s (v := .bool ((decide (start < 0)) || (decide (next < start)))) (e_move rfl) ?_
  refine sl_merge 3 18 (.bool (((decide (start < 0)) || (decide (next < start))) || (decide ((4096 : Int) < next)))) ?_ ?_
  · refine sl_case (t := 15) rfl (fun g1_7 => ?_) (fun g1_7 => ?_)
    ·
      refine sl_gskip rfl rfl g1_7 (by decide) ?_
      refine sl_gskip rfl rfl g1_7 (by decide) ?_
      refine Go.XK.s (v := .bool true) (e_pickT rfl g1_7 rfl) ?_
      exact sl_nil (fun a ha => ⟨rfl, ha.sub (.cons (by rw [g1_7]; rfl) (sub_self_cons (sub_self_cons (sub_self_cons (Sub.refl _) rfl) rfl) rfl))⟩)
    ·
      refine sl_gev (v := .int .i64 next) rfl rfl g1_7 (e_move rfl) rfl (by decide) ?_
      refine sl_gev (v := .bool (decide ((4096 : Int) < next))) rfl rfl g1_7 (e_gt rfl rfl) rfl (by decide) ?_
      refine Go.XK.s (v := .bool (decide ((4096 : Int) < next))) (e_pickF rfl g1_7 rfl) ?_
      exact sl_nil (fun a ha => ⟨rfl, ha.sub (.cons (by rw [g1_7]; rfl) (sub_self_cons (sub_self_cons (sub_self_cons (Sub.refl _) rfl) rfl) rfl))⟩)
  refine sl_nil (nrm_k ?_)
  refine sc_if rfl (fun c18 => ?_) (fun c18 => ?_)
  ·
    refine sc_seq ?_
    refine sc_reg ?_
    refine Go.XK.s (v := .pointer none) (e_assign rfl) ?_
    refine Go.XK.s (v := .int .i64 1) (e_assign rfl) ?_
    refine sl_nil (nrm_k ?_)
    refine sc_retf rfl (ret2 Try.results23 (rvt rfl) (rvt rfl) ?_)
    have hE : newE start next = 1 := by rw [newE, if_pos c18]
    exact ⟨.pointer none, by rw [hE], fun h_ => absurd (hE.symm.trans h_) (by decide), fun _ => rfl, (Ext.rfl' w)⟩
  ·
    have hnb : newB start next = start + (next - start + 8 - 1) / 8 * 8 := rfl
    have h18 := c18
    simp only [Bool.or_eq_false_iff, decide_eq_false_iff_not] at h18
    refine sc_skip (nrm_k ?_)
    refine sc_seq ?_
    refine sc_reg ?_
    refine Go.XK.s (v := .int .i64 next) (e_move rfl) ?_
    refine Go.XK.s (v := .int .i64 start) (e_move rfl) ?_
    refine Go.XK.s (v := .int .i64 (next - start)) (e_sub rfl rfl (by omega)) ?_
    refine Go.XK.s (v := .int .i64 ((next - start) + 8)) (e_add rfl rfl (by omega)) ?_
    refine Go.XK.s (v := .int .i64 (((next - start) + 8) - 1)) (e_sub rfl rfl (by omega)) ?_
    refine Go.XK.s (v := .int .i64 ((((next - start) + 8) - 1) / 8)) (e_quo rfl rfl (by omega) (by omega) (by omega)) ?_
    refine Go.XK.s (v := .int .i64 ((((next - start) + 8) - 1) / 8)) (e_assign rfl) ?_
    refine sl_nil (nrm_k ?_)
    refine sc_seq ?_
    refine sc_reg ?_
    refine Go.XK.s (v := .int .i64 start) (e_move rfl) ?_
    refine Go.XK.s (v := .int .i64 start) (e_move rfl) ?_
    refine Go.XK.s (v := .int .i64 ((((next - start) + 8) - 1) / 8)) (e_move rfl) ?_
    refine Go.XK.s (v := .int .i64 (((((next - start) + 8) - 1) / 8) * 8)) (e_mul rfl rfl (by omega)) ?_
    refine Go.XK.s (v := .int .i64 (start + (((((next - start) + 8) - 1) / 8) * 8))) (e_add rfl rfl (by omega)) ?_
    refine Go.XK.s (v := .agg #[.int .i64 start, .int .i64 (start + (((((next - start) + 8) - 1) / 8) * 8)), .slice none 0 0]) (e_build (vs := [(0, .int .i64 start), (1, .int .i64 (start + (((((next - start) + 8) - 1) / 8) * 8)))]) rfl (by kernel_rfl)) ?_
    refine s_box (cs := [.int .i64 start, .int .i64 (start + (((((next - start) + 8) - 1) / 8) * 8)), .slice none 0 0]) rfl rfl ?_
    intro b31 w1 hb31 he31 hs31 hx31
    have ge_b31 : w.heap.size ≤ b31 := by have h_ := (Below.size (Ext.rfl' w)); omega
    have xw_w1 : Ext w w1 := Ext.tr (Ext.rfl' w) hx31
    refine Go.XK.s (v := .pointer (some ⟨b31, 0, none⟩)) (e_assign rfl) ?_
    refine sl_nil (nrm_k ?_)
    refine sc_seq ?_
    refine sc_seq ?_
    refine sc_reg ?_
    refine Go.XK.s (v := .pointer (some ⟨b31, 0, none⟩)) (e_move rfl) ?_
    refine Go.XK.s (v := .pointer (some ⟨b31, 0, none⟩)) (e_nilCheck rfl) ?_
    refine Go.XK.s (v := .pointer (some ⟨b31, 1, none⟩)) (e_fieldB (sz := 1) Try.underlying109 rfl Try.sizeOf3 (by decide) rfl rfl) ?_
    refine Go.XK.s (v := .int .i64 (start + (((((next - start) + 8) - 1) / 8) * 8))) (e_load rfl (load1 Try.isAgg3 (hb31.cell (j := 1) rfl))) ?_
    refine Go.XK.s (v := .int .i64 ((start + (((((next - start) + 8) - 1) / 8) * 8)) + 8)) (e_add rfl rfl (by omega)) ?_
    refine Go.XK.s (v := .bool (decide ((4096 : Int) < (start + (((((next - start) + 8) - 1) / 8) * 8)) + 8))) (e_gt rfl rfl) ?_
    refine sl_nil (nrm_k ?_)
    refine sc_ifd rfl (fun c37 => ?_) (fun c37 => ?_)
    ·
      refine sc_seq ?_
      refine sc_reg ?_
      refine Go.XK.s (v := .pointer none) (e_assign rfl) ?_
      refine Go.XK.s (v := .int .i64 12) (e_assign rfl) ?_
      refine sl_nil (nrm_k ?_)
      refine sc_retf rfl (ret2 Try.results23 (rvt rfl) (rvt rfl) ?_)
      have hE : newE start next = 12 := by rw [newE, if_neg (by simp [c18]), if_pos c37]
      exact ⟨.pointer none, by rw [hE], fun h_ => absurd (hE.symm.trans h_) (by decide), fun _ => rfl, xw_w1⟩
    ·
      refine sc_skip (nrm_k ?_)
      refine sc_seq ?_
      refine sc_reg ?_
      refine Go.XK.s (v := .pointer (some ⟨b31, 0, none⟩)) (e_move rfl) ?_
      refine Go.XK.s (v := .pointer (some ⟨b31, 0, none⟩)) (e_assign rfl) ?_
      refine Go.XK.s (v := .int .i64 0) (e_assign rfl) ?_
      refine sl_nil (nrm_k ?_)
      refine sc_retf rfl (ret2 Try.results23 (rvt rfl) (rvt rfl) ?_)
      have hE : newE start next = 0 := by rw [newE, if_neg (by simp [c18]), if_neg c37]
      exact ⟨_, by rw [hE], fun _ => ⟨b31, rfl, hb31, ge_b31⟩, fun h_ => absurd hE h_, xw_w1⟩

/-- (*masterdisc/packetwriter.Writer).Base (function 40) -/
theorem base_c (w0 : World) (b : Nat) (lv : Value) (start base : Int) (ps : List Pn) (w : World) (hb0 : w0.heap.size ≤ b) (hx0 : Ext w0 w) (hbw : Blk w b 109 [.int .i64 start, .int .i64 base, lv]) (hop : Go.XK.Own w w0.heap.size 114 2 encP lv ps) (hwf : Wf start base ps) : CallR Try.prog 40 [.pointer (some ⟨b, 0, none⟩)] w (fun v w' => v = .int .i64 base ∧ Ext w w') := by
  refine callR_of (n := 7) [(0, .pointer (some ⟨b, 0, none⟩))] Try.func40 rfl rfl (Nat.le_of_ble_eq_true rfl) rfl ?_
  refine sc_seq ?_
  refine sc_reg ?_
  refine Go.XK.s (v := .int .i64 0) (e_assign rfl) ?_
  refine sl_nil (nrm_k ?_)
  refine sc_seq ?_
  refine sc_reg ?_
  refine Go.XK.s (v := .pointer (some ⟨b, 0, none⟩)) (e_move rfl) ?_
  refine Go.XK.s (v := .pointer (some ⟨b, 0, none⟩)) (e_nilCheck rfl) ?_
  refine Go.XK.s (v := .pointer (some ⟨b, 1, none⟩)) (e_fieldB (sz := 1) Try.underlying109 rfl Try.sizeOf3 (by decide) rfl rfl) ?_
  refine Go.XK.s (v := .int .i64 base) (e_load rfl (load1 Try.isAgg3 (hbw.cell (j := 1) rfl))) ?_
  refine Go.XK.s (v := .int .i64 base) (e_assign rfl) ?_
  refine sl_nil (nrm_k ?_)
  refine sc_retf rfl (ret1 Try.results40 (rvt rfl) ?_)
  exact ⟨rfl, (Ext.rfl' w)⟩

/-- (*masterdisc/packetwriter.Writer).Control (function 26) -/
theorem control_c (w0 : World) (b : Nat) (lv : Value) (start base : Int) (ps : List Pn) (w : World) (hb0 : w0.heap.size ≤ b) (hx0 : Ext w0 w) (hbw : Blk w b 109 [.int .i64 start, .int .i64 base, lv]) (hop : Go.XK.Own w w0.heap.size 114 2 encP lv ps) (hwf : Wf start base ps) : CallR Try.prog 26 [.pointer (some ⟨b, 0, none⟩)] w (fun v w' => v = .int .i64 (ctlP start base ps) ∧ Ext w w') := by
  have hs0 := hwf.s0
  have hsb := hwf.sb
  have hb1 := hwf.b1
  have hlw := lastP_wf hwf
  have haw := atP_wf hwf
  have hpl := hwf.len
  refine callR_of (n := 36) [(0, .pointer (some ⟨b, 0, none⟩))] Try.func26 rfl rfl (Nat.le_of_ble_eq_true rfl) rfl ?_
  refine sc_seq ?_
  refine sc_reg ?_
  refine Go.XK.s (v := .int .i64 0) (e_assign rfl) ?_
  refine sl_nil (nrm_k ?_)
  refine sc_seq ?_
  refine sc_reg ?_
  refine Go.XK.s (v := .pointer (some ⟨b, 0, none⟩)) (e_move rfl) ?_
  refine Go.XK.s (v := .pointer (some ⟨b, 0, none⟩)) (e_nilCheck rfl) ?_
  refine Go.XK.s (v := .pointer (some ⟨b, 1, none⟩)) (e_fieldB (sz := 1) Try.underlying109 rfl Try.sizeOf3 (by decide) rfl rfl) ?_
  refine Go.XK.s (v := .int .i64 base) (e_load rfl (load1 Try.isAgg3 (hbw.cell (j := 1) rfl))) ?_
  refine Go.XK.s (v := .int .i64 base) (e_assign rfl) ?_
  refine sl_nil (nrm_k ?_)
  refine sc_seq ?_
  refine sc_seq ?_
  refine sc_reg ?_
  refine Go.XK.s (v := .pointer (some ⟨b, 0, none⟩)) (e_move rfl) ?_
  refine Go.XK.s (v := .pointer (some ⟨b, 0, none⟩)) (e_nilCheck rfl) ?_
  refine Go.XK.s (v := .pointer (some ⟨b, 2, none⟩)) (e_fieldB (sz := 1) Try.underlying109 rfl Try.sizeOf107 (by decide) rfl rfl) ?_
  refine Go.XK.s (v := lv) (e_load rfl (load1 Try.isAgg107 (hbw.cell (j := 2) rfl))) ?_
  refine Go.XK.s (v := .int .i64 (ps.length : Int)) (e_lenOwn Try.underlying107 rfl hop (fun _ => rfl)) ?_
  refine Go.XK.s (v := .int .i64 (ps.length : Int)) (e_assign rfl) ?_
  refine sl_nil (nrm_k ?_)
  refine sc_seq ?_
  refine sc_reg ?_
  refine Go.XK.s (v := .int .i64 (ps.length : Int)) (e_move rfl) ?_
  refine Go.XK.s (v := .bool (decide ((0 : Int) < (ps.length : Int)))) (e_gt rfl rfl) ?_
  refine sl_nil (nrm_k ?_)
  refine sc_ifd rfl (fun c15 => ?_) (fun c15 => ?_)
  ·
    obtain ⟨x, hx⟩ : ∃ x, ps[ps.length - 1]? = some x := ⟨_, List.getElem?_eq_getElem (by omega)⟩
    have hxp := hwf.pp x (List.mem_of_getElem? hx)
    have hix : ((ps.length : Int) - 1).toNat = ps.length - 1 := by omega
    have hlx := lastP_of (base := base) hx
    have hax := atP_of (base := base) hx
    refine sc_reg ?_
    refine Go.XK.s (v := .pointer (some ⟨b, 0, none⟩)) (e_move rfl) ?_
    refine Go.XK.s (v := .pointer (some ⟨b, 0, none⟩)) (e_nilCheck rfl) ?_
    refine Go.XK.s (v := .pointer (some ⟨b, 2, none⟩)) (e_fieldB (sz := 1) Try.underlying109 rfl Try.sizeOf107 (by decide) rfl rfl) ?_
    refine Go.XK.s (v := lv) (e_load rfl (load1 Try.isAgg107 (hbw.cell (j := 2) rfl))) ?_
    refine Go.XK.s (v := .int .i64 (ps.length : Int)) (e_move rfl) ?_
    refine Go.XK.s (v := .int .i64 ((ps.length : Int) - 1)) (e_sub rfl rfl (by omega)) ?_
    refine Go.XK.s (v := .pointer (some (el (ownA lv) 2 ((ps.length : Int) - 1) 0))) (e_idxOwn (x0 := x) Try.underlying107 Try.sizeOf114 rfl rfl hop (fun _ => rfl) (by rw [hix]; exact hx) (by omega)) ?_
    refine Go.XK.s (v := .pointer (some (el (ownA lv) 2 ((ps.length : Int) - 1) 0))) (e_fieldEl (fsz := 1) Try.underlying114 rfl Try.sizeOf3 (by decide) rfl rfl) ?_
    refine Go.XK.s (v := .int .i64 x.p) (e_ldEl (xs := ps) (enc := encP) (e := x) rfl (Go.XK.Own.rd hop (fun _ => rfl)) (by rw [hix]; exact hx) Try.isAgg3 rfl) ?_
    refine Go.XK.s (v := .int .i64 x.p) (e_assign rfl) ?_
    refine sl_nil (nrm_k ?_)
    refine sc_seq ?_
    refine sc_reg ?_
    refine Go.XK.s (v := .int .i64 x.p) (e_move rfl) ?_
    refine Go.XK.s (v := .int .i64 x.p) (e_move rfl) ?_
    refine Go.XK.s (v := .pointer (some ⟨b, 0, none⟩)) (e_move rfl) ?_
    refine Go.XK.s (v := .pointer (some ⟨b, 0, none⟩)) (e_nilCheck rfl) ?_
    refine Go.XK.s (v := .pointer (some ⟨b, 0, none⟩)) (e_fieldB (sz := 1) Try.underlying109 rfl Try.sizeOf3 (by decide) rfl rfl) ?_
    refine Go.XK.s (v := .int .i64 start) (e_load rfl (load1 Try.isAgg3 (hbw.cell (j := 0) rfl))) ?_
    refine Go.XK.s (v := .int .i64 (x.p - start)) (e_sub rfl rfl (by omega)) ?_
    refine Go.XK.s (v := .int .i64 ((x.p - start) % 8)) (e_rem rfl rfl (by omega) (by omega)) ?_
    refine Go.XK.s (v := .int .i64 (x.p - ((x.p - start) % 8))) (e_sub rfl rfl (by omega)) ?_
    refine Go.XK.s (v := .int .i64 ((x.p - ((x.p - start) % 8)) + 8)) (e_add rfl rfl (by omega)) ?_
    refine Go.XK.s (v := .int .i64 (((x.p - ((x.p - start) % 8)) + 8) - 1)) (e_sub rfl rfl (by omega)) ?_
    refine Go.XK.s (v := .int .i64 (((x.p - ((x.p - start) % 8)) + 8) - 1)) (e_assign rfl) ?_
    refine sl_nil (nrm_k ?_)
    refine sc_retf rfl (ret1 Try.results26 (rvt rfl) ?_)
    exact ⟨by rw [ctlP, hlx], (Ext.rfl' w)⟩
  ·
    have hlx := lastP_nil (base := base) (ps := ps) (by omega)
    refine sc_skip (nrm_k ?_)
    refine sc_seq ?_
    refine sc_reg ?_
    refine Go.XK.s (v := .int .i64 base) (e_move rfl) ?_
    refine Go.XK.s (v := .int .i64 base) (e_move rfl) ?_
    refine Go.XK.s (v := .pointer (some ⟨b, 0, none⟩)) (e_move rfl) ?_
    refine Go.XK.s (v := .pointer (some ⟨b, 0, none⟩)) (e_nilCheck rfl) ?_
    refine Go.XK.s (v := .pointer (some ⟨b, 0, none⟩)) (e_fieldB (sz := 1) Try.underlying109 rfl Try.sizeOf3 (by decide) rfl rfl) ?_
    refine Go.XK.s (v := .int .i64 start) (e_load rfl (load1 Try.isAgg3 (hbw.cell (j := 0) rfl))) ?_
    refine Go.XK.s (v := .int .i64 (base - start)) (e_sub rfl rfl (by omega)) ?_
    refine Go.XK.s (v := .int .i64 ((base - start) % 8)) (e_rem rfl rfl (by omega) (by omega)) ?_
    refine Go.XK.s (v := .int .i64 (base - ((base - start) % 8))) (e_sub rfl rfl (by omega)) ?_
    refine Go.XK.s (v := .int .i64 ((base - ((base - start) % 8)) + 8)) (e_add rfl rfl (by omega)) ?_
    refine Go.XK.s (v := .int .i64 (((base - ((base - start) % 8)) + 8) - 1)) (e_sub rfl rfl (by omega)) ?_
    refine Go.XK.s (v := .int .i64 (((base - ((base - start) % 8)) + 8) - 1)) (e_assign rfl) ?_
    refine sl_nil (nrm_k ?_)
    refine sc_retf rfl (ret1 Try.results26 (rvt rfl) ?_)
    exact ⟨by rw [ctlP, hlx], (Ext.rfl' w)⟩

/-- (*masterdisc/packetwriter.Writer).Open (function 39) -/
theorem open_c (w0 : World) (b : Nat) (lv : Value) (start base : Int) (ps : List Pn) (w : World) (hb0 : w0.heap.size ≤ b) (hx0 : Ext w0 w) (hbw : Blk w b 109 [.int .i64 start, .int .i64 base, lv]) (hop : Go.XK.Own w w0.heap.size 114 2 encP lv ps) (hwf : Wf start base ps) : CallR Try.prog 39 [.pointer (some ⟨b, 0, none⟩)] w (fun v w' => Go.XK.Own w' w.heap.size 3 1 encI v (opnL ps) ∧ Ext w w') := by
  have hs0 := hwf.s0
  have hsb := hwf.sb
  have hb1 := hwf.b1
  have hlw := lastP_wf hwf
  have haw := atP_wf hwf
  have hpl := hwf.len
  refine callR_of (n := 25) [(0, .pointer (some ⟨b, 0, none⟩))] Try.func39 rfl rfl (Nat.le_of_ble_eq_true rfl) rfl ?_
  refine sc_seq ?_
  refine sc_reg ?_
  refine Go.XK.s (v := .slice none 0 0) (e_assign rfl) ?_
  refine sl_nil (nrm_k ?_)
  refine sc_seq ?_
  refine sc_reg ?_
  refine Go.XK.s (v := .slice none 0 0) (e_assign rfl) ?_
  refine sl_nil (nrm_k ?_)
  refine sc_seq ?_
  refine sc_seq ?_
  refine sc_reg ?_
  refine Go.XK.s (v := .pointer (some ⟨b, 0, none⟩)) (e_move rfl) ?_
  refine Go.XK.s (v := .pointer (some ⟨b, 0, none⟩)) (e_nilCheck rfl) ?_
  refine Go.XK.s (v := .pointer (some ⟨b, 2, none⟩)) (e_fieldB (sz := 1) Try.underlying109 rfl Try.sizeOf107 (by decide) rfl rfl) ?_
  refine Go.XK.s (v := lv) (e_load rfl (load1 Try.isAgg107 (hbw.cell (j := 2) rfl))) ?_
  refine Go.XK.s (v := .int .i64 (ps.length : Int)) (e_lenOwn Try.underlying107 rfl hop (fun _ => rfl)) ?_
  refine Go.XK.s (v := .int .i64 0) (e_move rfl) ?_
  refine sl_nil (nrm_k ?_)
  refine sc_block ?_
  refine sc_loop (fun m_ l_ w_ => ∃ (i : Nat) (v_ : Value) (xs_ : List Int), m_ = ps.length - i ∧ l_ = [(11, .int .i64 (i : Int)), (3, v_), (0, .pointer (some ⟨b, 0, none⟩)), (9, lv), (10, .int .i64 (ps.length : Int))] ∧ Ext w w_ ∧ Blk w_ b 109 [.int .i64 start, .int .i64 base, lv] ∧ Go.XK.Own w_ w0.heap.size 114 2 encP lv ps ∧ Go.XK.Own w_ w.heap.size 3 1 encI v_ xs_ ∧ (i ≤ ps.length ∧ xs_.length ≤ i) ∧ xs_ = opnL (ps.take i)) _ [(11, .int .i64 (0 : Int)), (3, (.slice none 0 0)), (0, .pointer (some ⟨b, 0, none⟩)), (9, lv), (10, .int .i64 (ps.length : Int))] ⟨0, .slice none 0 0, [], rfl, rfl, (Ext.rfl' w), hbw, hop, (Go.XK.Own.nil _ _ _ _ _), ⟨⟨by omega, by simp⟩, rfl⟩⟩ (.cons rfl (.cons rfl (.cons rfl (.cons rfl (.cons rfl (.nil)))))) ?_
  rintro j2 _ w1 ⟨i, v_, xs_, rfl, rfl, xw_w1, hbw, hop, ho, ⟨⟨hi, hxl⟩, hxs⟩⟩
  refine sc_seq ?_
  refine sc_reg ?_
  refine Go.XK.s (v := .bool (decide ((i : Int) < (ps.length : Int)))) (e_lt rfl rfl) ?_
  refine sl_nil (nrm_k ?_)
  refine sc_seq ?_
  refine sc_ifd rfl (fun c12 => ?_) (fun c12 => ?_)
  ·
    obtain ⟨x, hx⟩ : ∃ x, ps[i]? = some x := ⟨_, List.getElem?_eq_getElem (by omega)⟩
    refine sc_skip (nrm_k ?_)
    refine sc_seq ?_
    refine sc_block ?_
    refine sc_seq ?_
    refine sc_reg ?_
    refine Go.XK.s (v := .pointer (some (el (ownA lv) 2 (i : Int) 0))) (e_idxOwn (x0 := x) Try.underlying107 Try.sizeOf114 rfl rfl hop (fun _ => rfl) hx (by omega)) ?_
    refine Go.XK.s (v := .agg #[.int .i64 x.p, .string (B x.b)]) (e_ldElA (xs := ps) (enc := encP) (e := x) rfl (Go.XK.Own.rd hop (fun _ => rfl)) hx Try.isAgg114 Try.sizeOf114 rfl) ?_
    refine s_alloc (cs := [.int .i64 0, .string (B [])]) Try.zeroValue114 rfl ?_
    intro b5 w3 hb5 he5 hs5 hx5
    have ne_b5_b : b5 ≠ b := by have h_ := hbw.lt; omega
    have no_b5_hop : Value.ownBlock lv ≠ some b5 := fun h_ => by have h2_ := (Go.XK.Own.lt hop _ h_).2; omega
    have no_b5_ho : Value.ownBlock v_ ≠ some b5 := fun h_ => by have h2_ := (Go.XK.Own.lt ho _ h_).2; omega
    have ge_b5 : w.heap.size ≤ b5 := by have h_ := (Below.size xw_w1); omega
    have xw_w3 : Ext w w3 := Ext.tr xw_w1 hx5
    replace hbw := hbw.ext hx5
    replace hop := hop.ext hx5
    replace ho := ho.ext hx5
    refine su_blkV [.int .i64 x.p, .string (B x.b)] [.int .i64 x.p, .string (B x.b)] rfl rfl hb5 rfl Try.sizeOf114 (Nat.le_of_ble_eq_true rfl) rfl rfl ?_
    intro w4 hn_ hm_w4 hs_w4
    have ho_ := hb5
    replace hb5 := hn_
    clear hn_
    replace hbw := hbw.mut hm_w4 (Ne.symm ne_b5_b)
    replace hop := hop.mut hm_w4 no_b5_hop
    replace ho := ho.mut hm_w4 no_b5_ho
    have xw_w4 : Ext w w4 := below_mut xw_w3 (Below.size xw_w3) hm_w4 ge_b5
    refine sl_nil (nrm_k ?_)
    refine sc_seq ?_
    refine sc_reg ?_
    refine Go.XK.s (v := .pointer (some ⟨b5, 1, none⟩)) (e_fieldB (sz := 1) Try.underlying114 rfl Try.sizeOf9 (by decide) rfl rfl) ?_
    refine Go.XK.s (v := .string (B x.b)) (e_load rfl (load1 Try.isAgg9 (hb5.cell (j := 1) rfl))) ?_
    refine Go.XK.s (v := .bool (decide (x.b = []))) (e_seq rfl rfl) ?_
    refine sl_nil (nrm_k ?_)
    refine sc_ifd rfl (fun c17 => ?_) (fun c17 => ?_)
    ·
      refine sc_reg ?_
      refine Go.XK.s (v := v_) (e_move rfl) ?_
      refine Go.XK.s (v := .pointer (some ⟨b5, 0, none⟩)) (e_fieldB (sz := 1) Try.underlying114 rfl Try.sizeOf3 (by decide) rfl rfl) ?_
      refine Go.XK.s (v := .int .i64 x.p) (e_load rfl (load1 Try.isAgg3 (hb5.cell (j := 0) rfl))) ?_
      refine s_bslice (vs := [(0, .int .i64 x.p)]) (e := 3) rfl [.int .i64 x.p] (by kernel_rfl) ?_
      intro b21 w5 hb21 he21 hs21 hx21
      have ne_b21_b : b21 ≠ b := by have h_ := hbw.lt; omega
      have ne_b21_b5 : b21 ≠ b5 := by have h_ := hb5.lt; omega
      have no_b21_hop : Value.ownBlock lv ≠ some b21 := fun h_ => by have h2_ := (Go.XK.Own.lt hop _ h_).2; omega
      have no_b21_ho : Value.ownBlock v_ ≠ some b21 := fun h_ => by have h2_ := (Go.XK.Own.lt ho _ h_).2; omega
      have ge_b21 : w.heap.size ≤ b21 := by have h_ := (Below.size xw_w4); omega
      have xw_w5 : Ext w w5 := Ext.tr xw_w4 hx21
      replace hbw := hbw.ext hx21
      replace hb5 := hb5.ext hx21
      replace hop := hop.ext hx21
      replace ho := ho.ext hx21
      refine s_appendLit2 (w0 := w) (z := .int .i64 0) (kk := 1) (bytes := 8) rfl rfl Try.underlying38 (by kernel_rfl) rfl (by decide) (fun _ => rfl) one_encI [x.p] ho xw_w5 hb21 rfl rfl (by first | (simp only [maxLen]; omega) | omega) (by first | (simp only [maxLen]; omega) | omega) ?_
      intro v22 w6 ho22 xw_w6 hg22 hat22
      replace hbw := hbw.grown hg22 (Own.ne ho hbw (by decide))
      replace hb5 := hb5.grown hg22 (Own.ne ho hb5 (by decide))
      replace hb21 := hb21.grown hg22 no_b21_ho
      replace hop := Go.XK.Own.other hop ho hg22 (by decide)
      refine Go.XK.s (v := v22) (e_assign rfl) ?_
      refine sl_nil (nrm_k ?_)
      refine sc_reg ?_
      refine Go.XK.s (v := .int .i64 ((i : Int) + 1)) (e_add rfl rfl (by omega)) ?_
      refine Go.XK.s (v := .int .i64 ((i : Int) + 1)) (e_move rfl) ?_
      refine sl_nil ?_
      exact nrm_loopq rfl _ _ (by omega) ⟨i + 1, v22, xs_ ++ [x.p], rfl, rfl, xw_w6, hbw, hop, ho22, ⟨⟨by omega, by rw [List.length_append]; simp; omega⟩, by rw [opn_yes hx c17, hxs]⟩⟩ (.cons rfl (.cons rfl (.cons rfl (.cons rfl (.cons rfl (.nil))))))
    ·
      refine sc_skip (nrm_k ?_)
      refine sc_reg ?_
      refine Go.XK.s (v := .int .i64 ((i : Int) + 1)) (e_add rfl rfl (by omega)) ?_
      refine Go.XK.s (v := .int .i64 ((i : Int) + 1)) (e_move rfl) ?_
      refine sl_nil ?_
      exact nrm_loopq rfl _ _ (by omega) ⟨i + 1, v_, xs_, rfl, rfl, xw_w4, hbw, hop, ho, ⟨⟨by omega, by omega⟩, by rw [opn_no hx c17, hxs]⟩⟩ (.cons rfl (.cons rfl (.cons rfl (.cons rfl (.cons rfl (.nil))))))
  ·
    refine sc_exit rfl (nrm_k ?_)
    refine sc_seq ?_
    refine sc_reg ?_
    refine Go.XK.s (v := v_) (e_move rfl) ?_
    refine Go.XK.s (v := v_) (e_assign rfl) ?_
    refine sl_nil (nrm_k ?_)
    refine sc_retf rfl (ret1 Try.results39 (rvt rfl) ?_)
    rw [List.take_of_length_le (show ps.length ≤ i by omega)] at hxs
    rw [hxs] at ho
    exact ⟨ho, xw_w1⟩

/-- (*masterdisc/packetwriter.Writer).assign (function 65) -/
theorem assign_c (w0 : World) (b : Nat) (lv : Value) (start base : Int) (ps : List Pn) (m : Nat) (w : World) (hb0 : w0.heap.size ≤ b) (hx0 : Ext w0 w) (hbw : Blk w b 109 [.int .i64 start, .int .i64 base, lv]) (hop : Go.XK.Own w w0.heap.size 114 2 encP lv ps) (hwf : Wf start base ps) (hm : m ≤ 1000000) : CallR Try.prog 65 [.pointer (some ⟨b, 0, none⟩), .int .i64 (m : Int)] w (fun v w' => ∃ v1, v = .tuple #[v1, .bool (asgR start base ps m).isSome] ∧ Go.XK.Own w' w.heap.size 3 1 encI v1 ((asgR start base ps m).getD []) ∧ Ext w w') := by
  have hs0 := hwf.s0
  have hsb := hwf.sb
  have hb1 := hwf.b1
  have hlw := lastP_wf hwf
  have haw := atP_wf hwf
  have hpl := hwf.len
  refine callR_of (n := 60) [(0, .pointer (some ⟨b, 0, none⟩)), (1, .int .i64 (m : Int))] Try.func65 rfl rfl (Nat.le_of_ble_eq_true rfl) rfl ?_
  refine sc_seq ?_
  refine sc_reg ?_
  refine Go.XK.s (v := .slice none 0 0) (e_assign rfl) ?_
  refine Go.XK.s (v := .bool false) (e_assign rfl) ?_
  refine sl_nil (nrm_k ?_)
  refine sc_seq ?_
  refine sc_reg ?_
  refine Go.XK.s (v := .pointer (some ⟨b, 0, none⟩)) (e_move rfl) ?_
  refine Go.XK.s (v := .pointer (some ⟨b, 0, none⟩)) (e_nilCheck rfl) ?_
  refine Go.XK.s (v := .pointer (some ⟨b, 1, none⟩)) (e_fieldB (sz := 1) Try.underlying109 rfl Try.sizeOf3 (by decide) rfl rfl) ?_
  refine Go.XK.s (v := .int .i64 base) (e_load rfl (load1 Try.isAgg3 (hbw.cell (j := 1) rfl))) ?_
  refine Go.XK.s (v := .int .i64 base) (e_assign rfl) ?_
  refine sl_nil (nrm_k ?_)
  refine sc_seq ?_
  refine sc_seq ?_
  refine sc_reg ?_
  refine Go.XK.s (v := .pointer (some ⟨b, 0, none⟩)) (e_move rfl) ?_
  refine Go.XK.s (v := .pointer (some ⟨b, 0, none⟩)) (e_nilCheck rfl) ?_
  refine Go.XK.s (v := .pointer (some ⟨b, 2, none⟩)) (e_fieldB (sz := 1) Try.underlying109 rfl Try.sizeOf107 (by decide) rfl rfl) ?_
  refine Go.XK.s (v := lv) (e_load rfl (load1 Try.isAgg107 (hbw.cell (j := 2) rfl))) ?_
  refine Go.XK.s (v := .int .i64 (ps.length : Int)) (e_lenOwn Try.underlying107 rfl hop (fun _ => rfl)) ?_
  refine Go.XK.s (v := .int .i64 (ps.length : Int)) (e_assign rfl) ?_
  refine sl_nil (nrm_k ?_)
  refine sc_seq ?_
  refine sc_reg ?_
  refine Go.XK.s (v := .int .i64 (ps.length : Int)) (e_move rfl) ?_
  refine Go.XK.s (v := .bool (decide ((0 : Int) < (ps.length : Int)))) (e_gt rfl rfl) ?_
  refine sl_nil (nrm_k ?_)
  refine sc_ifd rfl (fun c20 => ?_) (fun c20 => ?_)
  ·
    obtain ⟨x, hx⟩ : ∃ x, ps[ps.length - 1]? = some x := ⟨_, List.getElem?_eq_getElem (by omega)⟩
    have hxp := hwf.pp x (List.mem_of_getElem? hx)
    have hix : ((ps.length : Int) - 1).toNat = ps.length - 1 := by omega
    have hlx := lastP_of (base := base) hx
    have hax := atP_of (base := base) hx
    refine sc_reg ?_
    refine Go.XK.s (v := .pointer (some ⟨b, 0, none⟩)) (e_move rfl) ?_
    refine Go.XK.s (v := .pointer (some ⟨b, 0, none⟩)) (e_nilCheck rfl) ?_
    refine Go.XK.s (v := .pointer (some ⟨b, 2, none⟩)) (e_fieldB (sz := 1) Try.underlying109 rfl Try.sizeOf107 (by decide) rfl rfl) ?_
    refine Go.XK.s (v := lv) (e_load rfl (load1 Try.isAgg107 (hbw.cell (j := 2) rfl))) ?_
    refine Go.XK.s (v := .int .i64 (ps.length : Int)) (e_move rfl) ?_
    refine Go.XK.s (v := .int .i64 ((ps.length : Int) - 1)) (e_sub rfl rfl (by omega)) ?_
    refine Go.XK.s (v := .pointer (some (el (ownA lv) 2 ((ps.length : Int) - 1) 0))) (e_idxOwn (x0 := x) Try.underlying107 Try.sizeOf114 rfl rfl hop (fun _ => rfl) (by rw [hix]; exact hx) (by omega)) ?_
    refine Go.XK.s (v := .pointer (some (el (ownA lv) 2 ((ps.length : Int) - 1) 0))) (e_fieldEl (fsz := 1) Try.underlying114 rfl Try.sizeOf3 (by decide) rfl rfl) ?_
    refine Go.XK.s (v := .int .i64 x.p) (e_ldEl (xs := ps) (enc := encP) (e := x) rfl (Go.XK.Own.rd hop (fun _ => rfl)) (by rw [hix]; exact hx) Try.isAgg3 rfl) ?_
    refine Go.XK.s (v := .int .i64 (x.p + 1)) (e_add rfl rfl (by omega)) ?_
    refine Go.XK.s (v := .int .i64 (x.p + 1)) (e_assign rfl) ?_
    refine sl_nil (nrm_k ?_)
    refine sc_seq ?_
    refine sc_reg ?_
    refine Go.XK.s (v := .slice none 0 0) (e_assign rfl) ?_
    refine sl_nil (nrm_k ?_)
    refine sc_seq ?_
    refine sc_block ?_
    refine sc_loop (fun m_ l_ w_ => ∃ (a : Int) (v_ : Value) (out : List Int), m_ = (5000 - a).toNat ∧ l_ = [(6, .int .i64 a), (8, v_), (0, .pointer (some ⟨b, 0, none⟩)), (1, .int .i64 (m : Int))] ∧ Ext w w_ ∧ Blk w_ b 109 [.int .i64 start, .int .i64 base, lv] ∧ Go.XK.Own w_ w0.heap.size 114 2 encP lv ps ∧ Go.XK.Own w_ w.heap.size 3 1 encI v_ out ∧ ((base ≤ a ∧ a ≤ 4097) ∧ out.length ≤ m) ∧ (asgA start a (m - out.length)).map (out ++ ·) = asgR start base ps m) _ [(6, .int .i64 (x.p + 1)), (8, (.slice none 0 0)), (0, .pointer (some ⟨b, 0, none⟩)), (1, .int .i64 (m : Int))] ⟨x.p + 1, .slice none 0 0, [], rfl, rfl, (Ext.rfl' w), hbw, hop, (Go.XK.Own.nil _ _ _ _ _), ⟨⟨⟨by omega, by omega⟩, by simp⟩, by rw [asgR, hax]; simp⟩⟩ (.cons rfl (.cons rfl (.cons rfl (.cons rfl (.nil))))) ?_
    rintro j2 _ w1 ⟨a, v_, out, rfl, rfl, xw_w1, hbw, hop, ho, ⟨⟨⟨ha1, ha2⟩, hol⟩, hT⟩⟩
    refine sc_seq ?_
    refine sc_seq ?_
    refine sc_reg ?_
    refine Go.XK.s (v := v_) (e_move rfl) ?_
    refine Go.XK.s (v := .int .i64 (out.length : Int)) (e_lenOwn Try.underlying38 rfl ho (fun _ => rfl)) ?_
    refine Go.XK.s (v := .int .i64 (m : Int)) (e_move rfl) ?_
    refine Go.XK.s (v := .bool (decide ((out.length : Int) < (m : Int)))) (e_lt rfl rfl) ?_
    refine sl_nil (nrm_k ?_)
    refine sc_ifd rfl (fun c34 => ?_) (fun c34 => ?_)
    ·
      obtain ⟨q, hq⟩ : ∃ q, m - out.length = q + 1 := ⟨m - out.length - 1, by omega⟩
      refine sc_skip (nrm_k ?_)
      refine sc_block ?_
      refine sc_seq ?_
      refine sc_seq ?_
      refine sc_reg ?_
      refine Go.XK.s (v := .int .i64 a) (e_move rfl) ?_
      refine Go.XK.s (v := .int .i64 a) (e_move rfl) ?_
      refine Go.XK.s (v := .pointer (some ⟨b, 0, none⟩)) (e_move rfl) ?_
      refine Go.XK.s (v := .pointer (some ⟨b, 0, none⟩)) (e_nilCheck rfl) ?_
      refine Go.XK.s (v := .pointer (some ⟨b, 0, none⟩)) (e_fieldB (sz := 1) Try.underlying109 rfl Try.sizeOf3 (by decide) rfl rfl) ?_
      refine Go.XK.s (v := .int .i64 start) (e_load rfl (load1 Try.isAgg3 (hbw.cell (j := 0) rfl))) ?_
      refine Go.XK.s (v := .int .i64 (a - start)) (e_sub rfl rfl (by omega)) ?_
      refine Go.XK.s (v := .int .i64 ((a - start) % 8)) (e_rem rfl rfl (by omega) (by omega)) ?_
      refine Go.XK.s (v := .int .i64 (a - ((a - start) % 8))) (e_sub rfl rfl (by omega)) ?_
      refine Go.XK.s (v := .int .i64 (a - ((a - start) % 8))) (e_assign rfl) ?_
      refine sl_nil (nrm_k ?_)
      refine sc_seq ?_
      refine sc_reg ?_
      refine Go.XK.s (v := .int .i64 (a - ((a - start) % 8))) (e_move rfl) ?_
      refine Go.XK.s (v := .int .i64 ((a - ((a - start) % 8)) + 8)) (e_add rfl rfl (by omega)) ?_
      refine Go.XK.s (v := .bool (decide ((4096 : Int) < (a - ((a - start) % 8)) + 8))) (e_gt rfl rfl) ?_
      refine sl_nil (nrm_k ?_)
      refine sc_ifd rfl (fun c46 => ?_) (fun c46 => ?_)
      ·
        refine sc_seq ?_
        refine sc_reg ?_
        refine Go.XK.s (v := .slice none 0 0) (e_assign rfl) ?_
        refine Go.XK.s (v := .bool false) (e_assign rfl) ?_
        refine sl_nil (nrm_k ?_)
        refine sc_retf rfl (ret2 Try.results65 (rvt rfl) (rvt rfl) ?_)
        have hN : asgR start base ps m = none := by rw [← hT, hq, asg_full (by omega) c46]; rfl
        exact ⟨.slice none 0 0, by rw [hN]; rfl, by rw [hN]; exact Go.XK.Own.nil _ _ _ _ _, xw_w1⟩
      ·
        refine sc_skip (nrm_k ?_)
        refine sc_seq ?_
        refine sc_seq ?_
        refine sc_reg ?_
        refine Go.XK.s (v := .pointer (some ⟨b, 0, none⟩)) (e_move rfl) ?_
        refine Go.XK.s (v := .pointer (some ⟨b, 0, none⟩)) (e_nilCheck rfl) ?_
        refine Go.XK.s (v := .pointer (some ⟨b, 0, none⟩)) (e_fieldB (sz := 1) Try.underlying109 rfl Try.sizeOf3 (by decide) rfl rfl) ?_
        refine Go.XK.s (v := .int .i64 start) (e_load rfl (load1 Try.isAgg3 (hbw.cell (j := 0) rfl))) ?_
        refine Go.XK.s (v := .int .i64 a) (e_move rfl) ?_
        refine sl_call ent28 rfl rfl (usable_c start a w1 (by omega) (by omega)) (by decide) ?_
        rintro _ w3 ⟨rfl, hw3⟩
        have xw_w3 : Ext w w3 := Ext.tr xw_w1 hw3
        replace hbw := hbw.ext hw3
        replace hop := hop.ext hw3
        replace ho := ho.ext hw3
        refine sl_nil (nrm_k ?_)
        refine sc_if rfl (fun c52 => ?_) (fun c52 => ?_)
        ·
          refine sc_reg ?_
          refine Go.XK.s (v := v_) (e_move rfl) ?_
          refine Go.XK.s (v := .int .i64 a) (e_move rfl) ?_
          refine s_bslice (vs := [(0, .int .i64 a)]) (e := 3) rfl [.int .i64 a] (by kernel_rfl) ?_
          intro b55 w4 hb55 he55 hs55 hx55
          have ne_b55_b : b55 ≠ b := by have h_ := hbw.lt; omega
          have no_b55_hop : Value.ownBlock lv ≠ some b55 := fun h_ => by have h2_ := (Go.XK.Own.lt hop _ h_).2; omega
          have no_b55_ho : Value.ownBlock v_ ≠ some b55 := fun h_ => by have h2_ := (Go.XK.Own.lt ho _ h_).2; omega
          have ge_b55 : w.heap.size ≤ b55 := by have h_ := (Below.size xw_w3); omega
          have xw_w4 : Ext w w4 := Ext.tr xw_w3 hx55
          replace hbw := hbw.ext hx55
          replace hop := hop.ext hx55
          replace ho := ho.ext hx55
          refine s_appendLit2 (w0 := w) (z := .int .i64 0) (kk := 1) (bytes := 8) rfl rfl Try.underlying38 (by kernel_rfl) rfl (by decide) (fun _ => rfl) one_encI [a] ho xw_w4 hb55 rfl rfl (by first | (simp only [maxLen]; omega) | omega) (by first | (simp only [maxLen]; omega) | omega) ?_
          intro v56 w5 ho56 xw_w5 hg56 hat56
          replace hbw := hbw.grown hg56 (Own.ne ho hbw (by decide))
          replace hb55 := hb55.grown hg56 no_b55_ho
          replace hop := Go.XK.Own.other hop ho hg56 (by decide)
          refine Go.XK.s (v := v56) (e_assign rfl) ?_
          refine sl_nil (nrm_k ?_)
          refine sc_reg ?_
          refine Go.XK.s (v := .int .i64 a) (e_move rfl) ?_
          refine Go.XK.s (v := .int .i64 (a + 1)) (e_add rfl rfl (by omega)) ?_
          refine Go.XK.s (v := .int .i64 (a + 1)) (e_assign rfl) ?_
          refine sl_nil ?_
          exact nrm_loopq rfl _ _ (by omega) ⟨a + 1, v56, out ++ [a], rfl, rfl, xw_w5, hbw, hop, ho56, ⟨⟨⟨by omega, by omega⟩, by simp; omega⟩, by rw [← hT, hq, asg_yes (by omega) c46 c52, Option.map_map, List.length_append, show m - (out.length + [a].length) = q by simp; omega]; congr 1; funext z; simp⟩⟩ (.cons rfl (.cons rfl (.cons rfl (.cons rfl (.nil)))))
        ·
          refine sc_skip (nrm_k ?_)
          refine sc_reg ?_
          refine Go.XK.s (v := .int .i64 a) (e_move rfl) ?_
          refine Go.XK.s (v := .int .i64 (a + 1)) (e_add rfl rfl (by omega)) ?_
          refine Go.XK.s (v := .int .i64 (a + 1)) (e_assign rfl) ?_
          refine sl_nil ?_
          exact nrm_loopq rfl _ _ (by omega) ⟨a + 1, v_, out, rfl, rfl, xw_w3, hbw, hop, ho, ⟨⟨⟨by omega, by omega⟩, by omega⟩, by rw [← hT, hq, asg_no (by omega) c46 c52]⟩⟩ (.cons rfl (.cons rfl (.cons rfl (.cons rfl (.nil)))))
    ·
      refine sc_exit rfl (nrm_k ?_)
      refine sc_seq ?_
      refine sc_reg ?_
      refine Go.XK.s (v := v_) (e_move rfl) ?_
      refine Go.XK.s (v := v_) (e_assign rfl) ?_
      refine Go.XK.s (v := .bool true) (e_assign rfl) ?_
      refine sl_nil (nrm_k ?_)
      refine sc_retf rfl (ret2 Try.results65 (rvt rfl) (rvt rfl) ?_)
      have hN : asgR start base ps m = some out := by rw [← hT, show m - out.length = 0 by omega, asg_zero]; simp
      exact ⟨v_, by rw [hN]; rfl, by rw [hN]; exact ho, xw_w1⟩
  ·
    have hax := atP_nil (base := base) (ps := ps) (by omega)
    refine sc_skip (nrm_k ?_)
    refine sc_seq ?_
    refine sc_reg ?_
    refine Go.XK.s (v := .slice none 0 0) (e_assign rfl) ?_
    refine sl_nil (nrm_k ?_)
    refine sc_seq ?_
    refine sc_block ?_
    refine sc_loop (fun m_ l_ w_ => ∃ (a : Int) (v_ : Value) (out : List Int), m_ = (5000 - a).toNat ∧ l_ = [(6, .int .i64 a), (8, v_), (0, .pointer (some ⟨b, 0, none⟩)), (1, .int .i64 (m : Int))] ∧ Ext w w_ ∧ Blk w_ b 109 [.int .i64 start, .int .i64 base, lv] ∧ Go.XK.Own w_ w0.heap.size 114 2 encP lv ps ∧ Go.XK.Own w_ w.heap.size 3 1 encI v_ out ∧ ((base ≤ a ∧ a ≤ 4097) ∧ out.length ≤ m) ∧ (asgA start a (m - out.length)).map (out ++ ·) = asgR start base ps m) _ [(6, .int .i64 base), (8, (.slice none 0 0)), (0, .pointer (some ⟨b, 0, none⟩)), (1, .int .i64 (m : Int))] ⟨base, .slice none 0 0, [], rfl, rfl, (Ext.rfl' w), hbw, hop, (Go.XK.Own.nil _ _ _ _ _), ⟨⟨⟨by omega, by omega⟩, by simp⟩, by rw [asgR, hax]; simp⟩⟩ (.cons rfl (.cons rfl (.cons rfl (.cons rfl (.nil))))) ?_
    rintro j7 _ w6 ⟨a, v_, out, rfl, rfl, xw_w6, hbw, hop, ho, ⟨⟨⟨ha1, ha2⟩, hol⟩, hT⟩⟩
    refine sc_seq ?_
    refine sc_seq ?_
    refine sc_reg ?_
    refine Go.XK.s (v := v_) (e_move rfl) ?_
    refine Go.XK.s (v := .int .i64 (out.length : Int)) (e_lenOwn Try.underlying38 rfl ho (fun _ => rfl)) ?_
    refine Go.XK.s (v := .int .i64 (m : Int)) (e_move rfl) ?_
    refine Go.XK.s (v := .bool (decide ((out.length : Int) < (m : Int)))) (e_lt rfl rfl) ?_
    refine sl_nil (nrm_k ?_)
    refine sc_ifd rfl (fun c34 => ?_) (fun c34 => ?_)
    ·
      obtain ⟨q, hq⟩ : ∃ q, m - out.length = q + 1 := ⟨m - out.length - 1, by omega⟩
      refine sc_skip (nrm_k ?_)
      refine sc_block ?_
      refine sc_seq ?_
      refine sc_seq ?_
      refine sc_reg ?_
      refine Go.XK.s (v := .int .i64 a) (e_move rfl) ?_
      refine Go.XK.s (v := .int .i64 a) (e_move rfl) ?_
      refine Go.XK.s (v := .pointer (some ⟨b, 0, none⟩)) (e_move rfl) ?_
      refine Go.XK.s (v := .pointer (some ⟨b, 0, none⟩)) (e_nilCheck rfl) ?_
      refine Go.XK.s (v := .pointer (some ⟨b, 0, none⟩)) (e_fieldB (sz := 1) Try.underlying109 rfl Try.sizeOf3 (by decide) rfl rfl) ?_
      refine Go.XK.s (v := .int .i64 start) (e_load rfl (load1 Try.isAgg3 (hbw.cell (j := 0) rfl))) ?_
      refine Go.XK.s (v := .int .i64 (a - start)) (e_sub rfl rfl (by omega)) ?_
      refine Go.XK.s (v := .int .i64 ((a - start) % 8)) (e_rem rfl rfl (by omega) (by omega)) ?_
      refine Go.XK.s (v := .int .i64 (a - ((a - start) % 8))) (e_sub rfl rfl (by omega)) ?_
      refine Go.XK.s (v := .int .i64 (a - ((a - start) % 8))) (e_assign rfl) ?_
      refine sl_nil (nrm_k ?_)
      refine sc_seq ?_
      refine sc_reg ?_
      refine Go.XK.s (v := .int .i64 (a - ((a - start) % 8))) (e_move rfl) ?_
      refine Go.XK.s (v := .int .i64 ((a - ((a - start) % 8)) + 8)) (e_add rfl rfl (by omega)) ?_
      refine Go.XK.s (v := .bool (decide ((4096 : Int) < (a - ((a - start) % 8)) + 8))) (e_gt rfl rfl) ?_
      refine sl_nil (nrm_k ?_)
      refine sc_ifd rfl (fun c46 => ?_) (fun c46 => ?_)
      ·
        refine sc_seq ?_
        refine sc_reg ?_
        refine Go.XK.s (v := .slice none 0 0) (e_assign rfl) ?_
        refine Go.XK.s (v := .bool false) (e_assign rfl) ?_
        refine sl_nil (nrm_k ?_)
        refine sc_retf rfl (ret2 Try.results65 (rvt rfl) (rvt rfl) ?_)
        have hN : asgR start base ps m = none := by rw [← hT, hq, asg_full (by omega) c46]; rfl
        exact ⟨.slice none 0 0, by rw [hN]; rfl, by rw [hN]; exact Go.XK.Own.nil _ _ _ _ _, xw_w6⟩
      ·
        refine sc_skip (nrm_k ?_)
        refine sc_seq ?_
        refine sc_seq ?_
        refine sc_reg ?_
        refine Go.XK.s (v := .pointer (some ⟨b, 0, none⟩)) (e_move rfl) ?_
        refine Go.XK.s (v := .pointer (some ⟨b, 0, none⟩)) (e_nilCheck rfl) ?_
        refine Go.XK.s (v := .pointer (some ⟨b, 0, none⟩)) (e_fieldB (sz := 1) Try.underlying109 rfl Try.sizeOf3 (by decide) rfl rfl) ?_
        refine Go.XK.s (v := .int .i64 start) (e_load rfl (load1 Try.isAgg3 (hbw.cell (j := 0) rfl))) ?_
        refine Go.XK.s (v := .int .i64 a) (e_move rfl) ?_
        refine sl_call ent28 rfl rfl (usable_c start a w6 (by omega) (by omega)) (by decide) ?_
        rintro _ w8 ⟨rfl, hw8⟩
        have xw_w8 : Ext w w8 := Ext.tr xw_w6 hw8
        replace hbw := hbw.ext hw8
        replace hop := hop.ext hw8
        replace ho := ho.ext hw8
        refine sl_nil (nrm_k ?_)
        refine sc_if rfl (fun c52 => ?_) (fun c52 => ?_)
        ·
          refine sc_reg ?_
          refine Go.XK.s (v := v_) (e_move rfl) ?_
          refine Go.XK.s (v := .int .i64 a) (e_move rfl) ?_
          refine s_bslice (vs := [(0, .int .i64 a)]) (e := 3) rfl [.int .i64 a] (by kernel_rfl) ?_
          intro b55 w9 hb55 he55 hs55 hx55
          have ne_b55_b : b55 ≠ b := by have h_ := hbw.lt; omega
          have no_b55_hop : Value.ownBlock lv ≠ some b55 := fun h_ => by have h2_ := (Go.XK.Own.lt hop _ h_).2; omega
          have no_b55_ho : Value.ownBlock v_ ≠ some b55 := fun h_ => by have h2_ := (Go.XK.Own.lt ho _ h_).2; omega
          have ge_b55 : w.heap.size ≤ b55 := by have h_ := (Below.size xw_w8); omega
          have xw_w9 : Ext w w9 := Ext.tr xw_w8 hx55
          replace hbw := hbw.ext hx55
          replace hop := hop.ext hx55
          replace ho := ho.ext hx55
          refine s_appendLit2 (w0 := w) (z := .int .i64 0) (kk := 1) (bytes := 8) rfl rfl Try.underlying38 (by kernel_rfl) rfl (by decide) (fun _ => rfl) one_encI [a] ho xw_w9 hb55 rfl rfl (by first | (simp only [maxLen]; omega) | omega) (by first | (simp only [maxLen]; omega) | omega) ?_
          intro v56 w10 ho56 xw_w10 hg56 hat56
          replace hbw := hbw.grown hg56 (Own.ne ho hbw (by decide))
          replace hb55 := hb55.grown hg56 no_b55_ho
          replace hop := Go.XK.Own.other hop ho hg56 (by decide)
          refine Go.XK.s (v := v56) (e_assign rfl) ?_
          refine sl_nil (nrm_k ?_)
          refine sc_reg ?_
          refine Go.XK.s (v := .int .i64 a) (e_move rfl) ?_
          refine Go.XK.s (v := .int .i64 (a + 1)) (e_add rfl rfl (by omega)) ?_
          refine Go.XK.s (v := .int .i64 (a + 1)) (e_assign rfl) ?_
          refine sl_nil ?_
          exact nrm_loopq rfl _ _ (by omega) ⟨a + 1, v56, out ++ [a], rfl, rfl, xw_w10, hbw, hop, ho56, ⟨⟨⟨by omega, by omega⟩, by simp; omega⟩, by rw [← hT, hq, asg_yes (by omega) c46 c52, Option.map_map, List.length_append, show m - (out.length + [a].length) = q by simp; omega]; congr 1; funext z; simp⟩⟩ (.cons rfl (.cons rfl (.cons rfl (.cons rfl (.nil)))))
        ·
          refine sc_skip (nrm_k ?_)
          refine sc_reg ?_
          refine Go.XK.s (v := .int .i64 a) (e_move rfl) ?_
          refine Go.XK.s (v := .int .i64 (a + 1)) (e_add rfl rfl (by omega)) ?_
          refine Go.XK.s (v := .int .i64 (a + 1)) (e_assign rfl) ?_
          refine sl_nil ?_
          exact nrm_loopq rfl _ _ (by omega) ⟨a + 1, v_, out, rfl, rfl, xw_w8, hbw, hop, ho, ⟨⟨⟨by omega, by omega⟩, by omega⟩, by rw [← hT, hq, asg_no (by omega) c46 c52]⟩⟩ (.cons rfl (.cons rfl (.cons rfl (.cons rfl (.nil)))))
    ·
      refine sc_exit rfl (nrm_k ?_)
      refine sc_seq ?_
      refine sc_reg ?_
      refine Go.XK.s (v := v_) (e_move rfl) ?_
      refine Go.XK.s (v := v_) (e_assign rfl) ?_
      refine Go.XK.s (v := .bool true) (e_assign rfl) ?_
      refine sl_nil (nrm_k ?_)
      refine sc_retf rfl (ret2 Try.results65 (rvt rfl) (rvt rfl) ?_)
      have hN : asgR start base ps m = some out := by rw [← hT, show m - out.length = 0 by omega, asg_zero]; simp
      exact ⟨v_, by rw [hN]; rfl, by rw [hN]; exact ho, xw_w6⟩

/-- (*masterdisc/packetwriter.Writer).Append (function 25) -/
theorem append_c (w0 : World) (b : Nat) (lv : Value) (start base : Int) (ps : List Pn) (bs : List (List UInt8)) (A : Option Addr) (c : Nat) (w : World) (hb0 : w0.heap.size ≤ b) (hx0 : Ext w0 w) (hbw : Blk w b 109 [.int .i64 start, .int .i64 base, lv]) (hop : Go.XK.Own w w0.heap.size 114 2 encP lv ps) (hwf : Wf start base ps) (hl : SlR w A c 1 encS bs) (hne : bs = [] ∨ ∀ ad, A = some ad → ad.block ≠ b ∧ lv.ownBlock ≠ some ad.block) (hbl : bs.length ≤ 1000000) : CallR Try.prog 25 [.pointer (some ⟨b, 0, none⟩), .slice A bs.length c] w (fun v w' => ∃ v1 lv', v = .tuple #[v1, .int .i64 (apR bs start base ps).1] ∧ Go.XK.Own w' w.heap.size 3 1 encI v1 (apR bs start base ps).2.1 ∧ Blk w' b 109 [.int .i64 start, .int .i64 base, lv'] ∧ Go.XK.Own w' w0.heap.size 114 2 encP lv' (apR bs start base ps).2.2 ∧ Fr2 w w' b lv lv' ∧ Ext w0 w') := by
  have hs0 := hwf.s0
  have hsb := hwf.sb
  have hb1 := hwf.b1
  have hlw := lastP_wf hwf
  have haw := atP_wf hwf
  have hpl := hwf.len
  have hfr := Fr2.rfl' w b lv
  refine callR_of (n := 45) [(0, .pointer (some ⟨b, 0, none⟩)), (1, .slice A bs.length c)] Try.func25 rfl rfl (Nat.le_of_ble_eq_true rfl) rfl ?_
  refine sc_seq ?_
  refine sc_reg ?_
  refine Go.XK.s (v := .slice none 0 0) (e_assign rfl) ?_
  refine Go.XK.s (v := .int .i64 0) (e_assign rfl) ?_
  refine sl_nil (nrm_k ?_)
  refine sc_seq ?_
  refine sc_seq ?_
  refine sc_reg ?_
  refine Go.XK.s (v := .slice A bs.length c) (e_move rfl) ?_
  refine sl_call ent60 rfl rfl (contains_c 64 ent64 bad64_c _ _ _ w (hl.ext (Ext.rfl' w))) (by decide) ?_
  rintro _ w1 ⟨rfl, hw1⟩
  have xw_w1 : Ext w w1 := Ext.tr (Ext.rfl' w) hw1
  have xw0_w1 : Ext w0 w1 := Ext.tr hx0 hw1
  replace hfr := Fr2.ext hfr hw1
  replace hbw := hbw.ext hw1
  replace hop := hop.ext hw1
  refine sl_nil (nrm_k ?_)
  refine sc_if rfl (fun c11 => ?_) (fun c11 => ?_)
  ·
    refine sc_seq ?_
    refine sc_reg ?_
    refine Go.XK.s (v := .slice none 0 0) (e_assign rfl) ?_
    refine Go.XK.s (v := .int .i64 1) (e_assign rfl) ?_
    refine sl_nil (nrm_k ?_)
    refine sc_retf rfl (ret2 Try.results25 (rvt rfl) (rvt rfl) ?_)
    exact ⟨.slice none 0 0, lv, by rw [apR_bad c11], by rw [apR_bad c11]; exact Go.XK.Own.nil _ _ _ _ _, hbw, by rw [apR_bad c11]; exact hop, hfr, xw0_w1⟩
  ·
    refine sc_skip (nrm_k ?_)
    refine sc_seq ?_
    refine sc_reg ?_
    refine Go.XK.s (v := .pointer (some ⟨b, 0, none⟩)) (e_move rfl) ?_
    refine Go.XK.s (v := .slice A bs.length c) (e_move rfl) ?_
    refine Go.XK.s (v := .int .i64 (bs.length : Int)) (e_len Try.underlying22 rfl) ?_
    refine sl_call ent65 rfl rfl (assign_c w0 _ _ _ _ _ bs.length w1 hb0 xw0_w1 hbw hop hwf (by omega)) (by decide) ?_
    rintro _ w2 ⟨vL, rfl, hoL, hw2⟩
    replace hoL := Own.low hoL (Below.size xw_w1)
    have xw_w2 : Ext w w2 := Ext.tr xw_w1 hw2
    have xw0_w2 : Ext w0 w2 := Ext.tr xw0_w1 hw2
    replace hfr := Fr2.ext hfr hw2
    replace hbw := hbw.ext hw2
    replace hop := hop.ext hw2
    refine Go.XK.s (v := .tuple #[vL, .bool ((asgR start base ps bs.length).isSome)]) (e_move rfl) ?_
    refine Go.XK.s (v := vL) (e_extract (vs := [vL, .bool ((asgR start base ps bs.length).isSome)]) rfl rfl) ?_
    refine Go.XK.s (v := .bool ((asgR start base ps bs.length).isSome)) (e_extract (vs := [vL, .bool ((asgR start base ps bs.length).isSome)]) rfl rfl) ?_
    refine Go.XK.s (v := vL) (e_assign rfl) ?_
    refine Go.XK.s (v := .bool ((asgR start base ps bs.length).isSome)) (e_assign rfl) ?_
    refine sl_nil (nrm_k ?_)
    refine sc_seq ?_
    refine sc_seq ?_
    refine sc_reg ?_
    refine Go.XK.s (v := .bool ((asgR start base ps bs.length).isSome)) (e_move rfl) ?_
    refine Go.XK.s (v := .bool (!((asgR start base ps bs.length).isSome))) (e_not rfl) ?_
    refine sl_nil (nrm_k ?_)
    refine sc_if rfl (fun c20 => ?_) (fun c20 => ?_)
    ·
      refine sc_seq ?_
      refine sc_reg ?_
      refine Go.XK.s (v := .slice none 0 0) (e_assign rfl) ?_
      refine Go.XK.s (v := .int .i64 12) (e_assign rfl) ?_
      refine sl_nil (nrm_k ?_)
      refine sc_retf rfl (ret2 Try.results25 (rvt rfl) (rvt rfl) ?_)
      have hN : asgR start base ps bs.length = none := by simpa using c20
      exact ⟨.slice none 0 0, lv, by rw [apR_none c11 hN], by rw [apR_none c11 hN]; exact Go.XK.Own.nil _ _ _ _ _, hbw, by rw [apR_none c11 hN]; exact hop, hfr, xw0_w2⟩
    ·
      obtain ⟨l, hlE⟩ := Option.isSome_iff_exists.1 (show (asgR start base ps bs.length).isSome = true by simpa using c20)
      obtain ⟨hll, hlm⟩ := asgR_mem hlE
      rw [hlE] at hoL
      have hoL : Go.XK.Own w2 w.heap.size 3 1 encI vL l := hoL
      refine sc_skip (nrm_k ?_)
      refine sc_seq ?_
      refine sc_seq ?_
      refine sc_reg ?_
      refine Go.XK.s (v := vL) (e_move rfl) ?_
      refine Go.XK.s (v := .int .i64 (l.length : Int)) (e_lenOwn Try.underlying38 rfl hoL (fun _ => rfl)) ?_
      refine Go.XK.s (v := .int .i64 0) (e_move rfl) ?_
      refine sl_nil (nrm_k ?_)
      refine sc_block ?_
      refine sc_loop (fun m_ l_ w_ => ∃ (i : Nat) (lv_ : Value), m_ = l.length - i ∧ l_ = [(23, .int .i64 (i : Int)), (0, .pointer (some ⟨b, 0, none⟩)), (1, .slice A bs.length c), (6, vL), (21, vL), (22, .int .i64 (l.length : Int))] ∧ Ext w0 w_ ∧ Blk w_ b 109 [.int .i64 start, .int .i64 base, lv_] ∧ Go.XK.Own w_ w.heap.size 3 1 encI vL l ∧ Go.XK.Own w_ w0.heap.size 114 2 encP lv_ (ps ++ appP (l.take i) (bs.take i)) ∧ i ≤ l.length ∧ Fr2 w w_ b lv lv_) _ [(23, .int .i64 (0 : Int)), (0, .pointer (some ⟨b, 0, none⟩)), (1, .slice A bs.length c), (6, vL), (21, vL), (22, .int .i64 (l.length : Int))] ⟨0, lv, rfl, rfl, xw0_w2, hbw, hoL, (by rw [List.take_zero, List.take_zero, show appP [] [] = [] from rfl, List.append_nil]; exact hop), ⟨by omega, hfr⟩⟩ (.cons rfl (.cons rfl (.cons rfl (.cons rfl (.cons rfl (.cons rfl (.nil))))))) ?_
      rintro j4 _ w3 ⟨i, lv_, rfl, rfl, xw0_w3, hbw, hoL, hop, ⟨hi, hfr⟩⟩
      refine sc_seq ?_
      refine sc_reg ?_
      refine Go.XK.s (v := .bool (decide ((i : Int) < (l.length : Int)))) (e_lt rfl rfl) ?_
      refine sl_nil (nrm_k ?_)
      refine sc_seq ?_
      refine sc_ifd rfl (fun c24 => ?_) (fun c24 => ?_)
      ·
        obtain ⟨x, hx⟩ : ∃ x, l[i]? = some x := ⟨_, List.getElem?_eq_getElem (by omega)⟩
        obtain ⟨y, hy⟩ : ∃ y, bs[i]? = some y := ⟨_, List.getElem?_eq_getElem (by omega)⟩
        refine sc_skip (nrm_k ?_)
        refine sc_seq ?_
        refine sc_block ?_
        refine sc_seq ?_
        refine sc_reg ?_
        refine Go.XK.s (v := .int .i64 (i : Int)) (e_move rfl) ?_
        refine Go.XK.s (v := .pointer (some (el (ownA vL) 1 (i : Int) 0))) (e_idxOwn (x0 := x) Try.underlying38 Try.sizeOf3 rfl rfl hoL (fun _ => rfl) hx (by omega)) ?_
        refine Go.XK.s (v := .int .i64 x) (e_ldEl (xs := l) (enc := encI) (e := x) rfl (Go.XK.Own.rd hoL (fun _ => rfl)) hx Try.isAgg3 rfl) ?_
        refine Go.XK.s (v := .int .i64 (i : Int)) (e_assign rfl) ?_
        refine Go.XK.s (v := .int .i64 x) (e_assign rfl) ?_
        refine sl_nil (nrm_k ?_)
        refine sc_late [(9, .int .i64 x), (8, .int .i64 (i : Int)), (27, .int .i64 x), (26, .pointer (some (el (ownA vL) 1 (i : Int) 0))), (25, .int .i64 (i : Int)), (24, .bool (decide ((i : Int) < (l.length : Int)))), (23, .int .i64 (i : Int)), (0, .pointer (some ⟨b, 0, none⟩)), (1, .slice A bs.length c), (6, vL), (21, vL), (22, .int .i64 (l.length : Int))] [28, 29, 30, 31, 32, 33, 34, 35, 36, 37, 38, 39] [(Is (.pointer (some ⟨b, 0, none⟩))), (Is (.pointer (some ⟨b, 0, none⟩))), (Is (.pointer (some ⟨b, 0, none⟩))), (Is (.pointer (some ⟨b, 2, none⟩))), (Is (lv_)), (Is (.int .i64 x)), (Is (.slice A bs.length c)), (Is (.int .i64 (i : Int))), (Is (.pointer (some (el A 1 (i : Int) 0)))), (Is (.string (B y))), (Is (.agg #[.int .i64 x, .string (B y)])), (fun VV WV => ∃ b_, VV = Value.slice (some ⟨b_, 0, none⟩) 1 1 ∧ Blk WV b_ 114 [.int .i64 x, .string (B y)])] [12, 13, 14, 15] [1, 2, 3, 4, 5, 6, 7, 8, 9, 10, 11] [0] (by kernel_rfl) (Sub.refl _) (by kernel_rfl) (by kernel_rfl) (by kernel_rfl) (by kernel_rfl) rfl (by kernel_rfl) (ds_ext (Stays.spec (.is _ (.is _ (.is _ (.is _ (.is _ (.is _ (.is _ (.is _ (.is _ (.is _ (.is _ (.any (fun _ _ _ ⟨b_, e_, h_⟩ hx_ => ⟨b_, e_, h_.ext hx_⟩) (.nil))))))))))))))) ⟨?_, ?_, ?_, ?_, ?_, ?_, ?_, ?_, ?_, ?_, ?_, trivial⟩ ⟨?_, trivial⟩ ?_
        · intro Q act_ wI hxI ha hp
          have xw0_wI : Ext w0 wI := Ext.tr xw0_w3 hxI
          replace hfr := Fr2.ext hfr hxI
          replace hbw := hbw.ext hxI
          replace hoL := hoL.ext hxI
          replace hop := hop.ext hxI
          exact h_evA (v := .pointer (some ⟨b, 0, none⟩)) ha rfl (e_move rfl) rfl rfl (Ext.rfl' _)
        · intro Q act_ wI hxI ha hp
          have xw0_wI : Ext w0 wI := Ext.tr xw0_w3 hxI
          replace hfr := Fr2.ext hfr hxI
          replace hbw := hbw.ext hxI
          replace hoL := hoL.ext hxI
          replace hop := hop.ext hxI
          have ha := ha.add (show act_.tmps.getD 29 undef = .pointer (some ⟨b, 0, none⟩) from hp 1 (by kernel_rfl) (by decide))
          exact h_evA (v := .pointer (some ⟨b, 0, none⟩)) ha rfl (e_nilCheck rfl) rfl rfl (Ext.rfl' _)
        · intro Q act_ wI hxI ha hp
          have xw0_wI : Ext w0 wI := Ext.tr xw0_w3 hxI
          replace hfr := Fr2.ext hfr hxI
          replace hbw := hbw.ext hxI
          replace hoL := hoL.ext hxI
          replace hop := hop.ext hxI
          have ha := ha.add (show act_.tmps.getD 30 undef = .pointer (some ⟨b, 0, none⟩) from hp 2 (by kernel_rfl) (by decide))
          exact h_evA (v := .pointer (some ⟨b, 2, none⟩)) ha rfl (e_fieldB (sz := 1) Try.underlying109 rfl Try.sizeOf107 (by decide) rfl rfl) rfl rfl (Ext.rfl' _)
        · intro Q act_ wI hxI ha hp
          have xw0_wI : Ext w0 wI := Ext.tr xw0_w3 hxI
          replace hfr := Fr2.ext hfr hxI
          replace hbw := hbw.ext hxI
          replace hoL := hoL.ext hxI
          replace hop := hop.ext hxI
          have ha := ha.add (show act_.tmps.getD 31 undef = .pointer (some ⟨b, 2, none⟩) from hp 3 (by kernel_rfl) (by decide))
          exact h_evA (v := lv_) ha rfl (e_load rfl (load1 Try.isAgg107 (hbw.cell (j := 2) rfl))) rfl rfl (Ext.rfl' _)
        · intro Q act_ wI hxI ha hp
          have xw0_wI : Ext w0 wI := Ext.tr xw0_w3 hxI
          replace hfr := Fr2.ext hfr hxI
          replace hbw := hbw.ext hxI
          replace hoL := hoL.ext hxI
          replace hop := hop.ext hxI
          exact h_evA (v := .int .i64 x) ha rfl (e_move rfl) rfl rfl (Ext.rfl' _)
        · intro Q act_ wI hxI ha hp
          have xw0_wI : Ext w0 wI := Ext.tr xw0_w3 hxI
          replace hfr := Fr2.ext hfr hxI
          replace hbw := hbw.ext hxI
          replace hoL := hoL.ext hxI
          replace hop := hop.ext hxI
          exact h_evA (v := .slice A bs.length c) ha rfl (e_move rfl) rfl rfl (Ext.rfl' _)
        · intro Q act_ wI hxI ha hp
          have xw0_wI : Ext w0 wI := Ext.tr xw0_w3 hxI
          replace hfr := Fr2.ext hfr hxI
          replace hbw := hbw.ext hxI
          replace hoL := hoL.ext hxI
          replace hop := hop.ext hxI
          exact h_evA (v := .int .i64 (i : Int)) ha rfl (e_move rfl) rfl rfl (Ext.rfl' _)
        · intro Q act_ wI hxI ha hp
          have xw0_wI : Ext w0 wI := Ext.tr xw0_w3 hxI
          replace hfr := Fr2.ext hfr hxI
          replace hbw := hbw.ext hxI
          replace hoL := hoL.ext hxI
          replace hop := hop.ext hxI
          have ha := ha.add (show act_.tmps.getD 34 undef = .slice A bs.length c from hp 6 (by kernel_rfl) (by decide))
          have ha := ha.add (show act_.tmps.getD 35 undef = .int .i64 (i : Int) from hp 7 (by kernel_rfl) (by decide))
          exact h_evA (v := .pointer (some (el A 1 (i : Int) 0))) ha rfl (e_idxEl (e := y) Try.underlying22 Try.sizeOf9 rfl rfl (Go.XK.Rd.fr2 hl.1 hfr hne) hy (by omega) rfl) rfl rfl (Ext.rfl' _)
        · intro Q act_ wI hxI ha hp
          have xw0_wI : Ext w0 wI := Ext.tr xw0_w3 hxI
          replace hfr := Fr2.ext hfr hxI
          replace hbw := hbw.ext hxI
          replace hoL := hoL.ext hxI
          replace hop := hop.ext hxI
          have ha := ha.add (show act_.tmps.getD 36 undef = .pointer (some (el A 1 (i : Int) 0)) from hp 8 (by kernel_rfl) (by decide))
          exact h_evA (v := .string (B y)) ha rfl (e_ldEl (xs := bs) (enc := encS) (e := y) rfl (Go.XK.Rd.fr2 hl.1 hfr hne) hy Try.isAgg9 rfl) rfl rfl (Ext.rfl' _)
        · intro Q act_ wI hxI ha hp
          have xw0_wI : Ext w0 wI := Ext.tr xw0_w3 hxI
          replace hfr := Fr2.ext hfr hxI
          replace hbw := hbw.ext hxI
          replace hoL := hoL.ext hxI
          replace hop := hop.ext hxI
          have ha := ha.add (show act_.tmps.getD 33 undef = .int .i64 x from hp 5 (by kernel_rfl) (by decide))
          have ha := ha.add (show act_.tmps.getD 37 undef = .string (B y) from hp 9 (by kernel_rfl) (by decide))
          exact h_evA (v := .agg #[.int .i64 x, .string (B y)]) ha rfl (e_build (vs := [(0, .int .i64 x), (1, .string (B y))]) rfl (by kernel_rfl)) rfl rfl (Ext.rfl' _)
        · intro Q act_ wI hxI ha hp
          have xw0_wI : Ext w0 wI := Ext.tr xw0_w3 hxI
          replace hfr := Fr2.ext hfr hxI
          replace hbw := hbw.ext hxI
          replace hoL := hoL.ext hxI
          replace hop := hop.ext hxI
          have ha := ha.add (show act_.tmps.getD 38 undef = .agg #[.int .i64 x, .string (B y)] from hp 10 (by kernel_rfl) (by decide))
          exact h_evA ha rfl (e_buildSlice (vs := [(0, .agg #[.int .i64 x, .string (B y)])]) (v := .slice (some ⟨wI.heap.size, 0, none⟩) 1 1) (w1 := wI.alloc (.cells ([.int .i64 x, .string (B y)] : List Value).toArray 114)) rfl (by kernel_rfl)) rfl ⟨_, rfl, Blk.new wI 114 [.int .i64 x, .string (B y)]⟩ (Ext.alloc _ _)
        · intro act_ wI hxI ha hp
          have xw0_wI : Ext w0 wI := Ext.tr xw0_w3 hxI
          replace hfr := Fr2.ext hfr hxI
          replace hbw := hbw.ext hxI
          replace hoL := hoL.ext hxI
          replace hop := hop.ext hxI
          exact l_ev (v := .pointer (some ⟨b, 0, none⟩)) ha rfl (fun _ => e_move rfl) rfl rfl
        intro vs_ w5 hx_w5 hvs act_ ha hv
        have xw0_w5 : Ext w0 w5 := Ext.tr xw0_w3 hx_w5
        replace hfr := Fr2.ext hfr hx_w5
        replace hbw := hbw.ext hx_w5
        replace hoL := hoL.ext hx_w5
        replace hop := hop.ext hx_w5
        have ha := ha.add ((hv 0 (by decide)).trans (show vs_ 0 = .pointer (some ⟨b, 0, none⟩) from hvs 0 (by decide)))
        have ha := ha.add ((hv 4 (by decide)).trans (show vs_ 4 = lv_ from hvs 4 (by decide)))
        obtain ⟨b39, e39, hb39⟩ := (show ∃ b_, vs_ 11 = Value.slice (some ⟨b_, 0, none⟩) 1 1 ∧ Blk w5 b_ 114 [.int .i64 x, .string (B y)] from hvs 11 (by decide))
        have ha := ha.add ((hv 11 (by decide)).trans e39)
        refine st_go ha ?_
        clear ha hv hvs
        refine st_appendLit2 (w0 := w0) (z := .agg #[.int .i64 0, .string (B [])]) (kk := 2) (bytes := 24) rfl rfl rfl Try.underlying107 (by kernel_rfl) rfl (by decide) (fun _ => rfl) one_encP [⟨x, y⟩] hop xw0_w5 hb39 rfl rfl (by first | (simp only [maxLen]; simp [appP]; omega) | (simp [appP]; omega)) (by first | (simp only [maxLen]; simp [appP]; omega) | (simp [appP]; omega)) ?_
        intro v40 w6 ho40 xw_w6 hg40 hat40
        replace hfr := Fr2.grow hfr hg40 hat40
        replace hbw := hbw.grown hg40 (Own.ne hop hbw (by decide))
        replace hoL := Go.XK.Own.other hoL hop hg40 (by decide)
        refine st_ev (v := .pointer (some ⟨b, 0, none⟩)) rfl (e_nilCheck rfl) ?_
        refine st_ev (v := .pointer (some ⟨b, 2, none⟩)) rfl (e_fieldB (sz := 1) Try.underlying109 rfl Try.sizeOf107 (by decide) rfl rfl) ?_
        refine st_blkV [v40] [.int .i64 start, .int .i64 base, v40] rfl rfl rfl hbw (own_cells ho40).1 Try.sizeOf107 (Nat.le_of_ble_eq_true rfl) (own_cells ho40).2 rfl ?_
        intro w7 hn_ hm_w7 hs_w7
        have ho_ := hbw
        replace hbw := hn_
        clear hn_
        replace hoL := hoL.mut hm_w7 (Own.ne hoL ho_ (by decide))
        replace ho40 := ho40.mut hm_w7 (Own.ne ho40 ho_ (by decide))
        replace hfr := Fr2.mut hfr hm_w7 (.inl rfl)
        have xw0_w7 : Ext w0 w7 := below_mut xw_w6 (Below.size xw_w6) hm_w7 hb0
        refine st_nil (nrm_k ?_)
        refine sc_reg ?_
        refine Go.XK.s (v := .int .i64 ((i : Int) + 1)) (e_add rfl rfl (by omega)) ?_
        refine Go.XK.s (v := .int .i64 ((i : Int) + 1)) (e_move rfl) ?_
        refine sl_nil ?_
        rw [List.append_assoc, ← app_take hx hy] at ho40
        exact nrm_loopq rfl _ _ (by omega) ⟨i + 1, v40, rfl, rfl, xw0_w7, hbw, hoL, ho40, ⟨by omega, hfr⟩⟩ (.cons rfl (.cons rfl (.cons rfl (.cons rfl (.cons rfl (.cons rfl (.nil)))))))
      ·
        refine sc_exit rfl (nrm_k ?_)
        refine sc_seq ?_
        refine sc_reg ?_
        refine Go.XK.s (v := vL) (e_move rfl) ?_
        refine Go.XK.s (v := vL) (e_assign rfl) ?_
        refine Go.XK.s (v := .int .i64 0) (e_assign rfl) ?_
        refine sl_nil (nrm_k ?_)
        refine sc_retf rfl (ret2 Try.results25 (rvt rfl) (rvt rfl) ?_)
        rw [List.take_of_length_le (show l.length ≤ i by omega), List.take_of_length_le (show bs.length ≤ i by omega)] at hop
        exact ⟨vL, lv_, by rw [apR_some c11 hlE], by rw [apR_some c11 hlE]; exact hoL, hbw, by rw [apR_some c11 hlE]; exact hop, hfr, xw0_w3⟩

end Go.Proofs.Ytfcjianiodiejaa
