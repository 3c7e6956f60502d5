/- Chapter 52: C9. Printed by my program wip/tools/wk.py. -/
import Derived.Test.YtfcjianiodiejaaC8
set_option linter.unusedVariables false
set_option linter.unusedSimpArgs false
set_option maxRecDepth 4000
set_option maxHeartbeats 4000000
namespace Go.Proofs.Ytfcjianiodiejaa
open Go.XK Go.RowKit
/-- (*masterdisc/packetwriter.Writer).Flush (function 27) -/
theorem flush_c (w0 : World) (b : Nat) (lv : Value) (start base : Int) (ps : List Pn) (c : List UInt8) (w : World) (hb0 : w0.heap.size ≤ b) (hx0 : Ext w0 w) (hbw : Blk w b 109 [.int .i64 start, .int .i64 base, lv]) (hop : Go.XK.Own w w0.heap.size 114 2 encP lv ps) (hwf : Wf start base ps) : CallR Try.prog 27 [.pointer (some ⟨b, 0, none⟩), .string (B c)] w (fun v w' => ∃ v1 lv' ws, v = .tuple #[v1, .int .i64 (flR c start base ps).1] ∧ Go.XK.Own w' w.heap.size 49 4 encW v1 ws ∧ Inn w' ws ∧ ws.map core = (flR c start base ps).2.1 ∧ Blk w' b 109 [.int .i64 start, .int .i64 (flR c start base ps).2.2.1, lv'] ∧ Go.XK.Own w' w0.heap.size 114 2 encP lv' (flR c start base ps).2.2.2 ∧ Fr2 w w' b lv lv' ∧ Ext w0 w') := by
  have hs0 := hwf.s0
  have hsb := hwf.sb
  have hb1 := hwf.b1
  have hlw := lastP_wf hwf
  have haw := atP_wf hwf
  have hpl := hwf.len
  have hfr := Fr2.rfl' w b lv
  obtain ⟨hct1, hct2, hct3, hct4, hct5⟩ := ctl_facts hwf
  refine callR_of (n := 117) [(0, .pointer (some ⟨b, 0, none⟩)), (1, .string (B c))] Try.func27 rfl rfl (Nat.le_of_ble_eq_true rfl) rfl ?_
  refine sc_seq ?_
  refine sc_reg ?_
  refine Go.XK.s (v := .slice none 0 0) (e_assign rfl) ?_
  refine Go.XK.s (v := .int .i64 0) (e_assign rfl) ?_
  refine sl_nil (nrm_k ?_)
  refine sc_seq ?_
  refine sc_reg ?_
  refine Go.XK.s (v := .pointer (some ⟨b, 0, none⟩)) (e_move rfl) ?_
  refine sl_call ent26 rfl rfl (control_c w0 _ _ _ _ _ w hb0 hx0 hbw hop hwf) (by decide) ?_
  rintro _ w1 ⟨rfl, hw1⟩
  have xw_w1 : Ext w w1 := Ext.tr (Ext.rfl' w) hw1
  have xw0_w1 : Ext w0 w1 := Ext.tr hx0 hw1
  replace hfr := Fr2.ext hfr hw1
  replace hbw := hbw.ext hw1
  replace hop := hop.ext hw1
  refine Go.XK.s (v := .int .i64 ((ctlP start base ps) + 1)) (e_add rfl rfl (by omega)) ?_
  refine Go.XK.s (v := .int .i64 ((ctlP start base ps) + 1)) (e_assign rfl) ?_
  refine sl_nil (nrm_k ?_)
  refine sc_seq ?_
  refine sc_block ?_
  refine sc_seq ?_
  refine sc_reg ?_
  refine Go.XK.s (v := .string (B c)) (e_move rfl) ?_
  refine Go.XK.s (v := .bool (decide (c ≠ []))) (e_sne rfl rfl) ?_
  refine Go.XK.s (v := .bool (decide (c ≠ []))) (e_move rfl) ?_
  refine sl_merge 4 22 (.bool ((decide (c ≠ [])) && (decide ((c.length : Int) ≠ 2048)))) ?_ ?_
  · refine sl_case (t := 18) rfl (fun g2_2 => ?_) (fun g2_2 => ?_)
    ·
      refine sl_gev (v := .string (B c)) rfl rfl g2_2 (e_move rfl) rfl (by decide) ?_
      refine sl_gev (v := .int .i64 (c.length : Int)) rfl rfl g2_2 (e_slen Try.underlying9 rfl) rfl (by decide) ?_
      refine sl_gev (v := .bool (decide ((c.length : Int) ≠ 2048))) rfl rfl g2_2 (e_ne rfl rfl) rfl (by decide) ?_
      refine Go.XK.s (v := .bool (decide ((c.length : Int) ≠ 2048))) (e_pickT rfl g2_2 rfl) ?_
      exact sl_nil (fun a ha => ⟨rfl, ha.sub (.cons (by rw [g2_2]; rfl) (sub_self_cons (sub_self_cons (sub_self_cons (sub_self_cons (Sub.refl _) rfl) rfl) rfl) rfl))⟩)
    ·
      refine sl_gskip rfl rfl g2_2 (by decide) ?_
      refine sl_gskip rfl rfl g2_2 (by decide) ?_
      refine sl_gskip rfl rfl g2_2 (by decide) ?_
      refine Go.XK.s (v := .bool false) (e_pickF rfl g2_2 rfl) ?_
      exact sl_nil (fun a ha => ⟨rfl, ha.sub (.cons (by rw [g2_2]; rfl) (sub_self_cons (sub_self_cons (sub_self_cons (sub_self_cons (Sub.refl _) rfl) rfl) rfl) rfl))⟩)
  refine Go.XK.s (v := .bool ((decide (c ≠ [])) && (decide ((c.length : Int) ≠ 2048)))) (e_assign rfl) ?_
  refine sl_nil (nrm_k ?_)
  refine sc_if rfl (fun c15 => ?_) (fun c15 => ?_)
  ·
    refine sc_seq ?_
    refine sc_reg ?_
    refine Go.XK.s (v := .slice none 0 0) (e_assign rfl) ?_
    refine Go.XK.s (v := .int .i64 1) (e_assign rfl) ?_
    refine sl_nil (nrm_k ?_)
    refine sc_retf rfl (ret2 Try.results27 (rvt rfl) (rvt rfl) ?_)
    have hF : flR c start base ps = (1, [], base, ps) := by rw [flR, if_pos c15]
    exact ⟨.slice none 0 0, lv, [], by rw [hF], Go.XK.Own.nil _ _ _ _ _, (fun _ h_ => by cases h_), by rw [hF]; rfl, by rw [hF]; exact hbw, by rw [hF]; exact hop, hfr, xw0_w1⟩
  ·
    refine sc_seq ?_
    refine sc_reg ?_
    refine Go.XK.s (v := .pointer (some ⟨b, 0, none⟩)) (e_move rfl) ?_
    refine sl_call ent39 rfl rfl (open_c w0 _ _ _ _ _ w1 hb0 xw0_w1 hbw hop hwf) (by decide) ?_
    rintro vO w2 ⟨hoO, hw2⟩
    replace hoO := Own.low hoO (Below.size xw_w1)
    have xw_w2 : Ext w w2 := Ext.tr xw_w1 hw2
    have xw0_w2 : Ext w0 w2 := Ext.tr xw0_w1 hw2
    replace hfr := Fr2.ext hfr hw2
    replace hbw := hbw.ext hw2
    replace hop := hop.ext hw2
    refine Go.XK.s (v := .int .i64 ((opnL ps).length : Int)) (e_lenOwn Try.underlying38 rfl hoO (fun _ => rfl)) ?_
    refine Go.XK.s (v := .bool (decide ((0 : Int) < ((opnL ps).length : Int)))) (e_gt rfl rfl) ?_
    refine Go.XK.s (v := .bool (decide ((0 : Int) < ((opnL ps).length : Int)))) (e_assign rfl) ?_
    refine sl_nil (nrm_k ?_)
    refine sc_ifd rfl (fun c23 => ?_) (fun c23 => ?_)
    ·
      refine sc_seq ?_
      refine sc_reg ?_
      refine Go.XK.s (v := .slice none 0 0) (e_assign rfl) ?_
      refine Go.XK.s (v := .int .i64 8) (e_assign rfl) ?_
      refine sl_nil (nrm_k ?_)
      refine sc_retf rfl (ret2 Try.results27 (rvt rfl) (rvt rfl) ?_)
      have hF : flR c start base ps = (8, [], base, ps) := by rw [flR, if_neg (by rw [c15]; decide), if_pos c23]
      exact ⟨.slice none 0 0, lv, [], by rw [hF], Go.XK.Own.nil _ _ _ _ _, (fun _ h_ => by cases h_), by rw [hF]; rfl, by rw [hF]; exact hbw, by rw [hF]; exact hop, hfr, xw0_w2⟩
    ·
      refine sc_seq ?_
      refine sc_reg ?_
      refine Go.XK.s (v := .pointer (some ⟨b, 0, none⟩)) (e_move rfl) ?_
      refine Go.XK.s (v := .pointer (some ⟨b, 0, none⟩)) (e_nilCheck rfl) ?_
      refine Go.XK.s (v := .pointer (some ⟨b, 2, none⟩)) (e_fieldB (sz := 1) Try.underlying109 rfl Try.sizeOf107 (by decide) rfl rfl) ?_
      refine Go.XK.s (v := lv) (e_load rfl (load1 Try.isAgg107 (hbw.cell (j := 2) rfl))) ?_
      refine Go.XK.s (v := .int .i64 (ps.length : Int)) (e_lenOwn Try.underlying107 rfl hop (fun _ => rfl)) ?_
      refine Go.XK.s (v := .bool (decide ((ps.length : Int) = 0))) (e_eq rfl rfl) ?_
      refine Go.XK.s (v := .bool (decide ((ps.length : Int) = 0))) (e_move rfl) ?_
      refine sl_merge 3 38 (.bool ((decide ((ps.length : Int) = 0)) && (decide (c = [])))) ?_ ?_
      · refine sl_case (t := 35) rfl (fun g6_6 => ?_) (fun g6_6 => ?_)
        ·
          refine sl_gev (v := .string (B c)) rfl rfl g6_6 (e_move rfl) rfl (by decide) ?_
          refine sl_gev (v := .bool (decide (c = []))) rfl rfl g6_6 (e_seq rfl rfl) rfl (by decide) ?_
          refine Go.XK.s (v := .bool (decide (c = []))) (e_pickT rfl g6_6 rfl) ?_
          exact sl_nil (fun a ha => ⟨rfl, ha.sub (.cons (by rw [g6_6]; rfl) (sub_self_cons (sub_self_cons (sub_self_cons (Sub.refl _) rfl) rfl) rfl))⟩)
        ·
          refine sl_gskip rfl rfl g6_6 (by decide) ?_
          refine sl_gskip rfl rfl g6_6 (by decide) ?_
          refine Go.XK.s (v := .bool false) (e_pickF rfl g6_6 rfl) ?_
          exact sl_nil (fun a ha => ⟨rfl, ha.sub (.cons (by rw [g6_6]; rfl) (sub_self_cons (sub_self_cons (sub_self_cons (Sub.refl _) rfl) rfl) rfl))⟩)
      refine Go.XK.s (v := .bool ((decide ((ps.length : Int) = 0)) && (decide (c = [])))) (e_assign rfl) ?_
      refine sl_nil (nrm_k ?_)
      refine sc_if rfl (fun c28 => ?_) (fun c28 => ?_)
      ·
        refine sc_seq ?_
        refine sc_reg ?_
        refine Go.XK.s (v := .slice none 0 0) (e_assign rfl) ?_
        refine Go.XK.s (v := .int .i64 0) (e_assign rfl) ?_
        refine sl_nil (nrm_k ?_)
        refine sc_retf rfl (ret2 Try.results27 (rvt rfl) (rvt rfl) ?_)
        have hF : flR c start base ps = (0, [], base, ps) := by rw [flR, if_neg (by rw [c15]; decide), if_neg c23, if_pos c28]
        exact ⟨.slice none 0 0, lv, [], by rw [hF], Go.XK.Own.nil _ _ _ _ _, (fun _ h_ => by cases h_), by rw [hF]; rfl, by rw [hF]; exact hbw, by rw [hF]; exact hop, hfr, xw0_w2⟩
      ·
        refine sc_seq ?_
        refine sc_reg ?_
        refine Go.XK.s (v := .int .i64 ((ctlP start base ps) + 1)) (e_move rfl) ?_
        refine Go.XK.s (v := .bool (decide ((4096 : Int) < (ctlP start base ps) + 1))) (e_gt rfl rfl) ?_
        refine Go.XK.s (v := .bool (decide ((4096 : Int) < (ctlP start base ps) + 1))) (e_assign rfl) ?_
        refine sl_nil (nrm_k ?_)
        refine sc_ifd rfl (fun c39 => ?_) (fun c39 => ?_)
        ·
          refine sc_seq ?_
          refine sc_reg ?_
          refine Go.XK.s (v := .slice none 0 0) (e_assign rfl) ?_
          refine Go.XK.s (v := .int .i64 12) (e_assign rfl) ?_
          refine sl_nil (nrm_k ?_)
          refine sc_retf rfl (ret2 Try.results27 (rvt rfl) (rvt rfl) ?_)
          have hF : flR c start base ps = (12, [], base, ps) := by rw [flR, if_neg (by rw [c15]; decide), if_neg c23, if_neg (by rw [c28]; decide), if_pos c39]
          exact ⟨.slice none 0 0, lv, [], by rw [hF], Go.XK.Own.nil _ _ _ _ _, (fun _ h_ => by cases h_), by rw [hF]; rfl, by rw [hF]; exact hbw, by rw [hF]; exact hop, hfr, xw0_w2⟩
        ·
          refine sc_skip (nrm_k ?_)
          refine sc_seq ?_
          obtain ⟨K, hK⟩ : ∃ K : Nat, ctlP start base ps + 1 - base = ((8 * K : Nat) : Int) := ⟨((ctlP start base ps + 1 - base) / 8).toNat, by omega⟩
          have hK0 : 0 < K := by omega
          have hKz : (ctlP start base ps + 1 - base).toNat = 8 * K := by omega
          have hKd : (ctlP start base ps + 1 - base).toNat / 8 = K := by omega
          refine sc_free [(39, .bool (decide ((4096 : Int) < (ctlP start base ps) + 1))), (41, .bool (decide ((4096 : Int) < (ctlP start base ps) + 1))), (40, .int .i64 ((ctlP start base ps) + 1)), (28, .bool ((decide ((ps.length : Int) = 0)) && (decide (c = [])))), (38, .bool ((decide ((ps.length : Int) = 0)) && (decide (c = [])))), (35, .bool (decide ((ps.length : Int) = 0))), (34, .bool (decide ((ps.length : Int) = 0))), (33, .int .i64 (ps.length : Int)), (32, lv), (31, .pointer (some ⟨b, 2, none⟩)), (30, .pointer (some ⟨b, 0, none⟩)), (29, .pointer (some ⟨b, 0, none⟩)), (23, .bool (decide ((0 : Int) < ((opnL ps).length : Int)))), (27, .bool (decide ((0 : Int) < ((opnL ps).length : Int)))), (26, .int .i64 ((opnL ps).length : Int)), (25, vO), (24, .pointer (some ⟨b, 0, none⟩)), (15, .bool ((decide (c ≠ [])) && (decide ((c.length : Int) ≠ 2048)))), (22, .bool ((decide (c ≠ [])) && (decide ((c.length : Int) ≠ 2048)))), (18, .bool (decide (c ≠ []))), (17, .bool (decide (c ≠ []))), (16, .string (B c)), (6, .int .i64 ((ctlP start base ps) + 1)), (14, .int .i64 ((ctlP start base ps) + 1)), (13, .int .i64 (ctlP start base ps)), (12, .pointer (some ⟨b, 0, none⟩)), (5, .int .i64 0), (4, .slice none 0 0), (0, .pointer (some ⟨b, 0, none⟩)), (1, .string (B c))] [42, 43, 44, 45, 46, 47, 48, 49] [(Is (.string (B (Lib.repeatL [0] 2048)))), (fun VV WV => ∃ b_, VV = Value.slice (some ⟨b_, 0, none⟩) 1 1 ∧ Blk WV b_ 9 [.string (B (Lib.repeatL [0] 2048))]), (Is (.int .i64 ((ctlP start base ps) + 1))), (Is (.pointer (some ⟨b, 0, none⟩))), (Is (.pointer (some ⟨b, 0, none⟩))), (Is (.pointer (some ⟨b, 1, none⟩))), (Is (.int .i64 base)), (Is (.int .i64 ((8 * K : Nat) : Int)))] [8, 9] (by kernel_rfl) (Sub.refl _) (by kernel_rfl) (by kernel_rfl) (by kernel_rfl) rfl (by kernel_rfl) (ds_ext (Stays.spec (.is _ (.any (fun _ _ _ ⟨b_, e_, h_⟩ hx_ => ⟨b_, e_, h_.ext hx_⟩) (.is _ (.is _ (.is _ (.is _ (.is _ (.is _ (.nil))))))))))) ⟨?_, ?_, ?_, ?_, ?_, ?_, ?_, ?_, trivial⟩ ?_
          · intro Q act_ wI hxI ha hp
            have xw_wI : Ext w wI := Ext.tr xw_w2 hxI
            have xw0_wI : Ext w0 wI := Ext.tr xw0_w2 hxI
            replace hfr := Fr2.ext hfr hxI
            replace hbw := hbw.ext hxI
            replace hop := hop.ext hxI
            replace hoO := hoO.ext hxI
            exact h_callA ha ent63 rfl rfl rfl (rep_c [0] 2048 wI (by decide) (by simp)) rfl (by rintro _ w1 ⟨rfl, hR⟩; exact ⟨rfl, hR⟩)
          · intro Q act_ wI hxI ha hp
            have xw_wI : Ext w wI := Ext.tr xw_w2 hxI
            have xw0_wI : Ext w0 wI := Ext.tr xw0_w2 hxI
            replace hfr := Fr2.ext hfr hxI
            replace hbw := hbw.ext hxI
            replace hop := hop.ext hxI
            replace hoO := hoO.ext hxI
            have ha := ha.add (show act_.tmps.getD 42 undef = .string (B (Lib.repeatL [0] 2048)) from hp 0 (by kernel_rfl) (by decide))
            exact h_evA ha rfl (e_buildSlice (vs := [(0, .string (B (Lib.repeatL [0] 2048)))]) (v := .slice (some ⟨wI.heap.size, 0, none⟩) 1 1) (w1 := wI.alloc (.cells ([.string (B (Lib.repeatL [0] 2048))] : List Value).toArray 9)) rfl (by kernel_rfl)) rfl ⟨_, rfl, Blk.new wI 9 [.string (B (Lib.repeatL [0] 2048))]⟩ (Ext.alloc _ _)
          · intro Q act_ wI hxI ha hp
            have xw_wI : Ext w wI := Ext.tr xw_w2 hxI
            have xw0_wI : Ext w0 wI := Ext.tr xw0_w2 hxI
            replace hfr := Fr2.ext hfr hxI
            replace hbw := hbw.ext hxI
            replace hop := hop.ext hxI
            replace hoO := hoO.ext hxI
            exact h_evA (v := .int .i64 ((ctlP start base ps) + 1)) ha rfl (e_move rfl) rfl rfl (Ext.rfl' _)
          · intro Q act_ wI hxI ha hp
            have xw_wI : Ext w wI := Ext.tr xw_w2 hxI
            have xw0_wI : Ext w0 wI := Ext.tr xw0_w2 hxI
            replace hfr := Fr2.ext hfr hxI
            replace hbw := hbw.ext hxI
            replace hop := hop.ext hxI
            replace hoO := hoO.ext hxI
            exact h_evA (v := .pointer (some ⟨b, 0, none⟩)) ha rfl (e_move rfl) rfl rfl (Ext.rfl' _)
          · intro Q act_ wI hxI ha hp
            have xw_wI : Ext w wI := Ext.tr xw_w2 hxI
            have xw0_wI : Ext w0 wI := Ext.tr xw0_w2 hxI
            replace hfr := Fr2.ext hfr hxI
            replace hbw := hbw.ext hxI
            replace hop := hop.ext hxI
            replace hoO := hoO.ext hxI
            have ha := ha.add (show act_.tmps.getD 45 undef = .pointer (some ⟨b, 0, none⟩) from hp 3 (by kernel_rfl) (by decide))
            exact h_evA (v := .pointer (some ⟨b, 0, none⟩)) ha rfl (e_nilCheck rfl) rfl rfl (Ext.rfl' _)
          · intro Q act_ wI hxI ha hp
            have xw_wI : Ext w wI := Ext.tr xw_w2 hxI
            have xw0_wI : Ext w0 wI := Ext.tr xw0_w2 hxI
            replace hfr := Fr2.ext hfr hxI
            replace hbw := hbw.ext hxI
            replace hop := hop.ext hxI
            replace hoO := hoO.ext hxI
            have ha := ha.add (show act_.tmps.getD 46 undef = .pointer (some ⟨b, 0, none⟩) from hp 4 (by kernel_rfl) (by decide))
            exact h_evA (v := .pointer (some ⟨b, 1, none⟩)) ha rfl (e_fieldB (sz := 1) Try.underlying109 rfl Try.sizeOf3 (by decide) rfl rfl) rfl rfl (Ext.rfl' _)
          · intro Q act_ wI hxI ha hp
            have xw_wI : Ext w wI := Ext.tr xw_w2 hxI
            have xw0_wI : Ext w0 wI := Ext.tr xw0_w2 hxI
            replace hfr := Fr2.ext hfr hxI
            replace hbw := hbw.ext hxI
            replace hop := hop.ext hxI
            replace hoO := hoO.ext hxI
            have ha := ha.add (show act_.tmps.getD 47 undef = .pointer (some ⟨b, 1, none⟩) from hp 5 (by kernel_rfl) (by decide))
            exact h_evA (v := .int .i64 base) ha rfl (e_load rfl (load1 Try.isAgg3 (hbw.cell (j := 1) rfl))) rfl rfl (Ext.rfl' _)
          · intro Q act_ wI hxI ha hp
            have xw_wI : Ext w wI := Ext.tr xw_w2 hxI
            have xw0_wI : Ext w0 wI := Ext.tr xw0_w2 hxI
            replace hfr := Fr2.ext hfr hxI
            replace hbw := hbw.ext hxI
            replace hop := hop.ext hxI
            replace hoO := hoO.ext hxI
            have ha := ha.add (show act_.tmps.getD 44 undef = .int .i64 ((ctlP start base ps) + 1) from hp 2 (by kernel_rfl) (by decide))
            have ha := ha.add (show act_.tmps.getD 48 undef = .int .i64 base from hp 6 (by kernel_rfl) (by decide))
            exact h_evA (v := .int .i64 ((8 * K : Nat) : Int)) ha rfl (hK ▸ e_sub rfl rfl (by omega)) rfl rfl (Ext.rfl' _)
          intro vs_ w3 hx_w3 hvs act_ ha hv
          have xw_w3 : Ext w w3 := Ext.tr xw_w2 hx_w3
          have xw0_w3 : Ext w0 w3 := Ext.tr xw0_w2 hx_w3
          replace hfr := Fr2.ext hfr hx_w3
          replace hbw := hbw.ext hx_w3
          replace hop := hop.ext hx_w3
          replace hoO := hoO.ext hx_w3
          obtain ⟨b43, e43, hb43⟩ := (show ∃ b_, vs_ 1 = Value.slice (some ⟨b_, 0, none⟩) 1 1 ∧ Blk w3 b_ 9 [.string (B (Lib.repeatL [0] 2048))] from hvs 1 (by decide))
          have ha := ha.add ((hv 1 (by decide)).trans e43)
          have ha := ha.add ((hv 7 (by decide)).trans (show vs_ 7 = .int .i64 ((8 * K : Nat) : Int) from hvs 7 (by decide)))
          refine st_go ha ?_
          clear ha hv hvs
          refine st_call rfl ent56 rfl rfl (repeat_c (Lib.repeatL [0] 2048) ⟨b43, 0, none⟩ 1 (8 * K) w3 ⟨Rd.ofBlk (xs := [Lib.repeatL [0] 2048]) hb43 (fun _ => rfl), by simp, by decide, fun h_ => by cases h_⟩ (by omega) (by omega)) (by decide) ?_
          rintro vB w4 ⟨hoB, hw4⟩
          replace hoB := Own.low hoB (Below.size xw_w3)
          have xw_w4 : Ext w w4 := Ext.tr xw_w3 hw4
          have xw0_w4 : Ext w0 w4 := Ext.tr xw0_w3 hw4
          replace hfr := Fr2.ext hfr hw4
          replace hbw := hbw.ext hw4
          replace hb43 := hb43.ext hw4
          replace hop := hop.ext hw4
          replace hoO := hoO.ext hw4
          refine st_ev (v := vB) rfl (e_assign rfl) ?_
          refine st_nil (nrm_k ?_)
          refine sc_seq ?_
          refine sc_seq ?_
          refine sc_reg ?_
          refine Go.XK.s (v := .pointer (some ⟨b, 0, none⟩)) (e_move rfl) ?_
          refine Go.XK.s (v := .pointer (some ⟨b, 0, none⟩)) (e_nilCheck rfl) ?_
          refine Go.XK.s (v := .pointer (some ⟨b, 2, none⟩)) (e_fieldB (sz := 1) Try.underlying109 rfl Try.sizeOf107 (by decide) rfl rfl) ?_
          refine Go.XK.s (v := lv) (e_load rfl (load1 Try.isAgg107 (hbw.cell (j := 2) rfl))) ?_
          refine Go.XK.s (v := .int .i64 (ps.length : Int)) (e_lenOwn Try.underlying107 rfl hop (fun _ => rfl)) ?_
          refine Go.XK.s (v := .int .i64 0) (e_move rfl) ?_
          refine sl_nil (nrm_k ?_)
          refine sc_block ?_
          refine sc_loop (fun m_ l_ w_ => ∃ (i : Nat) (L_ : Img), m_ = ps.length - i ∧ l_ = [(56, .int .i64 (i : Int)), (7, vB), (0, .pointer (some ⟨b, 0, none⟩)), (1, .string (B c)), (6, .int .i64 ((ctlP start base ps) + 1)), (54, lv), (55, .int .i64 (ps.length : Int))] ∧ Ext w w_ ∧ Ext w0 w_ ∧ Blk w_ b 109 [.int .i64 start, .int .i64 base, lv] ∧ Go.XK.Own w_ w0.heap.size 114 2 encP lv ps ∧ Go.XK.Own w_ w.heap.size 3 1 encI vO (opnL ps) ∧ Go.XK.Own w_ w.heap.size 9 1 encS vB L_ ∧ (i ≤ ps.length ∧ L_.length = 8 * K) ∧ L_ = setL base (ps.take i) (List.replicate (8 * K) zB) ∧ Fr2 w w_ b lv lv) _ [(56, .int .i64 (0 : Int)), (7, vB), (0, .pointer (some ⟨b, 0, none⟩)), (1, .string (B c)), (6, .int .i64 ((ctlP start base ps) + 1)), (54, lv), (55, .int .i64 (ps.length : Int))] ⟨0, List.replicate (8 * K) zB, rfl, rfl, xw_w4, xw0_w4, hbw, hop, hoO, hoB, ⟨⟨by omega, List.length_replicate⟩, rfl, hfr⟩⟩ (.cons rfl (.cons rfl (.cons rfl (.cons rfl (.cons rfl (.cons rfl (.cons rfl (.nil)))))))) ?_
          rintro j6 _ w5 ⟨i, L_, rfl, rfl, xw_w5, xw0_w5, hbw, hop, hoO, hoB, ⟨⟨hi, hLl⟩, hLs, hfr⟩⟩
          refine sc_seq ?_
          refine sc_reg ?_
          refine Go.XK.s (v := .bool (decide ((i : Int) < (ps.length : Int)))) (e_lt rfl rfl) ?_
          refine sl_nil (nrm_k ?_)
          refine sc_seq ?_
          refine sc_ifd rfl (fun c57 => ?_) (fun c57 => ?_)
          ·
            obtain ⟨x, hx⟩ : ∃ x, ps[i]? = some x := ⟨_, List.getElem?_eq_getElem (by omega)⟩
            have hxp := hwf.pp x (List.mem_of_getElem? hx)
            have hxc := hct5 x (List.mem_of_getElem? hx)
            obtain ⟨y0, hy0⟩ : ∃ y0, L_[(x.p - base).toNat]? = some y0 := ⟨_, List.getElem?_eq_getElem (by omega)⟩
            refine sc_skip (nrm_k ?_)
            refine sc_seq ?_
            refine sc_block ?_
            refine sc_seq ?_
            refine sc_reg ?_
            refine Go.XK.s (v := .pointer (some (el (ownA lv) 2 (i : Int) 0))) (e_idxOwn (x0 := x) Try.underlying107 Try.sizeOf114 rfl rfl hop (fun _ => rfl) hx (by omega)) ?_
            refine Go.XK.s (v := .agg #[.int .i64 x.p, .string (B x.b)]) (e_ldElA (xs := ps) (enc := encP) (e := x) rfl (Go.XK.Own.rd hop (fun _ => rfl)) hx Try.isAgg114 Try.sizeOf114 rfl) ?_
            refine s_alloc (cs := [.int .i64 0, .string (B [])]) Try.zeroValue114 rfl ?_
            intro b9 w7 hb9 he9 hs9 hx9
            have ne_b9_b : b9 ≠ b := by have h_ := hbw.lt; omega
            have no_b9_hop : Value.ownBlock lv ≠ some b9 := fun h_ => by have h2_ := (Go.XK.Own.lt hop _ h_).2; omega
            have no_b9_hoO : Value.ownBlock vO ≠ some b9 := fun h_ => by have h2_ := (Go.XK.Own.lt hoO _ h_).2; omega
            have no_b9_hoB : Value.ownBlock vB ≠ some b9 := fun h_ => by have h2_ := (Go.XK.Own.lt hoB _ h_).2; omega
            have ge_b9 : w.heap.size ≤ b9 := by have h_ := (Below.size xw_w5); omega
            have gew0_b9 : w0.heap.size ≤ b9 := by have h_ := (Below.size xw0_w5); omega
            have xw_w7 : Ext w w7 := Ext.tr xw_w5 hx9
            have xw0_w7 : Ext w0 w7 := Ext.tr xw0_w5 hx9
            replace hfr := Fr2.ext hfr hx9
            replace hbw := hbw.ext hx9
            replace hop := hop.ext hx9
            replace hoO := hoO.ext hx9
            replace hoB := hoB.ext hx9
            refine su_blkV [.int .i64 x.p, .string (B x.b)] [.int .i64 x.p, .string (B x.b)] rfl rfl hb9 rfl Try.sizeOf114 (Nat.le_of_ble_eq_true rfl) rfl rfl ?_
            intro w8 hn_ hm_w8 hs_w8
            have ho_ := hb9
            replace hb9 := hn_
            clear hn_
            replace hbw := hbw.mut hm_w8 (Ne.symm ne_b9_b)
            replace hop := hop.mut hm_w8 no_b9_hop
            replace hoO := hoO.mut hm_w8 no_b9_hoO
            replace hoB := hoB.mut hm_w8 no_b9_hoB
            replace hfr := Fr2.mut hfr hm_w8 (.inr ge_b9)
            have xw_w8 : Ext w w8 := below_mut xw_w7 (Below.size xw_w7) hm_w8 ge_b9
            have xw0_w8 : Ext w0 w8 := below_mut xw0_w7 (Below.size xw0_w7) hm_w8 gew0_b9
            refine sl_nil (nrm_k ?_)
            refine sc_free [(9, .pointer (some ⟨b9, 0, none⟩)), (59, .agg #[.int .i64 x.p, .string (B x.b)]), (58, .pointer (some (el (ownA lv) 2 (i : Int) 0))), (57, .bool (decide ((i : Int) < (ps.length : Int)))), (56, .int .i64 (i : Int)), (7, vB), (0, .pointer (some ⟨b, 0, none⟩)), (1, .string (B c)), (6, .int .i64 ((ctlP start base ps) + 1)), (54, lv), (55, .int .i64 (ps.length : Int))] [60, 61, 62, 63, 64, 65, 66, 67, 68, 69] [(Is (vB)), (Is (.pointer (some ⟨b9, 0, none⟩))), (Is (.int .i64 x.p)), (Is (.pointer (some ⟨b, 0, none⟩))), (Is (.pointer (some ⟨b, 0, none⟩))), (Is (.pointer (some ⟨b, 1, none⟩))), (Is (.int .i64 base)), (Is (.int .i64 (x.p - base))), (Is (.pointer (some ⟨b9, 1, none⟩))), (Is (.string (B x.b)))] [10, 11] (by kernel_rfl) (Sub.refl _) (by kernel_rfl) (by kernel_rfl) (by kernel_rfl) rfl (by kernel_rfl) (ds_ext (Stays.spec (.is _ (.is _ (.is _ (.is _ (.is _ (.is _ (.is _ (.is _ (.is _ (.is _ (.nil))))))))))))) ⟨?_, ?_, ?_, ?_, ?_, ?_, ?_, ?_, ?_, ?_, trivial⟩ ?_
            · intro Q act_ wI hxI ha hp
              have xw_wI : Ext w wI := Ext.tr xw_w8 hxI
              have xw0_wI : Ext w0 wI := Ext.tr xw0_w8 hxI
              replace hfr := Fr2.ext hfr hxI
              replace hbw := hbw.ext hxI
              replace hb9 := hb9.ext hxI
              replace hop := hop.ext hxI
              replace hoO := hoO.ext hxI
              replace hoB := hoB.ext hxI
              exact h_evA (v := vB) ha rfl (e_move rfl) rfl rfl (Ext.rfl' _)
            · intro Q act_ wI hxI ha hp
              have xw_wI : Ext w wI := Ext.tr xw_w8 hxI
              have xw0_wI : Ext w0 wI := Ext.tr xw0_w8 hxI
              replace hfr := Fr2.ext hfr hxI
              replace hbw := hbw.ext hxI
              replace hb9 := hb9.ext hxI
              replace hop := hop.ext hxI
              replace hoO := hoO.ext hxI
              replace hoB := hoB.ext hxI
              exact h_evA (v := .pointer (some ⟨b9, 0, none⟩)) ha rfl (e_fieldB (sz := 1) Try.underlying114 rfl Try.sizeOf3 (by decide) rfl rfl) rfl rfl (Ext.rfl' _)
            · intro Q act_ wI hxI ha hp
              have xw_wI : Ext w wI := Ext.tr xw_w8 hxI
              have xw0_wI : Ext w0 wI := Ext.tr xw0_w8 hxI
              replace hfr := Fr2.ext hfr hxI
              replace hbw := hbw.ext hxI
              replace hb9 := hb9.ext hxI
              replace hop := hop.ext hxI
              replace hoO := hoO.ext hxI
              replace hoB := hoB.ext hxI
              have ha := ha.add (show act_.tmps.getD 61 undef = .pointer (some ⟨b9, 0, none⟩) from hp 1 (by kernel_rfl) (by decide))
              exact h_evA (v := .int .i64 x.p) ha rfl (e_load rfl (load1 Try.isAgg3 (hb9.cell (j := 0) rfl))) rfl rfl (Ext.rfl' _)
            · intro Q act_ wI hxI ha hp
              have xw_wI : Ext w wI := Ext.tr xw_w8 hxI
              have xw0_wI : Ext w0 wI := Ext.tr xw0_w8 hxI
              replace hfr := Fr2.ext hfr hxI
              replace hbw := hbw.ext hxI
              replace hb9 := hb9.ext hxI
              replace hop := hop.ext hxI
              replace hoO := hoO.ext hxI
              replace hoB := hoB.ext hxI
              exact h_evA (v := .pointer (some ⟨b, 0, none⟩)) ha rfl (e_move rfl) rfl rfl (Ext.rfl' _)
            · intro Q act_ wI hxI ha hp
              have xw_wI : Ext w wI := Ext.tr xw_w8 hxI
              have xw0_wI : Ext w0 wI := Ext.tr xw0_w8 hxI
              replace hfr := Fr2.ext hfr hxI
              replace hbw := hbw.ext hxI
              replace hb9 := hb9.ext hxI
              replace hop := hop.ext hxI
              replace hoO := hoO.ext hxI
              replace hoB := hoB.ext hxI
              have ha := ha.add (show act_.tmps.getD 63 undef = .pointer (some ⟨b, 0, none⟩) from hp 3 (by kernel_rfl) (by decide))
              exact h_evA (v := .pointer (some ⟨b, 0, none⟩)) ha rfl (e_nilCheck rfl) rfl rfl (Ext.rfl' _)
            · intro Q act_ wI hxI ha hp
              have xw_wI : Ext w wI := Ext.tr xw_w8 hxI
              have xw0_wI : Ext w0 wI := Ext.tr xw0_w8 hxI
              replace hfr := Fr2.ext hfr hxI
              replace hbw := hbw.ext hxI
              replace hb9 := hb9.ext hxI
              replace hop := hop.ext hxI
              replace hoO := hoO.ext hxI
              replace hoB := hoB.ext hxI
              have ha := ha.add (show act_.tmps.getD 64 undef = .pointer (some ⟨b, 0, none⟩) from hp 4 (by kernel_rfl) (by decide))
              exact h_evA (v := .pointer (some ⟨b, 1, none⟩)) ha rfl (e_fieldB (sz := 1) Try.underlying109 rfl Try.sizeOf3 (by decide) rfl rfl) rfl rfl (Ext.rfl' _)
            · intro Q act_ wI hxI ha hp
              have xw_wI : Ext w wI := Ext.tr xw_w8 hxI
              have xw0_wI : Ext w0 wI := Ext.tr xw0_w8 hxI
              replace hfr := Fr2.ext hfr hxI
              replace hbw := hbw.ext hxI
              replace hb9 := hb9.ext hxI
              replace hop := hop.ext hxI
              replace hoO := hoO.ext hxI
              replace hoB := hoB.ext hxI
              have ha := ha.add (show act_.tmps.getD 65 undef = .pointer (some ⟨b, 1, none⟩) from hp 5 (by kernel_rfl) (by decide))
              exact h_evA (v := .int .i64 base) ha rfl (e_load rfl (load1 Try.isAgg3 (hbw.cell (j := 1) rfl))) rfl rfl (Ext.rfl' _)
            · intro Q act_ wI hxI ha hp
              have xw_wI : Ext w wI := Ext.tr xw_w8 hxI
              have xw0_wI : Ext w0 wI := Ext.tr xw0_w8 hxI
              replace hfr := Fr2.ext hfr hxI
              replace hbw := hbw.ext hxI
              replace hb9 := hb9.ext hxI
              replace hop := hop.ext hxI
              replace hoO := hoO.ext hxI
              replace hoB := hoB.ext hxI
              have ha := ha.add (show act_.tmps.getD 62 undef = .int .i64 x.p from hp 2 (by kernel_rfl) (by decide))
              have ha := ha.add (show act_.tmps.getD 66 undef = .int .i64 base from hp 6 (by kernel_rfl) (by decide))
              exact h_evA (v := .int .i64 (x.p - base)) ha rfl (e_sub rfl rfl (by omega)) rfl rfl (Ext.rfl' _)
            · intro Q act_ wI hxI ha hp
              have xw_wI : Ext w wI := Ext.tr xw_w8 hxI
              have xw0_wI : Ext w0 wI := Ext.tr xw0_w8 hxI
              replace hfr := Fr2.ext hfr hxI
              replace hbw := hbw.ext hxI
              replace hb9 := hb9.ext hxI
              replace hop := hop.ext hxI
              replace hoO := hoO.ext hxI
              replace hoB := hoB.ext hxI
              exact h_evA (v := .pointer (some ⟨b9, 1, none⟩)) ha rfl (e_fieldB (sz := 1) Try.underlying114 rfl Try.sizeOf9 (by decide) rfl rfl) rfl rfl (Ext.rfl' _)
            · intro Q act_ wI hxI ha hp
              have xw_wI : Ext w wI := Ext.tr xw_w8 hxI
              have xw0_wI : Ext w0 wI := Ext.tr xw0_w8 hxI
              replace hfr := Fr2.ext hfr hxI
              replace hbw := hbw.ext hxI
              replace hb9 := hb9.ext hxI
              replace hop := hop.ext hxI
              replace hoO := hoO.ext hxI
              replace hoB := hoB.ext hxI
              have ha := ha.add (show act_.tmps.getD 68 undef = .pointer (some ⟨b9, 1, none⟩) from hp 8 (by kernel_rfl) (by decide))
              exact h_evA (v := .string (B x.b)) ha rfl (e_load rfl (load1 Try.isAgg9 (hb9.cell (j := 1) rfl))) rfl rfl (Ext.rfl' _)
            intro vs_ w9 hx_w9 hvs act_ ha hv
            have xw_w9 : Ext w w9 := Ext.tr xw_w8 hx_w9
            have xw0_w9 : Ext w0 w9 := Ext.tr xw0_w8 hx_w9
            replace hfr := Fr2.ext hfr hx_w9
            replace hbw := hbw.ext hx_w9
            replace hb9 := hb9.ext hx_w9
            replace hop := hop.ext hx_w9
            replace hoO := hoO.ext hx_w9
            replace hoB := hoB.ext hx_w9
            have ha := ha.add ((hv 0 (by decide)).trans (show vs_ 0 = vB from hvs 0 (by decide)))
            have ha := ha.add ((hv 7 (by decide)).trans (show vs_ 7 = .int .i64 (x.p - base) from hvs 7 (by decide)))
            have ha := ha.add ((hv 9 (by decide)).trans (show vs_ 9 = .string (B x.b) from hvs 9 (by decide)))
            refine st_go ha ?_
            clear ha hv hvs
            refine st_ev (v := .pointer (some (el (ownA vB) 1 (x.p - base) 0))) rfl (e_idxOwn (x0 := y0) Try.underlying22 Try.sizeOf9 rfl rfl hoB (fun _ => rfl) hy0 (by omega)) ?_
            refine st_ownSet (w0 := w) (x0 := y0) (v := vB) x.b rfl rfl rfl hoB xw_w9 (fun _ => rfl) hy0 (by decide) rfl rfl Try.sizeOf9 rfl ?_
            intro w10 hn_ xw_w10 hg_w10
            have ho_ := hoB
            replace hfr := Fr2.own hfr ho_ hg_w10
            replace hbw := hbw.grown hg_w10 (Own.ne ho_ hbw (by decide))
            replace hb9 := hb9.grown hg_w10 (Own.ne ho_ hb9 (by decide))
            replace hop := Go.XK.Own.other hop ho_ hg_w10 (by decide)
            replace hoO := Go.XK.Own.other hoO ho_ hg_w10 (by decide)
            have xw0_w10 : Ext w0 w10 := Ext.grown xw0_w9 (Own.low ho_ (Below.size hx0)) hg_w10
            replace hoB := hn_
            clear hn_ ho_
            refine st_nil (nrm_k ?_)
            refine sc_reg ?_
            refine Go.XK.s (v := .int .i64 ((i : Int) + 1)) (e_add rfl rfl (by omega)) ?_
            refine Go.XK.s (v := .int .i64 ((i : Int) + 1)) (e_move rfl) ?_
            refine sl_nil ?_
            exact nrm_loopq rfl _ _ (by omega) ⟨i + 1, L_.set (x.p - base).toNat x.b, rfl, rfl, xw_w10, xw0_w10, hbw, hop, hoO, hoB, ⟨⟨by omega, by rw [List.length_set]; exact hLl⟩, by rw [setL_snoc hx, ← hLs], hfr⟩⟩ (.cons rfl (.cons rfl (.cons rfl (.cons rfl (.cons rfl (.cons rfl (.cons rfl (.nil))))))))
          ·
            refine sc_exit rfl (nrm_k ?_)
            refine sc_seq ?_
            refine sc_seq ?_
            refine sc_reg ?_
            refine Go.XK.s (v := .string (B c)) (e_move rfl) ?_
            refine Go.XK.s (v := .bool (decide (c ≠ []))) (e_sne rfl rfl) ?_
            refine sl_nil (nrm_k ?_)
            refine sc_ifd rfl (fun c73 => ?_) (fun c73 => ?_)
            ·
              obtain ⟨y0, hy0⟩ : ∃ y0, L_[((L_.length : Int) - 1).toNat]? = some y0 := ⟨_, List.getElem?_eq_getElem (by omega)⟩
              refine sc_reg ?_
              refine Go.XK.s (v := vB) (e_move rfl) ?_
              refine Go.XK.s (v := vB) (e_move rfl) ?_
              refine Go.XK.s (v := .int .i64 (L_.length : Int)) (e_lenOwn Try.underlying22 rfl hoB (fun _ => rfl)) ?_
              refine Go.XK.s (v := .int .i64 ((L_.length : Int) - 1)) (e_sub rfl rfl (by omega)) ?_
              refine Go.XK.s (v := .string (B c)) (e_move rfl) ?_
              refine Go.XK.s (v := .pointer (some (el (ownA vB) 1 ((L_.length : Int) - 1) 0))) (e_idxOwn (x0 := y0) Try.underlying22 Try.sizeOf9 rfl rfl hoB (fun _ => rfl) hy0 (by omega)) ?_
              refine su_ownSet (w0 := w) (x0 := y0) (v := vB) c rfl rfl hoB xw_w5 (fun _ => rfl) hy0 (by decide) rfl rfl Try.sizeOf9 rfl ?_
              intro w11 hn_ xw_w11 hg_w11
              have ho_ := hoB
              replace hfr := Fr2.own hfr ho_ hg_w11
              replace hbw := hbw.grown hg_w11 (Own.ne ho_ hbw (by decide))
              replace hop := Go.XK.Own.other hop ho_ hg_w11 (by decide)
              replace hoO := Go.XK.Own.other hoO ho_ hg_w11 (by decide)
              have xw0_w11 : Ext w0 w11 := Ext.grown xw0_w5 (Own.low ho_ (Below.size hx0)) hg_w11
              replace hoB := hn_
              clear hn_ ho_
              refine sl_nil (nrm_k ?_)
              refine sc_seq ?_
              obtain ⟨L, hL⟩ : ∃ L, L = L_.set ((L_.length : Int) - 1).toNat c := ⟨_, rfl⟩
              have hLc : L = ctlL c L_ := by rw [hL, ctlL]; first | (rw [if_neg c73, show ((L_.length : Int) - 1).toNat = L_.length - 1 by omega]) | (rw [if_pos (Classical.not_not.1 c73)])
              have hLL : L.length = 8 * K := by rw [hLc, ctlL_length]; exact hLl
              rw [← hL] at hoB
              refine sc_reg ?_
              refine Go.XK.s (v := .slice none 0 0) (e_assign rfl) ?_
              refine sl_nil (nrm_k ?_)
              refine sc_seq ?_
              refine sc_seq ?_
              refine sc_reg ?_
              refine Go.XK.s (v := .int .i64 0) (e_assign rfl) ?_
              refine sl_nil (nrm_k ?_)
              refine sc_block ?_
              refine sc_loop (fun m_ l_ w_ => ∃ (i n : Nat) (v_ : Value) (ws_ : List Wr), m_ = 8 * K - i ∧ l_ = [(11, .int .i64 (i : Int)), (10, v_), (0, .pointer (some ⟨b, 0, none⟩)), (1, .string (B c)), (6, .int .i64 ((ctlP start base ps) + 1)), (7, vB)] ∧ Ext w w_ ∧ Ext w0 w_ ∧ Blk w_ b 109 [.int .i64 start, .int .i64 base, lv] ∧ Go.XK.Own w_ w0.heap.size 114 2 encP lv ps ∧ Go.XK.Own w_ w.heap.size 3 1 encI vO (opnL ps) ∧ Go.XK.Own w_ w.heap.size 9 1 encS vB L ∧ Go.XK.Own w_ w.heap.size 49 4 encW v_ ws_ ∧ (i = 8 * n ∧ n ≤ K) ∧ ws_ = wsL base L (ownA vB) n ∧ Fr2 w w_ b lv lv) _ [(11, .int .i64 (0 : Int)), (10, (.slice none 0 0)), (0, .pointer (some ⟨b, 0, none⟩)), (1, .string (B c)), (6, .int .i64 ((ctlP start base ps) + 1)), (7, vB)] ⟨0, 0, .slice none 0 0, [], rfl, rfl, xw_w11, xw0_w11, hbw, hop, hoO, hoB, (Go.XK.Own.nil _ _ _ _ _), ⟨⟨by omega, by omega⟩, rfl, hfr⟩⟩ (.cons rfl (.cons rfl (.cons rfl (.cons rfl (.cons rfl (.cons rfl (.nil))))))) ?_
              rintro j13 _ w12 ⟨i, n, v_, ws_, rfl, rfl, xw_w12, xw0_w12, hbw, hop, hoO, hoB, hoW, ⟨⟨hin, hnK⟩, hws, hfr⟩⟩
              refine sc_seq ?_
              refine sc_seq ?_
              refine sc_reg ?_
              refine Go.XK.s (v := .int .i64 (i : Int)) (e_move rfl) ?_
              refine Go.XK.s (v := vB) (e_move rfl) ?_
              refine Go.XK.s (v := .int .i64 (L.length : Int)) (e_lenOwn Try.underlying22 rfl hoB (fun _ => rfl)) ?_
              refine Go.XK.s (v := .bool (decide ((i : Int) < (L.length : Int)))) (e_lt rfl rfl) ?_
              refine sl_nil (nrm_k ?_)
              refine sc_ifd rfl (fun c83 => ?_) (fun c83 => ?_)
              ·
                refine sc_skip (nrm_k ?_)
                refine sc_seq ?_
                refine sc_block ?_
                have hnl : ws_.length = n := by rw [hws, wsL_length]
                refine sc_free [(83, .bool (decide ((i : Int) < (L.length : Int)))), (82, .int .i64 (L.length : Int)), (81, vB), (80, .int .i64 (i : Int)), (11, .int .i64 (i : Int)), (10, v_), (0, .pointer (some ⟨b, 0, none⟩)), (1, .string (B c)), (6, .int .i64 ((ctlP start base ps) + 1)), (7, vB)] [86, 87, 88, 89, 90, 91, 92, 93, 94, 95, 96, 97, 98, 99, 100, 101] [(Is (v_)), (Is (.pointer (some ⟨b, 0, none⟩))), (Is (.pointer (some ⟨b, 0, none⟩))), (Is (.pointer (some ⟨b, 1, none⟩))), (Is (.int .i64 base)), (Is (.int .i64 (i : Int))), (Is (.int .i64 (base + (i : Int)))), (Is (vB)), (Is (.int .i64 (i : Int))), (Is (.int .i64 (i : Int))), (Is (.int .i64 ((i : Int) + 8))), (Is (.int .i64 (i : Int))), (Is (.int .i64 ((i : Int) + 8))), (Is (.slice ((ownA vB).map (·.add (i * 1))) ((L.take (i + 8)).drop i).length 8)), (Is (.agg #[.int .i64 (base + (i : Int)), .slice ((ownA vB).map (·.add (i * 1))) ((L.take (i + 8)).drop i).length 8, .bool false, .bool false])), (fun VV WV => ∃ b_, VV = Value.slice (some ⟨b_, 0, none⟩) 1 1 ∧ Blk WV b_ 49 [.int .i64 (base + (i : Int)), .slice ((ownA vB).map (·.add (i * 1))) ((L.take (i + 8)).drop i).length 8, .bool false, .bool false])] [16, 17] (by kernel_rfl) (Sub.refl _) (by kernel_rfl) (by kernel_rfl) (by kernel_rfl) rfl (by kernel_rfl) (ds_ext (Stays.spec (.is _ (.is _ (.is _ (.is _ (.is _ (.is _ (.is _ (.is _ (.is _ (.is _ (.is _ (.is _ (.is _ (.is _ (.is _ (.any (fun _ _ _ ⟨b_, e_, h_⟩ hx_ => ⟨b_, e_, h_.ext hx_⟩) (.nil))))))))))))))))))) ⟨?_, ?_, ?_, ?_, ?_, ?_, ?_, ?_, ?_, ?_, ?_, ?_, ?_, ?_, ?_, ?_, trivial⟩ ?_
                · intro Q act_ wI hxI ha hp
                  have xw_wI : Ext w wI := Ext.tr xw_w12 hxI
                  have xw0_wI : Ext w0 wI := Ext.tr xw0_w12 hxI
                  replace hfr := Fr2.ext hfr hxI
                  replace hbw := hbw.ext hxI
                  replace hop := hop.ext hxI
                  replace hoO := hoO.ext hxI
                  replace hoB := hoB.ext hxI
                  replace hoW := hoW.ext hxI
                  exact h_evA (v := v_) ha rfl (e_move rfl) rfl rfl (Ext.rfl' _)
                · intro Q act_ wI hxI ha hp
                  have xw_wI : Ext w wI := Ext.tr xw_w12 hxI
                  have xw0_wI : Ext w0 wI := Ext.tr xw0_w12 hxI
                  replace hfr := Fr2.ext hfr hxI
                  replace hbw := hbw.ext hxI
                  replace hop := hop.ext hxI
                  replace hoO := hoO.ext hxI
                  replace hoB := hoB.ext hxI
                  replace hoW := hoW.ext hxI
                  exact h_evA (v := .pointer (some ⟨b, 0, none⟩)) ha rfl (e_move rfl) rfl rfl (Ext.rfl' _)
                · intro Q act_ wI hxI ha hp
                  have xw_wI : Ext w wI := Ext.tr xw_w12 hxI
                  have xw0_wI : Ext w0 wI := Ext.tr xw0_w12 hxI
                  replace hfr := Fr2.ext hfr hxI
                  replace hbw := hbw.ext hxI
                  replace hop := hop.ext hxI
                  replace hoO := hoO.ext hxI
                  replace hoB := hoB.ext hxI
                  replace hoW := hoW.ext hxI
                  have ha := ha.add (show act_.tmps.getD 87 undef = .pointer (some ⟨b, 0, none⟩) from hp 1 (by kernel_rfl) (by decide))
                  exact h_evA (v := .pointer (some ⟨b, 0, none⟩)) ha rfl (e_nilCheck rfl) rfl rfl (Ext.rfl' _)
                · intro Q act_ wI hxI ha hp
                  have xw_wI : Ext w wI := Ext.tr xw_w12 hxI
                  have xw0_wI : Ext w0 wI := Ext.tr xw0_w12 hxI
                  replace hfr := Fr2.ext hfr hxI
                  replace hbw := hbw.ext hxI
                  replace hop := hop.ext hxI
                  replace hoO := hoO.ext hxI
                  replace hoB := hoB.ext hxI
                  replace hoW := hoW.ext hxI
                  have ha := ha.add (show act_.tmps.getD 88 undef = .pointer (some ⟨b, 0, none⟩) from hp 2 (by kernel_rfl) (by decide))
                  exact h_evA (v := .pointer (some ⟨b, 1, none⟩)) ha rfl (e_fieldB (sz := 1) Try.underlying109 rfl Try.sizeOf3 (by decide) rfl rfl) rfl rfl (Ext.rfl' _)
                · intro Q act_ wI hxI ha hp
                  have xw_wI : Ext w wI := Ext.tr xw_w12 hxI
                  have xw0_wI : Ext w0 wI := Ext.tr xw0_w12 hxI
                  replace hfr := Fr2.ext hfr hxI
                  replace hbw := hbw.ext hxI
                  replace hop := hop.ext hxI
                  replace hoO := hoO.ext hxI
                  replace hoB := hoB.ext hxI
                  replace hoW := hoW.ext hxI
                  have ha := ha.add (show act_.tmps.getD 89 undef = .pointer (some ⟨b, 1, none⟩) from hp 3 (by kernel_rfl) (by decide))
                  exact h_evA (v := .int .i64 base) ha rfl (e_load rfl (load1 Try.isAgg3 (hbw.cell (j := 1) rfl))) rfl rfl (Ext.rfl' _)
                · intro Q act_ wI hxI ha hp
                  have xw_wI : Ext w wI := Ext.tr xw_w12 hxI
                  have xw0_wI : Ext w0 wI := Ext.tr xw0_w12 hxI
                  replace hfr := Fr2.ext hfr hxI
                  replace hbw := hbw.ext hxI
                  replace hop := hop.ext hxI
                  replace hoO := hoO.ext hxI
                  replace hoB := hoB.ext hxI
                  replace hoW := hoW.ext hxI
                  exact h_evA (v := .int .i64 (i : Int)) ha rfl (e_move rfl) rfl rfl (Ext.rfl' _)
                · intro Q act_ wI hxI ha hp
                  have xw_wI : Ext w wI := Ext.tr xw_w12 hxI
                  have xw0_wI : Ext w0 wI := Ext.tr xw0_w12 hxI
                  replace hfr := Fr2.ext hfr hxI
                  replace hbw := hbw.ext hxI
                  replace hop := hop.ext hxI
                  replace hoO := hoO.ext hxI
                  replace hoB := hoB.ext hxI
                  replace hoW := hoW.ext hxI
                  have ha := ha.add (show act_.tmps.getD 90 undef = .int .i64 base from hp 4 (by kernel_rfl) (by decide))
                  have ha := ha.add (show act_.tmps.getD 91 undef = .int .i64 (i : Int) from hp 5 (by kernel_rfl) (by decide))
                  exact h_evA (v := .int .i64 (base + (i : Int))) ha rfl (e_add rfl rfl (by omega)) rfl rfl (Ext.rfl' _)
                · intro Q act_ wI hxI ha hp
                  have xw_wI : Ext w wI := Ext.tr xw_w12 hxI
                  have xw0_wI : Ext w0 wI := Ext.tr xw0_w12 hxI
                  replace hfr := Fr2.ext hfr hxI
                  replace hbw := hbw.ext hxI
                  replace hop := hop.ext hxI
                  replace hoO := hoO.ext hxI
                  replace hoB := hoB.ext hxI
                  replace hoW := hoW.ext hxI
                  exact h_evA (v := vB) ha rfl (e_move rfl) rfl rfl (Ext.rfl' _)
                · intro Q act_ wI hxI ha hp
                  have xw_wI : Ext w wI := Ext.tr xw_w12 hxI
                  have xw0_wI : Ext w0 wI := Ext.tr xw0_w12 hxI
                  replace hfr := Fr2.ext hfr hxI
                  replace hbw := hbw.ext hxI
                  replace hop := hop.ext hxI
                  replace hoO := hoO.ext hxI
                  replace hoB := hoB.ext hxI
                  replace hoW := hoW.ext hxI
                  exact h_evA (v := .int .i64 (i : Int)) ha rfl (e_move rfl) rfl rfl (Ext.rfl' _)
                · intro Q act_ wI hxI ha hp
                  have xw_wI : Ext w wI := Ext.tr xw_w12 hxI
                  have xw0_wI : Ext w0 wI := Ext.tr xw0_w12 hxI
                  replace hfr := Fr2.ext hfr hxI
                  replace hbw := hbw.ext hxI
                  replace hop := hop.ext hxI
                  replace hoO := hoO.ext hxI
                  replace hoB := hoB.ext hxI
                  replace hoW := hoW.ext hxI
                  exact h_evA (v := .int .i64 (i : Int)) ha rfl (e_move rfl) rfl rfl (Ext.rfl' _)
                · intro Q act_ wI hxI ha hp
                  have xw_wI : Ext w wI := Ext.tr xw_w12 hxI
                  have xw0_wI : Ext w0 wI := Ext.tr xw0_w12 hxI
                  replace hfr := Fr2.ext hfr hxI
                  replace hbw := hbw.ext hxI
                  replace hop := hop.ext hxI
                  replace hoO := hoO.ext hxI
                  replace hoB := hoB.ext hxI
                  replace hoW := hoW.ext hxI
                  have ha := ha.add (show act_.tmps.getD 95 undef = .int .i64 (i : Int) from hp 9 (by kernel_rfl) (by decide))
                  exact h_evA (v := .int .i64 ((i : Int) + 8)) ha rfl (e_add rfl rfl (by omega)) rfl rfl (Ext.rfl' _)
                · intro Q act_ wI hxI ha hp
                  have xw_wI : Ext w wI := Ext.tr xw_w12 hxI
                  have xw0_wI : Ext w0 wI := Ext.tr xw0_w12 hxI
                  replace hfr := Fr2.ext hfr hxI
                  replace hbw := hbw.ext hxI
                  replace hop := hop.ext hxI
                  replace hoO := hoO.ext hxI
                  replace hoB := hoB.ext hxI
                  replace hoW := hoW.ext hxI
                  exact h_evA (v := .int .i64 (i : Int)) ha rfl (e_move rfl) rfl rfl (Ext.rfl' _)
                · intro Q act_ wI hxI ha hp
                  have xw_wI : Ext w wI := Ext.tr xw_w12 hxI
                  have xw0_wI : Ext w0 wI := Ext.tr xw0_w12 hxI
                  replace hfr := Fr2.ext hfr hxI
                  replace hbw := hbw.ext hxI
                  replace hop := hop.ext hxI
                  replace hoO := hoO.ext hxI
                  replace hoB := hoB.ext hxI
                  replace hoW := hoW.ext hxI
                  have ha := ha.add (show act_.tmps.getD 97 undef = .int .i64 (i : Int) from hp 11 (by kernel_rfl) (by decide))
                  exact h_evA (v := .int .i64 ((i : Int) + 8)) ha rfl (e_add rfl rfl (by omega)) rfl rfl (Ext.rfl' _)
                · intro Q act_ wI hxI ha hp
                  have xw_wI : Ext w wI := Ext.tr xw_w12 hxI
                  have xw0_wI : Ext w0 wI := Ext.tr xw0_w12 hxI
                  replace hfr := Fr2.ext hfr hxI
                  replace hbw := hbw.ext hxI
                  replace hop := hop.ext hxI
                  replace hoO := hoO.ext hxI
                  replace hoB := hoB.ext hxI
                  replace hoW := hoW.ext hxI
                  have ha := ha.add (show act_.tmps.getD 93 undef = vB from hp 7 (by kernel_rfl) (by decide))
                  have ha := ha.add (show act_.tmps.getD 94 undef = .int .i64 (i : Int) from hp 8 (by kernel_rfl) (by decide))
                  have ha := ha.add (show act_.tmps.getD 96 undef = .int .i64 ((i : Int) + 8) from hp 10 (by kernel_rfl) (by decide))
                  have ha := ha.add (show act_.tmps.getD 98 undef = .int .i64 ((i : Int) + 8) from hp 12 (by kernel_rfl) (by decide))
                  exact h_evA (v := .slice ((ownA vB).map (·.add (i * 1))) ((L.take (i + 8)).drop i).length 8) ha rfl (e_sl3x i (i + 8) (i + 8) ((L.take (i + 8)).drop i).length 8 Try.underlying22 Try.sizeOf9 (by rw [show vB = _ from Go.XK.Own.val hoB]; rfl) rfl rfl rfl rfl (by omega) (by omega) (by omega) (by omega) (by have h_ := (Go.XK.Own.slr hoB (fun _ => rfl)).2.1; omega) (by omega) (by simp; omega) (by omega)) rfl rfl (Ext.rfl' _)
                · intro Q act_ wI hxI ha hp
                  have xw_wI : Ext w wI := Ext.tr xw_w12 hxI
                  have xw0_wI : Ext w0 wI := Ext.tr xw0_w12 hxI
                  replace hfr := Fr2.ext hfr hxI
                  replace hbw := hbw.ext hxI
                  replace hop := hop.ext hxI
                  replace hoO := hoO.ext hxI
                  replace hoB := hoB.ext hxI
                  replace hoW := hoW.ext hxI
                  have ha := ha.add (show act_.tmps.getD 92 undef = .int .i64 (base + (i : Int)) from hp 6 (by kernel_rfl) (by decide))
                  have ha := ha.add (show act_.tmps.getD 99 undef = .slice ((ownA vB).map (·.add (i * 1))) ((L.take (i + 8)).drop i).length 8 from hp 13 (by kernel_rfl) (by decide))
                  exact h_evA (v := .agg #[.int .i64 (base + (i : Int)), .slice ((ownA vB).map (·.add (i * 1))) ((L.take (i + 8)).drop i).length 8, .bool false, .bool false]) ha rfl (e_build (vs := [(0, .int .i64 (base + (i : Int))), (1, .slice ((ownA vB).map (·.add (i * 1))) ((L.take (i + 8)).drop i).length 8)]) rfl (by kernel_rfl)) rfl rfl (Ext.rfl' _)
                · intro Q act_ wI hxI ha hp
                  have xw_wI : Ext w wI := Ext.tr xw_w12 hxI
                  have xw0_wI : Ext w0 wI := Ext.tr xw0_w12 hxI
                  replace hfr := Fr2.ext hfr hxI
                  replace hbw := hbw.ext hxI
                  replace hop := hop.ext hxI
                  replace hoO := hoO.ext hxI
                  replace hoB := hoB.ext hxI
                  replace hoW := hoW.ext hxI
                  have ha := ha.add (show act_.tmps.getD 100 undef = .agg #[.int .i64 (base + (i : Int)), .slice ((ownA vB).map (·.add (i * 1))) ((L.take (i + 8)).drop i).length 8, .bool false, .bool false] from hp 14 (by kernel_rfl) (by decide))
                  exact h_evA ha rfl (e_buildSlice (vs := [(0, .agg #[.int .i64 (base + (i : Int)), .slice ((ownA vB).map (·.add (i * 1))) ((L.take (i + 8)).drop i).length 8, .bool false, .bool false])]) (v := .slice (some ⟨wI.heap.size, 0, none⟩) 1 1) (w1 := wI.alloc (.cells ([.int .i64 (base + (i : Int)), .slice ((ownA vB).map (·.add (i * 1))) ((L.take (i + 8)).drop i).length 8, .bool false, .bool false] : List Value).toArray 49)) rfl (by kernel_rfl)) rfl ⟨_, rfl, Blk.new wI 49 [.int .i64 (base + (i : Int)), .slice ((ownA vB).map (·.add (i * 1))) ((L.take (i + 8)).drop i).length 8, .bool false, .bool false]⟩ (Ext.alloc _ _)
                intro vs_ w14 hx_w14 hvs act_ ha hv
                have xw_w14 : Ext w w14 := Ext.tr xw_w12 hx_w14
                have xw0_w14 : Ext w0 w14 := Ext.tr xw0_w12 hx_w14
                replace hfr := Fr2.ext hfr hx_w14
                replace hbw := hbw.ext hx_w14
                replace hop := hop.ext hx_w14
                replace hoO := hoO.ext hx_w14
                replace hoB := hoB.ext hx_w14
                replace hoW := hoW.ext hx_w14
                have ha := ha.add ((hv 0 (by decide)).trans (show vs_ 0 = v_ from hvs 0 (by decide)))
                obtain ⟨b101, e101, hb101⟩ := (show ∃ b_, vs_ 15 = Value.slice (some ⟨b_, 0, none⟩) 1 1 ∧ Blk w14 b_ 49 [.int .i64 (base + (i : Int)), .slice ((ownA vB).map (·.add (i * 1))) ((L.take (i + 8)).drop i).length 8, .bool false, .bool false] from hvs 15 (by decide))
                have ha := ha.add ((hv 15 (by decide)).trans e101)
                refine st_go ha ?_
                clear ha hv hvs
                refine st_appendLit2 (w0 := w) (z := .agg #[.int .i64 0, .slice none 0 0, .bool false, .bool false]) (kk := 4) (bytes := 40) rfl rfl rfl Try.underlying24 (by kernel_rfl) rfl (by decide) (fun _ => rfl) one_encW [wrAt base L (ownA vB) i] hoW xw_w14 hb101 rfl rfl (by first | (simp only [maxLen]; omega) | omega) (by first | (simp only [maxLen]; omega) | omega) ?_
                intro v102 w15 ho102 xw_w15 hg102 hat102
                replace hfr := Fr2.own hfr hoW hg102
                replace hbw := hbw.grown hg102 (Own.ne hoW hbw (by decide))
                replace hop := Go.XK.Own.other hop hoW hg102 (by decide)
                replace hoO := Go.XK.Own.other hoO hoW hg102 (by decide)
                replace hoB := Go.XK.Own.other hoB hoW hg102 (by decide)
                have xw0_w15 : Ext w0 w15 := Ext.grown xw0_w14 (Own.low hoW (Below.size hx0)) hg102
                refine st_ev (v := v102) rfl (e_assign rfl) ?_
                refine st_nil (nrm_k ?_)
                refine sc_reg ?_
                refine Go.XK.s (v := .int .i64 (i : Int)) (e_move rfl) ?_
                refine Go.XK.s (v := .int .i64 ((i : Int) + 8)) (e_add rfl rfl (by omega)) ?_
                refine Go.XK.s (v := .int .i64 ((i : Int) + 8)) (e_assign rfl) ?_
                refine sl_nil ?_
                exact nrm_loopq rfl _ _ (by omega) ⟨i + 8, n + 1, v102, ws_ ++ [wrAt base L (ownA vB) i], rfl, rfl, xw_w15, xw0_w15, hbw, hop, hoO, hoB, ho102, ⟨⟨by omega, by omega⟩, by rw [wsL_next, hws, hin], hfr⟩⟩ (.cons rfl (.cons rfl (.cons rfl (.cons rfl (.cons rfl (.cons rfl (.nil)))))))
              ·
                refine sc_exit rfl (nrm_k ?_)
                refine sc_seq ?_
                have hnK2 : n = K := by omega
                have hnl : ws_.length = n := by rw [hws, wsL_length]
                have hixw : ((ws_.length : Int) - 1).toNat = ws_.length - 1 := by omega
                obtain ⟨y, hy⟩ : ∃ y, ws_[ws_.length - 1]? = some y := ⟨_, List.getElem?_eq_getElem (by omega)⟩
                refine sc_reg ?_
                refine Go.XK.s (v := v_) (e_move rfl) ?_
                refine Go.XK.s (v := v_) (e_move rfl) ?_
                refine Go.XK.s (v := .int .i64 (ws_.length : Int)) (e_lenOwn Try.underlying24 rfl hoW (fun _ => rfl)) ?_
                refine Go.XK.s (v := .int .i64 ((ws_.length : Int) - 1)) (e_sub rfl rfl (by omega)) ?_
                refine Go.XK.s (v := .pointer (some (el (ownA v_) 4 ((ws_.length : Int) - 1) 0))) (e_idxOwn (x0 := y) Try.underlying24 Try.sizeOf49 rfl rfl hoW (fun _ => rfl) (by rw [hixw]; exact hy) (by omega)) ?_
                refine Go.XK.s (v := .pointer (some (el (ownA v_) 4 ((ws_.length : Int) - 1) 2))) (e_fieldEl (fsz := 1) Try.underlying49 rfl Try.sizeOf4 (by decide) rfl rfl) ?_
                refine su_ownSet (w0 := w) (x0 := y) (v := v_) (⟨y.p, y.bl, true, y.cl, y.A, y.c⟩) rfl rfl hoW xw_w12 (fun _ => rfl) (by rw [hixw]; exact hy) (by decide) rfl rfl Try.sizeOf4 rfl ?_
                intro w16 hn_ xw_w16 hg_w16
                have ho_ := hoW
                replace hfr := Fr2.own hfr ho_ hg_w16
                replace hbw := hbw.grown hg_w16 (Own.ne ho_ hbw (by decide))
                replace hop := Go.XK.Own.other hop ho_ hg_w16 (by decide)
                replace hoO := Go.XK.Own.other hoO ho_ hg_w16 (by decide)
                replace hoB := Go.XK.Own.other hoB ho_ hg_w16 (by decide)
                have xw0_w16 : Ext w0 w16 := Ext.grown xw0_w12 (Own.low ho_ (Below.size hx0)) hg_w16
                replace hoW := hn_
                clear hn_ ho_
                refine sl_nil (nrm_k ?_)
                refine sc_seq ?_
                refine sc_reg ?_
                refine Go.XK.s (v := .pointer (some ⟨b, 0, none⟩)) (e_move rfl) ?_
                refine Go.XK.s (v := .pointer (some ⟨b, 0, none⟩)) (e_move rfl) ?_
                refine Go.XK.s (v := .int .i64 ((ctlP start base ps) + 1)) (e_move rfl) ?_
                refine Go.XK.s (v := .pointer (some ⟨b, 0, none⟩)) (e_nilCheck rfl) ?_
                refine Go.XK.s (v := .pointer (some ⟨b, 1, none⟩)) (e_fieldB (sz := 1) Try.underlying109 rfl Try.sizeOf3 (by decide) rfl rfl) ?_
                refine su_blkV [.int .i64 ((ctlP start base ps) + 1)] [.int .i64 start, .int .i64 ((ctlP start base ps) + 1), lv] rfl rfl hbw rfl Try.sizeOf3 (Nat.le_of_ble_eq_true rfl) rfl rfl ?_
                intro w17 hn_ hm_w17 hs_w17
                have ho_ := hbw
                replace hbw := hn_
                clear hn_
                replace hop := hop.mut hm_w17 (Own.ne hop ho_ (by decide))
                replace hoO := hoO.mut hm_w17 (Own.ne hoO ho_ (by decide))
                replace hoB := hoB.mut hm_w17 (Own.ne hoB ho_ (by decide))
                replace hoW := hoW.mut hm_w17 (Own.ne hoW ho_ (by decide))
                replace hfr := Fr2.mut hfr hm_w17 (.inl rfl)
                have xw0_w17 : Ext w0 w17 := below_mut xw0_w16 (Below.size xw0_w16) hm_w17 hb0
                refine Go.XK.s (v := .pointer (some ⟨b, 0, none⟩)) (e_nilCheck rfl) ?_
                refine Go.XK.s (v := .pointer (some ⟨b, 2, none⟩)) (e_fieldB (sz := 1) Try.underlying109 rfl Try.sizeOf107 (by decide) rfl rfl) ?_
                refine su_blkV [.slice none 0 0] [.int .i64 start, .int .i64 ((ctlP start base ps) + 1), .slice none 0 0] rfl rfl hbw rfl Try.sizeOf107 (Nat.le_of_ble_eq_true rfl) rfl rfl ?_
                intro w18 hn_ hm_w18 hs_w18
                have ho_ := hbw
                replace hbw := hn_
                clear hn_
                replace hop := hop.mut hm_w18 (Own.ne hop ho_ (by decide))
                replace hoO := hoO.mut hm_w18 (Own.ne hoO ho_ (by decide))
                replace hoB := hoB.mut hm_w18 (Own.ne hoB ho_ (by decide))
                replace hoW := hoW.mut hm_w18 (Own.ne hoW ho_ (by decide))
                replace hfr := Fr2.mut hfr hm_w18 (.inl rfl)
                have xw0_w18 : Ext w0 w18 := below_mut xw0_w17 (Below.size xw0_w17) hm_w18 hb0
                refine sl_nil (nrm_k ?_)
                refine sc_seq ?_
                refine sc_reg ?_
                refine Go.XK.s (v := v_) (e_move rfl) ?_
                refine Go.XK.s (v := v_) (e_assign rfl) ?_
                refine Go.XK.s (v := .int .i64 0) (e_assign rfl) ?_
                refine sl_nil (nrm_k ?_)
                refine sc_retf rfl (ret2 Try.results27 (rvt rfl) (rvt rfl) ?_)
                have hF : flR c start base ps = (0, flC base (ctlL c (setL base ps (List.replicate (ctlP start base ps + 1 - base).toNat zB))) ((ctlP start base ps + 1 - base).toNat / 8), ctlP start base ps + 1, []) := by rw [flR, if_neg (by rw [c15]; decide), if_neg c23, if_neg (by rw [c28]; decide), if_neg c39]
                have hwe : ws_.set (((ws_.length : Int) - 1)).toNat ⟨y.p, y.bl, true, y.cl, y.A, y.c⟩ = wsF ws_ y := by rw [wsF, show ((ws_.length : Int) - 1).toNat = ws_.length - 1 by omega]
                rw [hwe] at hoW
                have hcore : (wsF ws_ y).map core = flC base L K := by subst hws; rw [hnK2]; rw [hnK2] at hy; exact wsF_core hK0 hy
                have hinn := inn_ws (W := w18) (base := base) (y := y) hoB hLL (by rw [← hnK2, ← hws]; exact List.mem_of_getElem? hy)
                exact ⟨v_, .slice none 0 0, wsF ws_ y, by rw [hF], hoW, (by rw [hws, hnK2]; exact hinn), by rw [hF, hcore, hKd, hLc, hLs, List.take_of_length_le (by omega), hKz], by rw [hF]; exact hbw, by rw [hF]; exact Go.XK.Own.nil _ _ _ _ _, Fr2.nil hfr, xw0_w18⟩
            ·
              refine sc_skip (nrm_k ?_)
              refine sc_seq ?_
              obtain ⟨L, hL⟩ : ∃ L, L = L_ := ⟨_, rfl⟩
              have hLc : L = ctlL c L_ := by rw [hL, ctlL]; first | (rw [if_neg c73, show ((L_.length : Int) - 1).toNat = L_.length - 1 by omega]) | (rw [if_pos (Classical.not_not.1 c73)])
              have hLL : L.length = 8 * K := by rw [hLc, ctlL_length]; exact hLl
              rw [← hL] at hoB
              refine sc_reg ?_
              refine Go.XK.s (v := .slice none 0 0) (e_assign rfl) ?_
              refine sl_nil (nrm_k ?_)
              refine sc_seq ?_
              refine sc_seq ?_
              refine sc_reg ?_
              refine Go.XK.s (v := .int .i64 0) (e_assign rfl) ?_
              refine sl_nil (nrm_k ?_)
              refine sc_block ?_
              refine sc_loop (fun m_ l_ w_ => ∃ (i n : Nat) (v_ : Value) (ws_ : List Wr), m_ = 8 * K - i ∧ l_ = [(11, .int .i64 (i : Int)), (10, v_), (0, .pointer (some ⟨b, 0, none⟩)), (1, .string (B c)), (6, .int .i64 ((ctlP start base ps) + 1)), (7, vB)] ∧ Ext w w_ ∧ Ext w0 w_ ∧ Blk w_ b 109 [.int .i64 start, .int .i64 base, lv] ∧ Go.XK.Own w_ w0.heap.size 114 2 encP lv ps ∧ Go.XK.Own w_ w.heap.size 3 1 encI vO (opnL ps) ∧ Go.XK.Own w_ w.heap.size 9 1 encS vB L ∧ Go.XK.Own w_ w.heap.size 49 4 encW v_ ws_ ∧ (i = 8 * n ∧ n ≤ K) ∧ ws_ = wsL base L (ownA vB) n ∧ Fr2 w w_ b lv lv) _ [(11, .int .i64 (0 : Int)), (10, (.slice none 0 0)), (0, .pointer (some ⟨b, 0, none⟩)), (1, .string (B c)), (6, .int .i64 ((ctlP start base ps) + 1)), (7, vB)] ⟨0, 0, .slice none 0 0, [], rfl, rfl, xw_w5, xw0_w5, hbw, hop, hoO, hoB, (Go.XK.Own.nil _ _ _ _ _), ⟨⟨by omega, by omega⟩, rfl, hfr⟩⟩ (.cons rfl (.cons rfl (.cons rfl (.cons rfl (.cons rfl (.cons rfl (.nil))))))) ?_
              rintro j20 _ w19 ⟨i, n, v_, ws_, rfl, rfl, xw_w19, xw0_w19, hbw, hop, hoO, hoB, hoW, ⟨⟨hin, hnK⟩, hws, hfr⟩⟩
              refine sc_seq ?_
              refine sc_seq ?_
              refine sc_reg ?_
              refine Go.XK.s (v := .int .i64 (i : Int)) (e_move rfl) ?_
              refine Go.XK.s (v := vB) (e_move rfl) ?_
              refine Go.XK.s (v := .int .i64 (L.length : Int)) (e_lenOwn Try.underlying22 rfl hoB (fun _ => rfl)) ?_
              refine Go.XK.s (v := .bool (decide ((i : Int) < (L.length : Int)))) (e_lt rfl rfl) ?_
              refine sl_nil (nrm_k ?_)
              refine sc_ifd rfl (fun c83 => ?_) (fun c83 => ?_)
              ·
                refine sc_skip (nrm_k ?_)
                refine sc_seq ?_
                refine sc_block ?_
                have hnl : ws_.length = n := by rw [hws, wsL_length]
                refine sc_free [(83, .bool (decide ((i : Int) < (L.length : Int)))), (82, .int .i64 (L.length : Int)), (81, vB), (80, .int .i64 (i : Int)), (11, .int .i64 (i : Int)), (10, v_), (0, .pointer (some ⟨b, 0, none⟩)), (1, .string (B c)), (6, .int .i64 ((ctlP start base ps) + 1)), (7, vB)] [86, 87, 88, 89, 90, 91, 92, 93, 94, 95, 96, 97, 98, 99, 100, 101] [(Is (v_)), (Is (.pointer (some ⟨b, 0, none⟩))), (Is (.pointer (some ⟨b, 0, none⟩))), (Is (.pointer (some ⟨b, 1, none⟩))), (Is (.int .i64 base)), (Is (.int .i64 (i : Int))), (Is (.int .i64 (base + (i : Int)))), (Is (vB)), (Is (.int .i64 (i : Int))), (Is (.int .i64 (i : Int))), (Is (.int .i64 ((i : Int) + 8))), (Is (.int .i64 (i : Int))), (Is (.int .i64 ((i : Int) + 8))), (Is (.slice ((ownA vB).map (·.add (i * 1))) ((L.take (i + 8)).drop i).length 8)), (Is (.agg #[.int .i64 (base + (i : Int)), .slice ((ownA vB).map (·.add (i * 1))) ((L.take (i + 8)).drop i).length 8, .bool false, .bool false])), (fun VV WV => ∃ b_, VV = Value.slice (some ⟨b_, 0, none⟩) 1 1 ∧ Blk WV b_ 49 [.int .i64 (base + (i : Int)), .slice ((ownA vB).map (·.add (i * 1))) ((L.take (i + 8)).drop i).length 8, .bool false, .bool false])] [16, 17] (by kernel_rfl) (Sub.refl _) (by kernel_rfl) (by kernel_rfl) (by kernel_rfl) rfl (by kernel_rfl) (ds_ext (Stays.spec (.is _ (.is _ (.is _ (.is _ (.is _ (.is _ (.is _ (.is _ (.is _ (.is _ (.is _ (.is _ (.is _ (.is _ (.is _ (.any (fun _ _ _ ⟨b_, e_, h_⟩ hx_ => ⟨b_, e_, h_.ext hx_⟩) (.nil))))))))))))))))))) ⟨?_, ?_, ?_, ?_, ?_, ?_, ?_, ?_, ?_, ?_, ?_, ?_, ?_, ?_, ?_, ?_, trivial⟩ ?_
                · intro Q act_ wI hxI ha hp
                  have xw_wI : Ext w wI := Ext.tr xw_w19 hxI
                  have xw0_wI : Ext w0 wI := Ext.tr xw0_w19 hxI
                  replace hfr := Fr2.ext hfr hxI
                  replace hbw := hbw.ext hxI
                  replace hop := hop.ext hxI
                  replace hoO := hoO.ext hxI
                  replace hoB := hoB.ext hxI
                  replace hoW := hoW.ext hxI
                  exact h_evA (v := v_) ha rfl (e_move rfl) rfl rfl (Ext.rfl' _)
                · intro Q act_ wI hxI ha hp
                  have xw_wI : Ext w wI := Ext.tr xw_w19 hxI
                  have xw0_wI : Ext w0 wI := Ext.tr xw0_w19 hxI
                  replace hfr := Fr2.ext hfr hxI
                  replace hbw := hbw.ext hxI
                  replace hop := hop.ext hxI
                  replace hoO := hoO.ext hxI
                  replace hoB := hoB.ext hxI
                  replace hoW := hoW.ext hxI
                  exact h_evA (v := .pointer (some ⟨b, 0, none⟩)) ha rfl (e_move rfl) rfl rfl (Ext.rfl' _)
                · intro Q act_ wI hxI ha hp
                  have xw_wI : Ext w wI := Ext.tr xw_w19 hxI
                  have xw0_wI : Ext w0 wI := Ext.tr xw0_w19 hxI
                  replace hfr := Fr2.ext hfr hxI
                  replace hbw := hbw.ext hxI
                  replace hop := hop.ext hxI
                  replace hoO := hoO.ext hxI
                  replace hoB := hoB.ext hxI
                  replace hoW := hoW.ext hxI
                  have ha := ha.add (show act_.tmps.getD 87 undef = .pointer (some ⟨b, 0, none⟩) from hp 1 (by kernel_rfl) (by decide))
                  exact h_evA (v := .pointer (some ⟨b, 0, none⟩)) ha rfl (e_nilCheck rfl) rfl rfl (Ext.rfl' _)
                · intro Q act_ wI hxI ha hp
                  have xw_wI : Ext w wI := Ext.tr xw_w19 hxI
                  have xw0_wI : Ext w0 wI := Ext.tr xw0_w19 hxI
                  replace hfr := Fr2.ext hfr hxI
                  replace hbw := hbw.ext hxI
                  replace hop := hop.ext hxI
                  replace hoO := hoO.ext hxI
                  replace hoB := hoB.ext hxI
                  replace hoW := hoW.ext hxI
                  have ha := ha.add (show act_.tmps.getD 88 undef = .pointer (some ⟨b, 0, none⟩) from hp 2 (by kernel_rfl) (by decide))
                  exact h_evA (v := .pointer (some ⟨b, 1, none⟩)) ha rfl (e_fieldB (sz := 1) Try.underlying109 rfl Try.sizeOf3 (by decide) rfl rfl) rfl rfl (Ext.rfl' _)
                · intro Q act_ wI hxI ha hp
                  have xw_wI : Ext w wI := Ext.tr xw_w19 hxI
                  have xw0_wI : Ext w0 wI := Ext.tr xw0_w19 hxI
                  replace hfr := Fr2.ext hfr hxI
                  replace hbw := hbw.ext hxI
                  replace hop := hop.ext hxI
                  replace hoO := hoO.ext hxI
                  replace hoB := hoB.ext hxI
                  replace hoW := hoW.ext hxI
                  have ha := ha.add (show act_.tmps.getD 89 undef = .pointer (some ⟨b, 1, none⟩) from hp 3 (by kernel_rfl) (by decide))
                  exact h_evA (v := .int .i64 base) ha rfl (e_load rfl (load1 Try.isAgg3 (hbw.cell (j := 1) rfl))) rfl rfl (Ext.rfl' _)
                · intro Q act_ wI hxI ha hp
                  have xw_wI : Ext w wI := Ext.tr xw_w19 hxI
                  have xw0_wI : Ext w0 wI := Ext.tr xw0_w19 hxI
                  replace hfr := Fr2.ext hfr hxI
                  replace hbw := hbw.ext hxI
                  replace hop := hop.ext hxI
                  replace hoO := hoO.ext hxI
                  replace hoB := hoB.ext hxI
                  replace hoW := hoW.ext hxI
                  exact h_evA (v := .int .i64 (i : Int)) ha rfl (e_move rfl) rfl rfl (Ext.rfl' _)
                · intro Q act_ wI hxI ha hp
                  have xw_wI : Ext w wI := Ext.tr xw_w19 hxI
                  have xw0_wI : Ext w0 wI := Ext.tr xw0_w19 hxI
                  replace hfr := Fr2.ext hfr hxI
                  replace hbw := hbw.ext hxI
                  replace hop := hop.ext hxI
                  replace hoO := hoO.ext hxI
                  replace hoB := hoB.ext hxI
                  replace hoW := hoW.ext hxI
                  have ha := ha.add (show act_.tmps.getD 90 undef = .int .i64 base from hp 4 (by kernel_rfl) (by decide))
                  have ha := ha.add (show act_.tmps.getD 91 undef = .int .i64 (i : Int) from hp 5 (by kernel_rfl) (by decide))
                  exact h_evA (v := .int .i64 (base + (i : Int))) ha rfl (e_add rfl rfl (by omega)) rfl rfl (Ext.rfl' _)
                · intro Q act_ wI hxI ha hp
                  have xw_wI : Ext w wI := Ext.tr xw_w19 hxI
                  have xw0_wI : Ext w0 wI := Ext.tr xw0_w19 hxI
                  replace hfr := Fr2.ext hfr hxI
                  replace hbw := hbw.ext hxI
                  replace hop := hop.ext hxI
                  replace hoO := hoO.ext hxI
                  replace hoB := hoB.ext hxI
                  replace hoW := hoW.ext hxI
                  exact h_evA (v := vB) ha rfl (e_move rfl) rfl rfl (Ext.rfl' _)
                · intro Q act_ wI hxI ha hp
                  have xw_wI : Ext w wI := Ext.tr xw_w19 hxI
                  have xw0_wI : Ext w0 wI := Ext.tr xw0_w19 hxI
                  replace hfr := Fr2.ext hfr hxI
                  replace hbw := hbw.ext hxI
                  replace hop := hop.ext hxI
                  replace hoO := hoO.ext hxI
                  replace hoB := hoB.ext hxI
                  replace hoW := hoW.ext hxI
                  exact h_evA (v := .int .i64 (i : Int)) ha rfl (e_move rfl) rfl rfl (Ext.rfl' _)
                · intro Q act_ wI hxI ha hp
                  have xw_wI : Ext w wI := Ext.tr xw_w19 hxI
                  have xw0_wI : Ext w0 wI := Ext.tr xw0_w19 hxI
                  replace hfr := Fr2.ext hfr hxI
                  replace hbw := hbw.ext hxI
                  replace hop := hop.ext hxI
                  replace hoO := hoO.ext hxI
                  replace hoB := hoB.ext hxI
                  replace hoW := hoW.ext hxI
                  exact h_evA (v := .int .i64 (i : Int)) ha rfl (e_move rfl) rfl rfl (Ext.rfl' _)
                · intro Q act_ wI hxI ha hp
                  have xw_wI : Ext w wI := Ext.tr xw_w19 hxI
                  have xw0_wI : Ext w0 wI := Ext.tr xw0_w19 hxI
                  replace hfr := Fr2.ext hfr hxI
                  replace hbw := hbw.ext hxI
                  replace hop := hop.ext hxI
                  replace hoO := hoO.ext hxI
                  replace hoB := hoB.ext hxI
                  replace hoW := hoW.ext hxI
                  have ha := ha.add (show act_.tmps.getD 95 undef = .int .i64 (i : Int) from hp 9 (by kernel_rfl) (by decide))
                  exact h_evA (v := .int .i64 ((i : Int) + 8)) ha rfl (e_add rfl rfl (by omega)) rfl rfl (Ext.rfl' _)
                · intro Q act_ wI hxI ha hp
                  have xw_wI : Ext w wI := Ext.tr xw_w19 hxI
                  have xw0_wI : Ext w0 wI := Ext.tr xw0_w19 hxI
                  replace hfr := Fr2.ext hfr hxI
                  replace hbw := hbw.ext hxI
                  replace hop := hop.ext hxI
                  replace hoO := hoO.ext hxI
                  replace hoB := hoB.ext hxI
                  replace hoW := hoW.ext hxI
                  exact h_evA (v := .int .i64 (i : Int)) ha rfl (e_move rfl) rfl rfl (Ext.rfl' _)
                · intro Q act_ wI hxI ha hp
                  have xw_wI : Ext w wI := Ext.tr xw_w19 hxI
                  have xw0_wI : Ext w0 wI := Ext.tr xw0_w19 hxI
                  replace hfr := Fr2.ext hfr hxI
                  replace hbw := hbw.ext hxI
                  replace hop := hop.ext hxI
                  replace hoO := hoO.ext hxI
                  replace hoB := hoB.ext hxI
                  replace hoW := hoW.ext hxI
                  have ha := ha.add (show act_.tmps.getD 97 undef = .int .i64 (i : Int) from hp 11 (by kernel_rfl) (by decide))
                  exact h_evA (v := .int .i64 ((i : Int) + 8)) ha rfl (e_add rfl rfl (by omega)) rfl rfl (Ext.rfl' _)
                · intro Q act_ wI hxI ha hp
                  have xw_wI : Ext w wI := Ext.tr xw_w19 hxI
                  have xw0_wI : Ext w0 wI := Ext.tr xw0_w19 hxI
                  replace hfr := Fr2.ext hfr hxI
                  replace hbw := hbw.ext hxI
                  replace hop := hop.ext hxI
                  replace hoO := hoO.ext hxI
                  replace hoB := hoB.ext hxI
                  replace hoW := hoW.ext hxI
                  have ha := ha.add (show act_.tmps.getD 93 undef = vB from hp 7 (by kernel_rfl) (by decide))
                  have ha := ha.add (show act_.tmps.getD 94 undef = .int .i64 (i : Int) from hp 8 (by kernel_rfl) (by decide))
                  have ha := ha.add (show act_.tmps.getD 96 undef = .int .i64 ((i : Int) + 8) from hp 10 (by kernel_rfl) (by decide))
                  have ha := ha.add (show act_.tmps.getD 98 undef = .int .i64 ((i : Int) + 8) from hp 12 (by kernel_rfl) (by decide))
                  exact h_evA (v := .slice ((ownA vB).map (·.add (i * 1))) ((L.take (i + 8)).drop i).length 8) ha rfl (e_sl3x i (i + 8) (i + 8) ((L.take (i + 8)).drop i).length 8 Try.underlying22 Try.sizeOf9 (by rw [show vB = _ from Go.XK.Own.val hoB]; rfl) rfl rfl rfl rfl (by omega) (by omega) (by omega) (by omega) (by have h_ := (Go.XK.Own.slr hoB (fun _ => rfl)).2.1; omega) (by omega) (by simp; omega) (by omega)) rfl rfl (Ext.rfl' _)
                · intro Q act_ wI hxI ha hp
                  have xw_wI : Ext w wI := Ext.tr xw_w19 hxI
                  have xw0_wI : Ext w0 wI := Ext.tr xw0_w19 hxI
                  replace hfr := Fr2.ext hfr hxI
                  replace hbw := hbw.ext hxI
                  replace hop := hop.ext hxI
                  replace hoO := hoO.ext hxI
                  replace hoB := hoB.ext hxI
                  replace hoW := hoW.ext hxI
                  have ha := ha.add (show act_.tmps.getD 92 undef = .int .i64 (base + (i : Int)) from hp 6 (by kernel_rfl) (by decide))
                  have ha := ha.add (show act_.tmps.getD 99 undef = .slice ((ownA vB).map (·.add (i * 1))) ((L.take (i + 8)).drop i).length 8 from hp 13 (by kernel_rfl) (by decide))
                  exact h_evA (v := .agg #[.int .i64 (base + (i : Int)), .slice ((ownA vB).map (·.add (i * 1))) ((L.take (i + 8)).drop i).length 8, .bool false, .bool false]) ha rfl (e_build (vs := [(0, .int .i64 (base + (i : Int))), (1, .slice ((ownA vB).map (·.add (i * 1))) ((L.take (i + 8)).drop i).length 8)]) rfl (by kernel_rfl)) rfl rfl (Ext.rfl' _)
                · intro Q act_ wI hxI ha hp
                  have xw_wI : Ext w wI := Ext.tr xw_w19 hxI
                  have xw0_wI : Ext w0 wI := Ext.tr xw0_w19 hxI
                  replace hfr := Fr2.ext hfr hxI
                  replace hbw := hbw.ext hxI
                  replace hop := hop.ext hxI
                  replace hoO := hoO.ext hxI
                  replace hoB := hoB.ext hxI
                  replace hoW := hoW.ext hxI
                  have ha := ha.add (show act_.tmps.getD 100 undef = .agg #[.int .i64 (base + (i : Int)), .slice ((ownA vB).map (·.add (i * 1))) ((L.take (i + 8)).drop i).length 8, .bool false, .bool false] from hp 14 (by kernel_rfl) (by decide))
                  exact h_evA ha rfl (e_buildSlice (vs := [(0, .agg #[.int .i64 (base + (i : Int)), .slice ((ownA vB).map (·.add (i * 1))) ((L.take (i + 8)).drop i).length 8, .bool false, .bool false])]) (v := .slice (some ⟨wI.heap.size, 0, none⟩) 1 1) (w1 := wI.alloc (.cells ([.int .i64 (base + (i : Int)), .slice ((ownA vB).map (·.add (i * 1))) ((L.take (i + 8)).drop i).length 8, .bool false, .bool false] : List Value).toArray 49)) rfl (by kernel_rfl)) rfl ⟨_, rfl, Blk.new wI 49 [.int .i64 (base + (i : Int)), .slice ((ownA vB).map (·.add (i * 1))) ((L.take (i + 8)).drop i).length 8, .bool false, .bool false]⟩ (Ext.alloc _ _)
                intro vs_ w21 hx_w21 hvs act_ ha hv
                have xw_w21 : Ext w w21 := Ext.tr xw_w19 hx_w21
                have xw0_w21 : Ext w0 w21 := Ext.tr xw0_w19 hx_w21
                replace hfr := Fr2.ext hfr hx_w21
                replace hbw := hbw.ext hx_w21
                replace hop := hop.ext hx_w21
                replace hoO := hoO.ext hx_w21
                replace hoB := hoB.ext hx_w21
                replace hoW := hoW.ext hx_w21
                have ha := ha.add ((hv 0 (by decide)).trans (show vs_ 0 = v_ from hvs 0 (by decide)))
                obtain ⟨b101, e101, hb101⟩ := (show ∃ b_, vs_ 15 = Value.slice (some ⟨b_, 0, none⟩) 1 1 ∧ Blk w21 b_ 49 [.int .i64 (base + (i : Int)), .slice ((ownA vB).map (·.add (i * 1))) ((L.take (i + 8)).drop i).length 8, .bool false, .bool false] from hvs 15 (by decide))
                have ha := ha.add ((hv 15 (by decide)).trans e101)
                refine st_go ha ?_
                clear ha hv hvs
                refine st_appendLit2 (w0 := w) (z := .agg #[.int .i64 0, .slice none 0 0, .bool false, .bool false]) (kk := 4) (bytes := 40) rfl rfl rfl Try.underlying24 (by kernel_rfl) rfl (by decide) (fun _ => rfl) one_encW [wrAt base L (ownA vB) i] hoW xw_w21 hb101 rfl rfl (by first | (simp only [maxLen]; omega) | omega) (by first | (simp only [maxLen]; omega) | omega) ?_
                intro v102 w22 ho102 xw_w22 hg102 hat102
                replace hfr := Fr2.own hfr hoW hg102
                replace hbw := hbw.grown hg102 (Own.ne hoW hbw (by decide))
                replace hop := Go.XK.Own.other hop hoW hg102 (by decide)
                replace hoO := Go.XK.Own.other hoO hoW hg102 (by decide)
                replace hoB := Go.XK.Own.other hoB hoW hg102 (by decide)
                have xw0_w22 : Ext w0 w22 := Ext.grown xw0_w21 (Own.low hoW (Below.size hx0)) hg102
                refine st_ev (v := v102) rfl (e_assign rfl) ?_
                refine st_nil (nrm_k ?_)
                refine sc_reg ?_
                refine Go.XK.s (v := .int .i64 (i : Int)) (e_move rfl) ?_
                refine Go.XK.s (v := .int .i64 ((i : Int) + 8)) (e_add rfl rfl (by omega)) ?_
                refine Go.XK.s (v := .int .i64 ((i : Int) + 8)) (e_assign rfl) ?_
                refine sl_nil ?_
                exact nrm_loopq rfl _ _ (by omega) ⟨i + 8, n + 1, v102, ws_ ++ [wrAt base L (ownA vB) i], rfl, rfl, xw_w22, xw0_w22, hbw, hop, hoO, hoB, ho102, ⟨⟨by omega, by omega⟩, by rw [wsL_next, hws, hin], hfr⟩⟩ (.cons rfl (.cons rfl (.cons rfl (.cons rfl (.cons rfl (.cons rfl (.nil)))))))
              ·
                refine sc_exit rfl (nrm_k ?_)
                refine sc_seq ?_
                have hnK2 : n = K := by omega
                have hnl : ws_.length = n := by rw [hws, wsL_length]
                have hixw : ((ws_.length : Int) - 1).toNat = ws_.length - 1 := by omega
                obtain ⟨y, hy⟩ : ∃ y, ws_[ws_.length - 1]? = some y := ⟨_, List.getElem?_eq_getElem (by omega)⟩
                refine sc_reg ?_
                refine Go.XK.s (v := v_) (e_move rfl) ?_
                refine Go.XK.s (v := v_) (e_move rfl) ?_
                refine Go.XK.s (v := .int .i64 (ws_.length : Int)) (e_lenOwn Try.underlying24 rfl hoW (fun _ => rfl)) ?_
                refine Go.XK.s (v := .int .i64 ((ws_.length : Int) - 1)) (e_sub rfl rfl (by omega)) ?_
                refine Go.XK.s (v := .pointer (some (el (ownA v_) 4 ((ws_.length : Int) - 1) 0))) (e_idxOwn (x0 := y) Try.underlying24 Try.sizeOf49 rfl rfl hoW (fun _ => rfl) (by rw [hixw]; exact hy) (by omega)) ?_
                refine Go.XK.s (v := .pointer (some (el (ownA v_) 4 ((ws_.length : Int) - 1) 2))) (e_fieldEl (fsz := 1) Try.underlying49 rfl Try.sizeOf4 (by decide) rfl rfl) ?_
                refine su_ownSet (w0 := w) (x0 := y) (v := v_) (⟨y.p, y.bl, true, y.cl, y.A, y.c⟩) rfl rfl hoW xw_w19 (fun _ => rfl) (by rw [hixw]; exact hy) (by decide) rfl rfl Try.sizeOf4 rfl ?_
                intro w23 hn_ xw_w23 hg_w23
                have ho_ := hoW
                replace hfr := Fr2.own hfr ho_ hg_w23
                replace hbw := hbw.grown hg_w23 (Own.ne ho_ hbw (by decide))
                replace hop := Go.XK.Own.other hop ho_ hg_w23 (by decide)
                replace hoO := Go.XK.Own.other hoO ho_ hg_w23 (by decide)
                replace hoB := Go.XK.Own.other hoB ho_ hg_w23 (by decide)
                have xw0_w23 : Ext w0 w23 := Ext.grown xw0_w19 (Own.low ho_ (Below.size hx0)) hg_w23
                replace hoW := hn_
                clear hn_ ho_
                refine sl_nil (nrm_k ?_)
                refine sc_seq ?_
                refine sc_reg ?_
                refine Go.XK.s (v := .pointer (some ⟨b, 0, none⟩)) (e_move rfl) ?_
                refine Go.XK.s (v := .pointer (some ⟨b, 0, none⟩)) (e_move rfl) ?_
                refine Go.XK.s (v := .int .i64 ((ctlP start base ps) + 1)) (e_move rfl) ?_
                refine Go.XK.s (v := .pointer (some ⟨b, 0, none⟩)) (e_nilCheck rfl) ?_
                refine Go.XK.s (v := .pointer (some ⟨b, 1, none⟩)) (e_fieldB (sz := 1) Try.underlying109 rfl Try.sizeOf3 (by decide) rfl rfl) ?_
                refine su_blkV [.int .i64 ((ctlP start base ps) + 1)] [.int .i64 start, .int .i64 ((ctlP start base ps) + 1), lv] rfl rfl hbw rfl Try.sizeOf3 (Nat.le_of_ble_eq_true rfl) rfl rfl ?_
                intro w24 hn_ hm_w24 hs_w24
                have ho_ := hbw
                replace hbw := hn_
                clear hn_
                replace hop := hop.mut hm_w24 (Own.ne hop ho_ (by decide))
                replace hoO := hoO.mut hm_w24 (Own.ne hoO ho_ (by decide))
                replace hoB := hoB.mut hm_w24 (Own.ne hoB ho_ (by decide))
                replace hoW := hoW.mut hm_w24 (Own.ne hoW ho_ (by decide))
                replace hfr := Fr2.mut hfr hm_w24 (.inl rfl)
                have xw0_w24 : Ext w0 w24 := below_mut xw0_w23 (Below.size xw0_w23) hm_w24 hb0
                refine Go.XK.s (v := .pointer (some ⟨b, 0, none⟩)) (e_nilCheck rfl) ?_
                refine Go.XK.s (v := .pointer (some ⟨b, 2, none⟩)) (e_fieldB (sz := 1) Try.underlying109 rfl Try.sizeOf107 (by decide) rfl rfl) ?_
                refine su_blkV [.slice none 0 0] [.int .i64 start, .int .i64 ((ctlP start base ps) + 1), .slice none 0 0] rfl rfl hbw rfl Try.sizeOf107 (Nat.le_of_ble_eq_true rfl) rfl rfl ?_
                intro w25 hn_ hm_w25 hs_w25
                have ho_ := hbw
                replace hbw := hn_
                clear hn_
                replace hop := hop.mut hm_w25 (Own.ne hop ho_ (by decide))
                replace hoO := hoO.mut hm_w25 (Own.ne hoO ho_ (by decide))
                replace hoB := hoB.mut hm_w25 (Own.ne hoB ho_ (by decide))
                replace hoW := hoW.mut hm_w25 (Own.ne hoW ho_ (by decide))
                replace hfr := Fr2.mut hfr hm_w25 (.inl rfl)
                have xw0_w25 : Ext w0 w25 := below_mut xw0_w24 (Below.size xw0_w24) hm_w25 hb0
                refine sl_nil (nrm_k ?_)
                refine sc_seq ?_
                refine sc_reg ?_
                refine Go.XK.s (v := v_) (e_move rfl) ?_
                refine Go.XK.s (v := v_) (e_assign rfl) ?_
                refine Go.XK.s (v := .int .i64 0) (e_assign rfl) ?_
                refine sl_nil (nrm_k ?_)
                refine sc_retf rfl (ret2 Try.results27 (rvt rfl) (rvt rfl) ?_)
                have hF : flR c start base ps = (0, flC base (ctlL c (setL base ps (List.replicate (ctlP start base ps + 1 - base).toNat zB))) ((ctlP start base ps + 1 - base).toNat / 8), ctlP start base ps + 1, []) := by rw [flR, if_neg (by rw [c15]; decide), if_neg c23, if_neg (by rw [c28]; decide), if_neg c39]
                have hwe : ws_.set (((ws_.length : Int) - 1)).toNat ⟨y.p, y.bl, true, y.cl, y.A, y.c⟩ = wsF ws_ y := by rw [wsF, show ((ws_.length : Int) - 1).toNat = ws_.length - 1 by omega]
                rw [hwe] at hoW
                have hcore : (wsF ws_ y).map core = flC base L K := by subst hws; rw [hnK2]; rw [hnK2] at hy; exact wsF_core hK0 hy
                have hinn := inn_ws (W := w25) (base := base) (y := y) hoB hLL (by rw [← hnK2, ← hws]; exact List.mem_of_getElem? hy)
                exact ⟨v_, .slice none 0 0, wsF ws_ y, by rw [hF], hoW, (by rw [hws, hnK2]; exact hinn), by rw [hF, hcore, hKd, hLc, hLs, List.take_of_length_le (by omega), hKz], by rw [hF]; exact hbw, by rw [hF]; exact Go.XK.Own.nil _ _ _ _ _, Fr2.nil hfr, xw0_w25⟩

end Go.Proofs.Ytfcjianiodiejaa
