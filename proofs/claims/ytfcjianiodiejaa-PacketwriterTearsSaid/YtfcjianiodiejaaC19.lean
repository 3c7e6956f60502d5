/- Chapter 52: C19. Printed by my program wip/tools/wk.py. -/
import Derived.Test.YtfcjianiodiejaaC12
import Derived.Test.YtfcjianiodiejaaMath12
set_option linter.unusedVariables false
set_option linter.unusedSimpArgs false
set_option maxRecDepth 4000
set_option maxHeartbeats 4000000
namespace Go.Proofs.Ytfcjianiodiejaa
open Go.XK Go.RowKit
abbrev MpI (w : World) (b m : Nat) (f : Int → Option Value) : Prop := Mp w Try.prog 3 (fun x : Int => Lit.int .i64 x) (fun x : Int => (Lit.int .i64 x).wf = true) b m f
abbrev RgI (w : World) (b r m : Nat) (f : Int → Option Value) (cnt : Nat) : Prop := Rg w Try.prog 3 (fun x : Int => Lit.int .i64 x) (fun x : Int => (Lit.int .i64 x).wf = true) b r m f cnt
theorem kT : KeyT Try.prog 3 (fun x : Int => Value.int .i64 x) (fun x : Int => Lit.int .i64 x) (fun x : Int => (Lit.int .i64 x).wf = true) := keyT_int Try.underlying3
theorem wfI {x : Int} (h : 0 ≤ x) (h2 : x ≤ 9223372036854775807) : (Lit.int .i64 x).wf = true := by
  have h1 : IntKind.min .i64 = -9223372036854775808 := by decide
  have h3 : IntKind.max .i64 = 9223372036854775807 := by decide
  simp only [Lit.wf, h1, h3, Bool.and_eq_true, decide_eq_true_eq]; omega
theorem len_next {pre : List Stp} {s : Stp} : (pre ++ [s]).length = pre.length + 1 := by simp
theorem stL_open {ws : List Wr} {i : Nat} {x : Wr} (hx : ws[i]? = some x) (h : x.cl = false) : stL (ws.take (i + 1)) = stL (ws.take i) ++ stB x.p x.bl := by rw [stL_take hx, stW, if_neg (by simp [h]), List.append_nil]
theorem stL_clos {ws : List Wr} {i : Nat} {x : Wr} (hx : ws[i]? = some x) (h : x.cl = true) : stL (ws.take (i + 1)) = stL (ws.take i) ++ stB x.p x.bl ++ [⟨0, [], true⟩] := by rw [stL_take hx, stW, if_pos h, List.append_assoc]

/-- masterdisc/masterdisclaw52.PacketwriterTears (function 5) -/
theorem tears_c (im : Img) (A : Option Addr) (c : Nat) (ws : List Wr) (Aw : Option Addr) (cw : Nat) (z : Int) (w : World) (hl : SlR w A c 1 encS im) (hw : SlR w Aw cw 4 encW ws) (hin : Inn w ws) : CallR Try.prog 5 [.slice A im.length c, .slice Aw ws.length cw, .int .i64 z] w (fun v w' => v = .bool true ∧ Ext w w') := by
  have hmx0 := hl.lenle
  simp only [maxLen] at hmx0
  have hmx1 := hw.lenle
  simp only [maxLen] at hmx1
  refine callR_of (n := 137) [(0, .slice A im.length c), (1, .slice Aw ws.length cw), (2, .int .i64 z)] Try.func5 rfl rfl (Nat.le_of_ble_eq_true rfl) rfl ?_
  refine sc_seq ?_
  refine sc_reg ?_
  refine Go.XK.s (v := .bool false) (e_assign rfl) ?_
  refine sl_nil (nrm_k ?_)
  refine sc_seq ?_
  refine sc_seq ?_
  refine sc_reg ?_
  refine sl_call ent11 rfl rfl (awake_c w) (by decide) ?_
  rintro _ w1 ⟨rfl, hw1⟩
  have xw_w1 : Ext w w1 := Ext.tr (Ext.rfl' w) hw1
  refine Go.XK.s (v := .bool false) (e_not (b := true) rfl) ?_
  refine sl_nil (nrm_k ?_)
  refine sc_no rfl rfl ?_
  refine sc_skip (nrm_k ?_)
  refine sc_seq ?_
  refine sc_seq ?_
  refine sc_reg ?_
  refine Go.XK.s (v := .slice A im.length c) (e_move rfl) ?_
  refine Go.XK.s (v := .slice Aw ws.length cw) (e_move rfl) ?_
  refine sl_call ent12 rfl rfl (few_c _ _ _ _ _ _ w1 (hl.ext xw_w1) (hw.ext xw_w1) (hin.ext xw_w1)) (by decide) ?_
  rintro _ w2 ⟨rfl, hw2⟩
  have xw_w2 : Ext w w2 := Ext.tr xw_w1 hw2
  refine Go.XK.s (v := .bool (!(few im ws))) (e_not rfl) ?_
  refine Go.XK.s (v := .bool (!(few im ws))) (e_move rfl) ?_
  refine sl_mergeW 5 31 (.bool ((!(few im ws)) || (!(valid im ws)))) (fun w_ => Ext w2 w_) ?_ (fun w3 hw3 => ?_)
  · refine sl_case (t := 26) rfl (fun g3_4 => ?_) (fun g3_4 => ?_)
    ·
      refine sl_gskip rfl rfl g3_4 (by decide) ?_
      refine sl_gskip rfl rfl g3_4 (by decide) ?_
      refine sl_gskip rfl rfl g3_4 (by decide) ?_
      refine sl_gskip rfl rfl g3_4 (by decide) ?_
      refine Go.XK.s (v := .bool true) (e_pickT rfl g3_4 rfl) ?_
      exact sl_nil (fun a ha => ⟨(Ext.rfl' w2), ha.sub (.cons (by rw [g3_4]; rfl) (sub_self_cons (sub_self_cons (sub_self_cons (sub_self_cons (sub_self_cons (Sub.refl _) rfl) rfl) rfl) rfl) rfl))⟩)
    ·
      refine sl_gev (v := .slice A im.length c) rfl rfl g3_4 (e_move rfl) rfl (by decide) ?_
      refine sl_gev (v := .slice Aw ws.length cw) rfl rfl g3_4 (e_move rfl) rfl (by decide) ?_
      refine sl_gcall rfl rfl g3_4 ent18 rfl rfl (rvalid_c _ _ _ _ _ _ w2 (hl.ext xw_w2) (hw.ext xw_w2) (hin.ext xw_w2)) (by decide) ?_
      rintro _ w4 ⟨rfl, hw4⟩
      have xw_w4 : Ext w w4 := Ext.tr xw_w2 hw4
      have xw2_w4 : Ext w2 w4 := Ext.tr (Ext.rfl' w2) hw4
      refine sl_gev (v := .bool (!(valid im ws))) rfl rfl g3_4 (e_not rfl) rfl (by decide) ?_
      refine Go.XK.s (v := .bool (!(valid im ws))) (e_pickF rfl g3_4 rfl) ?_
      exact sl_nil (fun a ha => ⟨xw2_w4, ha.sub (.cons (by rw [g3_4]; rfl) (sub_self_cons (sub_self_cons (sub_self_cons (sub_self_cons (sub_self_cons (Sub.refl _) rfl) rfl) rfl) rfl) rfl))⟩)
  have xw_w3 : Ext w w3 := Ext.tr xw_w2 hw3
  refine Go.XK.s (v := .bool ((!(few im ws)) || (!(valid im ws)))) (e_move rfl) ?_
  refine sl_merge 3 35 (.bool (((!(few im ws)) || (!(valid im ws))) || (decide (z < 0)))) ?_ ?_
  · refine sl_case (t := 32) rfl (fun g3_10 => ?_) (fun g3_10 => ?_)
    ·
      refine sl_gskip rfl rfl g3_10 (by decide) ?_
      refine sl_gskip rfl rfl g3_10 (by decide) ?_
      refine Go.XK.s (v := .bool true) (e_pickT rfl g3_10 rfl) ?_
      exact sl_nil (fun a ha => ⟨rfl, ha.sub (.cons (by rw [g3_10]; rfl) (sub_self_cons (sub_self_cons (sub_self_cons (Sub.refl _) rfl) rfl) rfl))⟩)
    ·
      refine sl_gev (v := .int .i64 z) rfl rfl g3_10 (e_move rfl) rfl (by decide) ?_
      refine sl_gev (v := .bool (decide (z < 0))) rfl rfl g3_10 (e_lt rfl rfl) rfl (by decide) ?_
      refine Go.XK.s (v := .bool (decide (z < 0))) (e_pickF rfl g3_10 rfl) ?_
      exact sl_nil (fun a ha => ⟨rfl, ha.sub (.cons (by rw [g3_10]; rfl) (sub_self_cons (sub_self_cons (sub_self_cons (Sub.refl _) rfl) rfl) rfl))⟩)
  refine Go.XK.s (v := .bool (((!(few im ws)) || (!(valid im ws))) || (decide (z < 0)))) (e_move rfl) ?_
  refine sl_mergeW 5 41 (.bool ((((!(few im ws)) || (!(valid im ws))) || (decide (z < 0))) || (decide (((stL ws).length : Int) < z)))) (fun w_ => Ext w3 w_) ?_ (fun w5 hw5 => ?_)
  · refine sl_case (t := 36) rfl (fun g3_14 => ?_) (fun g3_14 => ?_)
    ·
      refine sl_gskip rfl rfl g3_14 (by decide) ?_
      refine sl_gskip rfl rfl g3_14 (by decide) ?_
      refine sl_gskip rfl rfl g3_14 (by decide) ?_
      refine sl_gskip rfl rfl g3_14 (by decide) ?_
      refine Go.XK.s (v := .bool true) (e_pickT rfl g3_14 rfl) ?_
      exact sl_nil (fun a ha => ⟨(Ext.rfl' w3), ha.sub (.cons (by rw [g3_14]; rfl) (sub_self_cons (sub_self_cons (sub_self_cons (sub_self_cons (sub_self_cons (Sub.refl _) rfl) rfl) rfl) rfl) rfl))⟩)
    ·
      have hfo_ : (few im ws = true ∧ valid im ws = true) ∧ 0 ≤ z := by simpa using g3_14
      obtain ⟨_, _, hL_⟩ := few_spec hfo_.1.1
      refine sl_gev (v := .int .i64 z) rfl rfl g3_14 (e_move rfl) rfl (by decide) ?_
      refine sl_gev (v := .slice Aw ws.length cw) rfl rfl g3_14 (e_move rfl) rfl (by decide) ?_
      refine sl_gcall rfl rfl g3_14 ent13 rfl rfl (rsteps_c _ _ _ w3 (hw.ext xw_w3) (hin.ext xw_w3) (by omega)) (by decide) ?_
      rintro _ w6 ⟨rfl, hw6⟩
      have xw_w6 : Ext w w6 := Ext.tr xw_w3 hw6
      have xw3_w6 : Ext w3 w6 := Ext.tr (Ext.rfl' w3) hw6
      refine sl_gev (v := .bool (decide (((stL ws).length : Int) < z))) rfl rfl g3_14 (e_gt rfl rfl) rfl (by decide) ?_
      refine Go.XK.s (v := .bool (decide (((stL ws).length : Int) < z))) (e_pickF rfl g3_14 rfl) ?_
      exact sl_nil (fun a ha => ⟨xw3_w6, ha.sub (.cons (by rw [g3_14]; rfl) (sub_self_cons (sub_self_cons (sub_self_cons (sub_self_cons (sub_self_cons (Sub.refl _) rfl) rfl) rfl) rfl) rfl))⟩)
  have xw_w5 : Ext w w5 := Ext.tr xw_w3 hw5
  refine sl_nil (nrm_k ?_)
  refine sc_if rfl (fun c41 => ?_) (fun c41 => ?_)
  ·
    refine sc_seq ?_
    refine sc_reg ?_
    refine Go.XK.s (v := .bool true) (e_assign rfl) ?_
    refine sl_nil (nrm_k ?_)
    refine sc_retf rfl (ret1 Try.results5 (rvt rfl) ?_)
    exact ⟨rfl, xw_w5⟩
  ·
    have hfo : ((few im ws = true ∧ valid im ws = true) ∧ 0 ≤ z) ∧ z ≤ ((stL ws).length : Int) := by simpa using c41
    obtain ⟨⟨⟨hfew, hv⟩, hz0⟩, hz1⟩ := hfo
    obtain ⟨hfw1, hfw2, hfw3⟩ := few_spec hfew
    obtain ⟨him4, _, _, hokw⟩ := valid_spec hv
    refine sc_skip (nrm_k ?_)
    refine sc_seq ?_
    refine sc_reg ?_
    refine s_makeMap (κ := Int) 3 (fun x : Int => Lit.int .i64 x) (fun x : Int => (Lit.int .i64 x).wf = true) ?_
    intro b42 w7 hM42 he42 hx42
    have ge_b42 : w.heap.size ≤ b42 := by have h_ := (Below.size xw_w5); omega
    have xw_w7 : Ext w w7 := Ext.tr xw_w5 hx42
    refine Go.XK.s (v := .map (some b42)) (e_assign rfl) ?_
    refine sl_nil (nrm_k ?_)
    refine sc_seq ?_
    refine sc_reg ?_
    refine Go.XK.s (v := .int .i64 0) (e_assign rfl) ?_
    refine sl_nil (nrm_k ?_)
    refine sc_seq ?_
    refine sc_seq ?_
    refine sc_reg ?_
    refine Go.XK.s (v := .slice Aw ws.length cw) (e_move rfl) ?_
    refine Go.XK.s (v := .int .i64 (ws.length : Int)) (e_len Try.underlying24 rfl) ?_
    refine Go.XK.s (v := .int .i64 0) (e_move rfl) ?_
    refine sl_nil (nrm_k ?_)
    refine sc_block ?_
    refine sc_loop (fun m_ l_ w_ => ∃ (i st m : Nat) (f : Int → Option Value), m_ = ws.length - i ∧ l_ = [(45, .int .i64 (i : Int)), (8, .int .i64 (st : Int)), (0, .slice A im.length c), (1, .slice Aw ws.length cw), (2, .int .i64 z), (7, .map (some b42)), (43, .slice Aw ws.length cw), (44, .int .i64 (ws.length : Int))] ∧ Ext w w_ ∧ MpI w_ b42 m f ∧ (i ≤ ws.length ∧ m ≤ st ∧ st = (stL (ws.take i)).length) ∧ WS im z.toNat (stL (ws.take i)) f) _ [(45, .int .i64 (0 : Int)), (8, .int .i64 (0 : Int)), (0, .slice A im.length c), (1, .slice Aw ws.length cw), (2, .int .i64 z), (7, .map (some b42)), (43, .slice Aw ws.length cw), (44, .int .i64 (ws.length : Int))] ⟨0, 0, 0, fun _ => none, rfl, rfl, xw_w7, hM42, ⟨⟨by omega, by omega, rfl⟩, WS.nil im _⟩⟩ (.cons rfl (.cons rfl (.cons rfl (.cons rfl (.cons rfl (.cons rfl (.cons rfl (.cons rfl (.nil))))))))) ?_
    rintro j9 _ w8 ⟨i, st, m, f, rfl, rfl, xw_w8, hM42, ⟨⟨hi, hm, hst⟩, hws⟩⟩
    refine sc_seq ?_
    refine sc_reg ?_
    refine Go.XK.s (v := .bool (decide ((i : Int) < (ws.length : Int)))) (e_lt rfl rfl) ?_
    refine sl_nil (nrm_k ?_)
    refine sc_seq ?_
    refine sc_ifd rfl (fun c46 => ?_) (fun c46 => ?_)
    ·
      obtain ⟨x, hx⟩ : ∃ x, ws[i]? = some x := ⟨_, List.getElem?_eq_getElem (by omega)⟩
      have hin_x := hin x (List.mem_of_getElem? hx)
      have hmx2 := hin_x.lenle
      simp only [maxLen] at hmx2
      have hxw := okW_spec (List.all_eq_true.1 hokw x (List.mem_of_getElem? hx))
      have hpi := (stL_pre ws i).length_le
      refine sc_skip (nrm_k ?_)
      refine sc_seq ?_
      refine sc_block ?_
      refine sc_seq ?_
      refine sc_reg ?_
      refine Go.XK.s (v := .pointer (some (el Aw 4 (i : Int) 0))) (e_idxEl (e := x) Try.underlying24 Try.sizeOf49 rfl rfl (hw.1.ext xw_w8) hx (by omega) rfl) ?_
      refine Go.XK.s (v := .agg #[.int .i64 x.p, .slice x.A x.bl.length x.c, .bool x.sy, .bool x.cl]) (e_ldElA (xs := ws) (enc := encW) (e := x) rfl (hw.1.ext xw_w8) hx Try.isAgg49 Try.sizeOf49 rfl) ?_
      refine s_alloc (cs := [.int .i64 0, .slice none 0 0, .bool false, .bool false]) Try.zeroValue49 rfl ?_
      intro b10 w10 hb10 he10 hs10 hx10
      have ge_b10 : w.heap.size ≤ b10 := by have h_ := (Below.size xw_w8); omega
      have xw_w10 : Ext w w10 := Ext.tr xw_w8 hx10
      replace hM42 := hM42.ext hx10
      refine su_blkV [.int .i64 x.p, .slice x.A x.bl.length x.c, .bool x.sy, .bool x.cl] [.int .i64 x.p, .slice x.A x.bl.length x.c, .bool x.sy, .bool x.cl] rfl rfl hb10 rfl Try.sizeOf49 (Nat.le_of_ble_eq_true rfl) rfl rfl ?_
      intro w11 hn_ hm_w11 hs_w11
      have ho_ := hb10
      replace hb10 := hn_
      clear hn_
      replace hM42 := hM42.mut hm_w11 (Mp.ne_blk hM42 ho_)
      have xw_w11 : Ext w w11 := below_mut xw_w10 (Below.size xw_w10) hm_w11 ge_b10
      refine sl_nil (nrm_k ?_)
      refine sc_seq ?_
      refine sc_seq ?_
      refine sc_reg ?_
      refine Go.XK.s (v := .pointer (some ⟨b10, 3, none⟩)) (e_fieldB (sz := 1) Try.underlying49 rfl Try.sizeOf4 (by decide) rfl rfl) ?_
      refine Go.XK.s (v := .bool x.cl) (e_load rfl (load1 Try.isAgg4 (hb10.cell (j := 3) rfl))) ?_
      refine sl_nil (nrm_k ?_)
      refine sc_if rfl (fun c50 => ?_) (fun c50 => ?_)
      ·
        have hbl : x.bl.length = 0 := by rw [hxw.2.2.2.1 c50]; rfl
        obtain ⟨e_, he_⟩ : ∃ e_ : Nat, e_ = 1 := ⟨_, rfl⟩
        refine sc_reg ?_
        refine Go.XK.s (v := .int .i64 (st : Int)) (e_move rfl) ?_
        refine Go.XK.s (v := .int .i64 ((st : Int) + 1)) (e_add rfl rfl (by omega)) ?_
        refine Go.XK.s (v := .int .i64 ((st : Int) + 1)) (e_assign rfl) ?_
        refine sl_nil (nrm_k ?_)
        refine sc_seq ?_
        refine sc_reg ?_
        refine Go.XK.s (v := .pointer (some ⟨b10, 1, none⟩)) (e_fieldB (sz := 1) Try.underlying49 rfl Try.sizeOf22 (by decide) rfl rfl) ?_
        refine Go.XK.s (v := .slice x.A x.bl.length x.c) (e_load rfl (load1 Try.isAgg22 (hb10.cell (j := 1) rfl))) ?_
        refine Go.XK.s (v := .int .i64 (x.bl.length : Int)) (e_len Try.underlying22 rfl) ?_
        refine Go.XK.s (v := .int .i64 0) (e_move rfl) ?_
        refine sl_nil (nrm_k ?_)
        refine sc_block ?_
        refine sc_loop (fun m_ l_ w_ => ∃ (k st2 m2 : Nat) (f2 : Int → Option Value), m_ = x.bl.length - k ∧ l_ = [(56, .int .i64 (k : Int)), (8, .int .i64 (st2 : Int)), (0, .slice A im.length c), (1, .slice Aw ws.length cw), (2, .int .i64 z), (7, .map (some b42)), (10, .pointer (some ⟨b10, 0, none⟩)), (43, .slice Aw ws.length cw), (44, .int .i64 (ws.length : Int)), (45, .int .i64 (i : Int)), (54, .slice x.A x.bl.length x.c), (55, .int .i64 (x.bl.length : Int))] ∧ Ext w w_ ∧ Blk w_ b10 49 [.int .i64 x.p, .slice x.A x.bl.length x.c, .bool x.sy, .bool x.cl] ∧ MpI w_ b42 m2 f2 ∧ (k ≤ x.bl.length ∧ m2 ≤ st2 ∧ st2 = (stL (ws.take i) ++ stB x.p (x.bl.take k)).length + e_) ∧ WS im z.toNat (stL (ws.take i) ++ stB x.p (x.bl.take k)) f2) _ [(56, .int .i64 (0 : Int)), (8, .int .i64 ((st + 1) : Int)), (0, .slice A im.length c), (1, .slice Aw ws.length cw), (2, .int .i64 z), (7, .map (some b42)), (10, .pointer (some ⟨b10, 0, none⟩)), (43, .slice Aw ws.length cw), (44, .int .i64 (ws.length : Int)), (45, .int .i64 (i : Int)), (54, .slice x.A x.bl.length x.c), (55, .int .i64 (x.bl.length : Int))] ⟨0, st + 1, m, f, rfl, rfl, xw_w11, hb10, hM42, ⟨⟨by omega, by omega, by rw [List.take_zero, show stB x.p [] = [] from rfl, List.append_nil]; omega⟩, by rw [List.take_zero, show stB x.p [] = [] from rfl, List.append_nil]; exact hws⟩⟩ (.cons rfl (.cons rfl (.cons rfl (.cons rfl (.cons rfl (.cons rfl (.cons rfl (.cons rfl (.cons rfl (.cons rfl (.cons rfl (.cons rfl (.nil))))))))))))) ?_
        rintro j13 _ w12 ⟨k, st2, m2, f2, rfl, rfl, xw_w12, hb10, hM42, ⟨⟨hk, hm2, hst2⟩, hws2⟩⟩
        refine sc_seq ?_
        refine sc_reg ?_
        refine Go.XK.s (v := .bool (decide ((k : Int) < (x.bl.length : Int)))) (e_lt rfl rfl) ?_
        refine sl_nil (nrm_k ?_)
        refine sc_seq ?_
        refine sc_ifd rfl (fun c57 => ?_) (fun c57 => ?_)
        ·
          obtain ⟨y, hy⟩ : ∃ y, x.bl[k]? = some y := ⟨_, List.getElem?_eq_getElem (by omega)⟩
          have he0 : e_ = 0 := by omega
          have hpw : wr64 (x.p + (k : Int)) = x.p + k := wr64_id (by omega) (by omega)
          have hpl := len_pre (pre_snoc hx hy)
          refine sc_skip (nrm_k ?_)
          refine sc_seq ?_
          refine sc_block ?_
          refine sc_seq ?_
          refine sc_reg ?_
          refine Go.XK.s (v := .int .i64 (k : Int)) (e_move rfl) ?_
          refine Go.XK.s (v := .pointer (some (el x.A 1 (k : Int) 0))) (e_idxEl (e := y) Try.underlying22 Try.sizeOf9 rfl rfl (hin_x.1.ext xw_w12) hy (by omega) rfl) ?_
          refine Go.XK.s (v := .string (B y)) (e_ldEl (xs := x.bl) (enc := encS) (e := y) rfl (hin_x.1.ext xw_w12) hy Try.isAgg9 rfl) ?_
          refine Go.XK.s (v := .int .i64 (k : Int)) (e_assign rfl) ?_
          refine Go.XK.s (v := .string (B y)) (e_assign rfl) ?_
          refine sl_nil (nrm_k ?_)
          refine sc_seq ?_
          refine sc_seq ?_
          refine sc_reg ?_
          refine Go.XK.s (v := .int .i64 (st2 : Int)) (e_move rfl) ?_
          refine Go.XK.s (v := .int .i64 z) (e_move rfl) ?_
          refine Go.XK.s (v := .bool (decide ((st2 : Int) < z))) (e_lt rfl rfl) ?_
          refine sl_nil (nrm_k ?_)
          refine sc_ifd rfl (fun c63 => ?_) (fun c63 => ?_)
          ·
            refine sc_reg ?_
            refine Go.XK.s (v := .map (some b42)) (e_move rfl) ?_
            refine Go.XK.s (v := .pointer (some ⟨b10, 0, none⟩)) (e_fieldB (sz := 1) Try.underlying49 rfl Try.sizeOf3 (by decide) rfl rfl) ?_
            refine Go.XK.s (v := .int .i64 x.p) (e_load rfl (load1 Try.isAgg3 (hb10.cell (j := 0) rfl))) ?_
            refine Go.XK.s (v := .int .i64 (k : Int)) (e_move rfl) ?_
            refine Go.XK.s (v := .int .i64 (x.p + (k : Int))) (e_add rfl rfl (by omega)) ?_
            refine Go.XK.s (v := .string (B y)) (e_move rfl) ?_
            refine su_mapPut (key := x.p + (k : Int)) (v := .string (B y)) kT Try.underlying47 rfl rfl rfl hM42 (by simp only [maxLen]; omega) (wfI (by omega) (by omega)) ?_
            intro w14 hn_ hm_w14 hs_w14
            have ho_ := hM42
            replace hM42 := hn_
            clear hn_
            replace hb10 := hb10.mut hm_w14 (Ne.symm (Mp.ne_blk ho_ hb10))
            have xw_w14 : Ext w w14 := below_mut xw_w12 (Below.size xw_w12) hm_w14 ge_b42
            refine sl_nil (nrm_k ?_)
            refine sc_reg ?_
            refine Go.XK.s (v := .int .i64 (st2 : Int)) (e_move rfl) ?_
            refine Go.XK.s (v := .int .i64 ((st2 : Int) + 1)) (e_add rfl rfl (by omega)) ?_
            refine Go.XK.s (v := .int .i64 ((st2 : Int) + 1)) (e_assign rfl) ?_
            refine sl_nil (nrm_k ?_)
            refine sc_reg ?_
            refine Go.XK.s (v := .int .i64 ((k : Int) + 1)) (e_add rfl rfl (by omega)) ?_
            refine Go.XK.s (v := .int .i64 ((k : Int) + 1)) (e_move rfl) ?_
            refine sl_nil ?_
            exact nrm_loopq rfl _ _ (by omega) ⟨k + 1, st2 + 1, m2 + 1, updM f2 (x.p + (k : Int)) (.string (B y)), rfl, rfl, xw_w14, hb10, hM42, ⟨⟨by omega, by omega, by rw [stB_take hy, ← List.append_assoc, len_next]; omega⟩, by rw [stB_take hy, hpw, ← List.append_assoc]; first | exact hws2.lt (by omega) (by omega) | exact hws2.eq (by omega) (by omega) | exact hws2.gt _ (by omega)⟩⟩ (.cons rfl (.cons rfl (.cons rfl (.cons rfl (.cons rfl (.cons rfl (.cons rfl (.cons rfl (.cons rfl (.cons rfl (.cons rfl (.cons rfl (.nil)))))))))))))
          ·
            refine sc_seq ?_
            refine sc_reg ?_
            refine Go.XK.s (v := .int .i64 (st2 : Int)) (e_move rfl) ?_
            refine Go.XK.s (v := .int .i64 z) (e_move rfl) ?_
            refine Go.XK.s (v := .bool (decide ((st2 : Int) = z))) (e_eq rfl rfl) ?_
            refine sl_nil (nrm_k ?_)
            refine sc_ifd rfl (fun c72 => ?_) (fun c72 => ?_)
            ·
              refine sc_reg ?_
              refine Go.XK.s (v := .map (some b42)) (e_move rfl) ?_
              refine Go.XK.s (v := .pointer (some ⟨b10, 0, none⟩)) (e_fieldB (sz := 1) Try.underlying49 rfl Try.sizeOf3 (by decide) rfl rfl) ?_
              refine Go.XK.s (v := .int .i64 x.p) (e_load rfl (load1 Try.isAgg3 (hb10.cell (j := 0) rfl))) ?_
              refine Go.XK.s (v := .int .i64 (k : Int)) (e_move rfl) ?_
              refine Go.XK.s (v := .int .i64 (x.p + (k : Int))) (e_add rfl rfl (by omega)) ?_
              refine su_mapPut (key := x.p + (k : Int)) (v := .string (B [33])) kT Try.underlying47 rfl rfl rfl hM42 (by simp only [maxLen]; omega) (wfI (by omega) (by omega)) ?_
              intro w15 hn_ hm_w15 hs_w15
              have ho_ := hM42
              replace hM42 := hn_
              clear hn_
              replace hb10 := hb10.mut hm_w15 (Ne.symm (Mp.ne_blk ho_ hb10))
              have xw_w15 : Ext w w15 := below_mut xw_w12 (Below.size xw_w12) hm_w15 ge_b42
              refine sl_nil (nrm_k ?_)
              refine sc_reg ?_
              refine Go.XK.s (v := .int .i64 (st2 : Int)) (e_move rfl) ?_
              refine Go.XK.s (v := .int .i64 ((st2 : Int) + 1)) (e_add rfl rfl (by omega)) ?_
              refine Go.XK.s (v := .int .i64 ((st2 : Int) + 1)) (e_assign rfl) ?_
              refine sl_nil (nrm_k ?_)
              refine sc_reg ?_
              refine Go.XK.s (v := .int .i64 ((k : Int) + 1)) (e_add rfl rfl (by omega)) ?_
              refine Go.XK.s (v := .int .i64 ((k : Int) + 1)) (e_move rfl) ?_
              refine sl_nil ?_
              exact nrm_loopq rfl _ _ (by omega) ⟨k + 1, st2 + 1, m2 + 1, updM f2 (x.p + (k : Int)) (.string (B [33])), rfl, rfl, xw_w15, hb10, hM42, ⟨⟨by omega, by omega, by rw [stB_take hy, ← List.append_assoc, len_next]; omega⟩, by rw [stB_take hy, hpw, ← List.append_assoc]; first | exact hws2.lt (by omega) (by omega) | exact hws2.eq (by omega) (by omega) | exact hws2.gt _ (by omega)⟩⟩ (.cons rfl (.cons rfl (.cons rfl (.cons rfl (.cons rfl (.cons rfl (.cons rfl (.cons rfl (.cons rfl (.cons rfl (.cons rfl (.cons rfl (.nil)))))))))))))
            ·
              refine sc_skip (nrm_k ?_)
              refine sc_reg ?_
              refine Go.XK.s (v := .int .i64 (st2 : Int)) (e_move rfl) ?_
              refine Go.XK.s (v := .int .i64 ((st2 : Int) + 1)) (e_add rfl rfl (by omega)) ?_
              refine Go.XK.s (v := .int .i64 ((st2 : Int) + 1)) (e_assign rfl) ?_
              refine sl_nil (nrm_k ?_)
              refine sc_reg ?_
              refine Go.XK.s (v := .int .i64 ((k : Int) + 1)) (e_add rfl rfl (by omega)) ?_
              refine Go.XK.s (v := .int .i64 ((k : Int) + 1)) (e_move rfl) ?_
              refine sl_nil ?_
              exact nrm_loopq rfl _ _ (by omega) ⟨k + 1, st2 + 1, m2, f2, rfl, rfl, xw_w12, hb10, hM42, ⟨⟨by omega, by omega, by rw [stB_take hy, ← List.append_assoc, len_next]; omega⟩, by rw [stB_take hy, hpw, ← List.append_assoc]; first | exact hws2.lt (by omega) (by omega) | exact hws2.eq (by omega) (by omega) | exact hws2.gt _ (by omega)⟩⟩ (.cons rfl (.cons rfl (.cons rfl (.cons rfl (.cons rfl (.cons rfl (.cons rfl (.cons rfl (.cons rfl (.cons rfl (.cons rfl (.cons rfl (.nil)))))))))))))
        ·
          refine sc_exit rfl (nrm_k ?_)
          refine sc_reg ?_
          refine Go.XK.s (v := .int .i64 ((i : Int) + 1)) (e_add rfl rfl (by omega)) ?_
          refine Go.XK.s (v := .int .i64 ((i : Int) + 1)) (e_move rfl) ?_
          refine sl_nil ?_
          rw [List.take_of_length_le (show x.bl.length ≤ k by omega)] at hws2 hst2
          exact nrm_loopq rfl _ _ (by omega) ⟨i + 1, st2, m2, f2, rfl, rfl, xw_w12, hM42, ⟨⟨by omega, by omega, by first | (rw [stL_open hx c50]; omega) | (rw [stL_clos hx c50, len_next]; omega)⟩, by first | (rw [stL_open hx c50]; exact hws2) | (rw [stL_clos hx c50]; exact hws2.close)⟩⟩ (.cons rfl (.cons rfl (.cons rfl (.cons rfl (.cons rfl (.cons rfl (.cons rfl (.cons rfl (.nil)))))))))
      ·
        obtain ⟨e_, he_⟩ : ∃ e_ : Nat, e_ = 0 := ⟨_, rfl⟩
        refine sc_skip (nrm_k ?_)
        refine sc_seq ?_
        refine sc_reg ?_
        refine Go.XK.s (v := .pointer (some ⟨b10, 1, none⟩)) (e_fieldB (sz := 1) Try.underlying49 rfl Try.sizeOf22 (by decide) rfl rfl) ?_
        refine Go.XK.s (v := .slice x.A x.bl.length x.c) (e_load rfl (load1 Try.isAgg22 (hb10.cell (j := 1) rfl))) ?_
        refine Go.XK.s (v := .int .i64 (x.bl.length : Int)) (e_len Try.underlying22 rfl) ?_
        refine Go.XK.s (v := .int .i64 0) (e_move rfl) ?_
        refine sl_nil (nrm_k ?_)
        refine sc_block ?_
        refine sc_loop (fun m_ l_ w_ => ∃ (k st2 m2 : Nat) (f2 : Int → Option Value), m_ = x.bl.length - k ∧ l_ = [(56, .int .i64 (k : Int)), (8, .int .i64 (st2 : Int)), (0, .slice A im.length c), (1, .slice Aw ws.length cw), (2, .int .i64 z), (7, .map (some b42)), (10, .pointer (some ⟨b10, 0, none⟩)), (43, .slice Aw ws.length cw), (44, .int .i64 (ws.length : Int)), (45, .int .i64 (i : Int)), (54, .slice x.A x.bl.length x.c), (55, .int .i64 (x.bl.length : Int))] ∧ Ext w w_ ∧ Blk w_ b10 49 [.int .i64 x.p, .slice x.A x.bl.length x.c, .bool x.sy, .bool x.cl] ∧ MpI w_ b42 m2 f2 ∧ (k ≤ x.bl.length ∧ m2 ≤ st2 ∧ st2 = (stL (ws.take i) ++ stB x.p (x.bl.take k)).length + e_) ∧ WS im z.toNat (stL (ws.take i) ++ stB x.p (x.bl.take k)) f2) _ [(56, .int .i64 (0 : Int)), (8, .int .i64 ((st + 0) : Int)), (0, .slice A im.length c), (1, .slice Aw ws.length cw), (2, .int .i64 z), (7, .map (some b42)), (10, .pointer (some ⟨b10, 0, none⟩)), (43, .slice Aw ws.length cw), (44, .int .i64 (ws.length : Int)), (45, .int .i64 (i : Int)), (54, .slice x.A x.bl.length x.c), (55, .int .i64 (x.bl.length : Int))] ⟨0, st + 0, m, f, rfl, rfl, xw_w11, hb10, hM42, ⟨⟨by omega, by omega, by rw [List.take_zero, show stB x.p [] = [] from rfl, List.append_nil]; omega⟩, by rw [List.take_zero, show stB x.p [] = [] from rfl, List.append_nil]; exact hws⟩⟩ (.cons rfl (.cons rfl (.cons rfl (.cons rfl (.cons rfl (.cons rfl (.cons rfl (.cons rfl (.cons rfl (.cons rfl (.cons rfl (.cons rfl (.nil))))))))))))) ?_
        rintro j17 _ w16 ⟨k, st2, m2, f2, rfl, rfl, xw_w16, hb10, hM42, ⟨⟨hk, hm2, hst2⟩, hws2⟩⟩
        refine sc_seq ?_
        refine sc_reg ?_
        refine Go.XK.s (v := .bool (decide ((k : Int) < (x.bl.length : Int)))) (e_lt rfl rfl) ?_
        refine sl_nil (nrm_k ?_)
        refine sc_seq ?_
        refine sc_ifd rfl (fun c57 => ?_) (fun c57 => ?_)
        ·
          obtain ⟨y, hy⟩ : ∃ y, x.bl[k]? = some y := ⟨_, List.getElem?_eq_getElem (by omega)⟩
          have he0 : e_ = 0 := by omega
          have hpw : wr64 (x.p + (k : Int)) = x.p + k := wr64_id (by omega) (by omega)
          have hpl := len_pre (pre_snoc hx hy)
          refine sc_skip (nrm_k ?_)
          refine sc_seq ?_
          refine sc_block ?_
          refine sc_seq ?_
          refine sc_reg ?_
          refine Go.XK.s (v := .int .i64 (k : Int)) (e_move rfl) ?_
          refine Go.XK.s (v := .pointer (some (el x.A 1 (k : Int) 0))) (e_idxEl (e := y) Try.underlying22 Try.sizeOf9 rfl rfl (hin_x.1.ext xw_w16) hy (by omega) rfl) ?_
          refine Go.XK.s (v := .string (B y)) (e_ldEl (xs := x.bl) (enc := encS) (e := y) rfl (hin_x.1.ext xw_w16) hy Try.isAgg9 rfl) ?_
          refine Go.XK.s (v := .int .i64 (k : Int)) (e_assign rfl) ?_
          refine Go.XK.s (v := .string (B y)) (e_assign rfl) ?_
          refine sl_nil (nrm_k ?_)
          refine sc_seq ?_
          refine sc_seq ?_
          refine sc_reg ?_
          refine Go.XK.s (v := .int .i64 (st2 : Int)) (e_move rfl) ?_
          refine Go.XK.s (v := .int .i64 z) (e_move rfl) ?_
          refine Go.XK.s (v := .bool (decide ((st2 : Int) < z))) (e_lt rfl rfl) ?_
          refine sl_nil (nrm_k ?_)
          refine sc_ifd rfl (fun c63 => ?_) (fun c63 => ?_)
          ·
            refine sc_reg ?_
            refine Go.XK.s (v := .map (some b42)) (e_move rfl) ?_
            refine Go.XK.s (v := .pointer (some ⟨b10, 0, none⟩)) (e_fieldB (sz := 1) Try.underlying49 rfl Try.sizeOf3 (by decide) rfl rfl) ?_
            refine Go.XK.s (v := .int .i64 x.p) (e_load rfl (load1 Try.isAgg3 (hb10.cell (j := 0) rfl))) ?_
            refine Go.XK.s (v := .int .i64 (k : Int)) (e_move rfl) ?_
            refine Go.XK.s (v := .int .i64 (x.p + (k : Int))) (e_add rfl rfl (by omega)) ?_
            refine Go.XK.s (v := .string (B y)) (e_move rfl) ?_
            refine su_mapPut (key := x.p + (k : Int)) (v := .string (B y)) kT Try.underlying47 rfl rfl rfl hM42 (by simp only [maxLen]; omega) (wfI (by omega) (by omega)) ?_
            intro w18 hn_ hm_w18 hs_w18
            have ho_ := hM42
            replace hM42 := hn_
            clear hn_
            replace hb10 := hb10.mut hm_w18 (Ne.symm (Mp.ne_blk ho_ hb10))
            have xw_w18 : Ext w w18 := below_mut xw_w16 (Below.size xw_w16) hm_w18 ge_b42
            refine sl_nil (nrm_k ?_)
            refine sc_reg ?_
            refine Go.XK.s (v := .int .i64 (st2 : Int)) (e_move rfl) ?_
            refine Go.XK.s (v := .int .i64 ((st2 : Int) + 1)) (e_add rfl rfl (by omega)) ?_
            refine Go.XK.s (v := .int .i64 ((st2 : Int) + 1)) (e_assign rfl) ?_
            refine sl_nil (nrm_k ?_)
            refine sc_reg ?_
            refine Go.XK.s (v := .int .i64 ((k : Int) + 1)) (e_add rfl rfl (by omega)) ?_
            refine Go.XK.s (v := .int .i64 ((k : Int) + 1)) (e_move rfl) ?_
            refine sl_nil ?_
            exact nrm_loopq rfl _ _ (by omega) ⟨k + 1, st2 + 1, m2 + 1, updM f2 (x.p + (k : Int)) (.string (B y)), rfl, rfl, xw_w18, hb10, hM42, ⟨⟨by omega, by omega, by rw [stB_take hy, ← List.append_assoc, len_next]; omega⟩, by rw [stB_take hy, hpw, ← List.append_assoc]; first | exact hws2.lt (by omega) (by omega) | exact hws2.eq (by omega) (by omega) | exact hws2.gt _ (by omega)⟩⟩ (.cons rfl (.cons rfl (.cons rfl (.cons rfl (.cons rfl (.cons rfl (.cons rfl (.cons rfl (.cons rfl (.cons rfl (.cons rfl (.cons rfl (.nil)))))))))))))
          ·
            refine sc_seq ?_
            refine sc_reg ?_
            refine Go.XK.s (v := .int .i64 (st2 : Int)) (e_move rfl) ?_
            refine Go.XK.s (v := .int .i64 z) (e_move rfl) ?_
            refine Go.XK.s (v := .bool (decide ((st2 : Int) = z))) (e_eq rfl rfl) ?_
            refine sl_nil (nrm_k ?_)
            refine sc_ifd rfl (fun c72 => ?_) (fun c72 => ?_)
            ·
              refine sc_reg ?_
              refine Go.XK.s (v := .map (some b42)) (e_move rfl) ?_
              refine Go.XK.s (v := .pointer (some ⟨b10, 0, none⟩)) (e_fieldB (sz := 1) Try.underlying49 rfl Try.sizeOf3 (by decide) rfl rfl) ?_
              refine Go.XK.s (v := .int .i64 x.p) (e_load rfl (load1 Try.isAgg3 (hb10.cell (j := 0) rfl))) ?_
              refine Go.XK.s (v := .int .i64 (k : Int)) (e_move rfl) ?_
              refine Go.XK.s (v := .int .i64 (x.p + (k : Int))) (e_add rfl rfl (by omega)) ?_
              refine su_mapPut (key := x.p + (k : Int)) (v := .string (B [33])) kT Try.underlying47 rfl rfl rfl hM42 (by simp only [maxLen]; omega) (wfI (by omega) (by omega)) ?_
              intro w19 hn_ hm_w19 hs_w19
              have ho_ := hM42
              replace hM42 := hn_
              clear hn_
              replace hb10 := hb10.mut hm_w19 (Ne.symm (Mp.ne_blk ho_ hb10))
              have xw_w19 : Ext w w19 := below_mut xw_w16 (Below.size xw_w16) hm_w19 ge_b42
              refine sl_nil (nrm_k ?_)
              refine sc_reg ?_
              refine Go.XK.s (v := .int .i64 (st2 : Int)) (e_move rfl) ?_
              refine Go.XK.s (v := .int .i64 ((st2 : Int) + 1)) (e_add rfl rfl (by omega)) ?_
              refine Go.XK.s (v := .int .i64 ((st2 : Int) + 1)) (e_assign rfl) ?_
              refine sl_nil (nrm_k ?_)
              refine sc_reg ?_
              refine Go.XK.s (v := .int .i64 ((k : Int) + 1)) (e_add rfl rfl (by omega)) ?_
              refine Go.XK.s (v := .int .i64 ((k : Int) + 1)) (e_move rfl) ?_
              refine sl_nil ?_
              exact nrm_loopq rfl _ _ (by omega) ⟨k + 1, st2 + 1, m2 + 1, updM f2 (x.p + (k : Int)) (.string (B [33])), rfl, rfl, xw_w19, hb10, hM42, ⟨⟨by omega, by omega, by rw [stB_take hy, ← List.append_assoc, len_next]; omega⟩, by rw [stB_take hy, hpw, ← List.append_assoc]; first | exact hws2.lt (by omega) (by omega) | exact hws2.eq (by omega) (by omega) | exact hws2.gt _ (by omega)⟩⟩ (.cons rfl (.cons rfl (.cons rfl (.cons rfl (.cons rfl (.cons rfl (.cons rfl (.cons rfl (.cons rfl (.cons rfl (.cons rfl (.cons rfl (.nil)))))))))))))
            ·
              refine sc_skip (nrm_k ?_)
              refine sc_reg ?_
              refine Go.XK.s (v := .int .i64 (st2 : Int)) (e_move rfl) ?_
              refine Go.XK.s (v := .int .i64 ((st2 : Int) + 1)) (e_add rfl rfl (by omega)) ?_
              refine Go.XK.s (v := .int .i64 ((st2 : Int) + 1)) (e_assign rfl) ?_
              refine sl_nil (nrm_k ?_)
              refine sc_reg ?_
              refine Go.XK.s (v := .int .i64 ((k : Int) + 1)) (e_add rfl rfl (by omega)) ?_
              refine Go.XK.s (v := .int .i64 ((k : Int) + 1)) (e_move rfl) ?_
              refine sl_nil ?_
              exact nrm_loopq rfl _ _ (by omega) ⟨k + 1, st2 + 1, m2, f2, rfl, rfl, xw_w16, hb10, hM42, ⟨⟨by omega, by omega, by rw [stB_take hy, ← List.append_assoc, len_next]; omega⟩, by rw [stB_take hy, hpw, ← List.append_assoc]; first | exact hws2.lt (by omega) (by omega) | exact hws2.eq (by omega) (by omega) | exact hws2.gt _ (by omega)⟩⟩ (.cons rfl (.cons rfl (.cons rfl (.cons rfl (.cons rfl (.cons rfl (.cons rfl (.cons rfl (.cons rfl (.cons rfl (.cons rfl (.cons rfl (.nil)))))))))))))
        ·
          refine sc_exit rfl (nrm_k ?_)
          refine sc_reg ?_
          refine Go.XK.s (v := .int .i64 ((i : Int) + 1)) (e_add rfl rfl (by omega)) ?_
          refine Go.XK.s (v := .int .i64 ((i : Int) + 1)) (e_move rfl) ?_
          refine sl_nil ?_
          rw [List.take_of_length_le (show x.bl.length ≤ k by omega)] at hws2 hst2
          exact nrm_loopq rfl _ _ (by omega) ⟨i + 1, st2, m2, f2, rfl, rfl, xw_w16, hM42, ⟨⟨by omega, by omega, by first | (rw [stL_open hx c50]; omega) | (rw [stL_clos hx c50, len_next]; omega)⟩, by first | (rw [stL_open hx c50]; exact hws2) | (rw [stL_clos hx c50]; exact hws2.close)⟩⟩ (.cons rfl (.cons rfl (.cons rfl (.cons rfl (.cons rfl (.cons rfl (.cons rfl (.cons rfl (.nil)))))))))
    ·
      refine sc_exit rfl (nrm_k ?_)
      refine sc_seq ?_
      rw [List.take_of_length_le (show ws.length ≤ i by omega)] at hws
      obtain ⟨o, ho_⟩ : ∃ o, o = cutL (stL ws) z.toNat im := ⟨_, rfl⟩
      have hcut : cutR im ws z = (o, 0) := by rw [ho_]; exact cutR_ok hv (by omega) (by omega)
      have hWI : WI im o f := by rw [ho_]; exact hws
      have hll := hWI.len
      have hol : o.length ≤ 4096 := by rw [ho_]; exact cutL_length _ _ _ (fun s_ hs_ hc_ => (okL_mem hokw hs_ hc_).2.1) him4
      refine sc_reg ?_
      refine Go.XK.s (v := .slice A im.length c) (e_move rfl) ?_
      refine Go.XK.s (v := .slice Aw ws.length cw) (e_move rfl) ?_
      refine Go.XK.s (v := .int .i64 z) (e_move rfl) ?_
      refine sl_call ent16 rfl rfl (cut_d _ _ _ _ _ _ _ w8 (hl.ext xw_w8) (hw.ext xw_w8) (hin.ext xw_w8) hcut) (by decide) ?_
      rintro _ w20 ⟨vIk, rfl, hoIk, hw20⟩
      replace hoIk := Own.low hoIk (Below.size xw_w8)
      have xw_w20 : Ext w w20 := Ext.tr xw_w8 hw20
      replace hM42 := hM42.ext hw20
      obtain ⟨AIk, cIk, eIk_, hlcIk, hcmIk, _⟩ := Go.XK.Own.shape hoIk (fun _ => rfl)
      subst eIk_
      refine Go.XK.s (v := .tuple #[.slice AIk o.length cIk, .int .i64 0]) (e_move rfl) ?_
      refine Go.XK.s (v := .slice AIk o.length cIk) (e_extract (vs := [.slice AIk o.length cIk, .int .i64 0]) rfl rfl) ?_
      refine Go.XK.s (v := .int .i64 0) (e_extract (vs := [.slice AIk o.length cIk, .int .i64 0]) rfl rfl) ?_
      refine Go.XK.s (v := .slice AIk o.length cIk) (e_assign rfl) ?_
      refine Go.XK.s (v := .int .i64 0) (e_assign rfl) ?_
      refine sl_nil (nrm_k ?_)
      refine sc_seq ?_
      refine sc_seq ?_
      refine sc_reg ?_
      refine Go.XK.s (v := .int .i64 0) (e_move rfl) ?_
      refine Go.XK.s (v := .bool (decide ((0 : Int) ≠ 0))) (e_ne rfl rfl) ?_
      refine Go.XK.s (v := .bool (decide ((0 : Int) ≠ 0))) (e_move rfl) ?_
      refine sl_gev (v := .slice AIk o.length cIk) rfl rfl (by decide) (e_move rfl) rfl (by decide) ?_
      refine sl_gev (v := .int .i64 (o.length : Int)) rfl rfl (by decide) (e_lenOwn Try.underlying23 rfl hoIk (fun _ => rfl)) rfl (by decide) ?_
      refine sl_gev (v := .slice A im.length c) rfl rfl (by decide) (e_move rfl) rfl (by decide) ?_
      refine sl_gev (v := .int .i64 (im.length : Int)) rfl rfl (by decide) (e_len Try.underlying23 rfl) rfl (by decide) ?_
      refine sl_gev (v := .bool (decide ((o.length : Int) < (im.length : Int)))) rfl rfl (by decide) (e_lt rfl rfl) rfl (by decide) ?_
      refine Go.XK.s (v := .bool (decide ((o.length : Int) < (im.length : Int)))) (e_pickF rfl (by decide) rfl) ?_
      refine sl_nil (nrm_k ?_)
      refine sc_no rfl (by simp; omega) ?_
      refine sc_skip (nrm_k ?_)
      refine sc_seq ?_
      refine sc_seq ?_
      refine sc_reg ?_
      refine Go.XK.s (v := .slice AIk o.length cIk) (e_move rfl) ?_
      refine Go.XK.s (v := .int .i64 (o.length : Int)) (e_lenOwn Try.underlying23 rfl hoIk (fun _ => rfl)) ?_
      refine Go.XK.s (v := .int .i64 0) (e_move rfl) ?_
      refine sl_nil (nrm_k ?_)
      refine sc_block ?_
      refine sc_loop (fun m_ l_ w_ => ∃ (j : Nat), m_ = o.length - j ∧ l_ = [(100, .int .i64 (j : Int)), (0, .slice A im.length c), (7, .map (some b42)), (13, .slice AIk o.length cIk), (98, .slice AIk o.length cIk), (99, .int .i64 (o.length : Int))] ∧ Ext w w_ ∧ MpI w_ b42 m f ∧ Go.XK.Own w_ w.heap.size 9 1 encS (.slice AIk o.length cIk) o ∧ j ≤ o.length) _ [(100, .int .i64 (0 : Int)), (0, .slice A im.length c), (7, .map (some b42)), (13, .slice AIk o.length cIk), (98, .slice AIk o.length cIk), (99, .int .i64 (o.length : Int))] ⟨0, rfl, rfl, xw_w20, hM42, hoIk, (by omega)⟩ (.cons rfl (.cons rfl (.cons rfl (.cons rfl (.cons rfl (.cons rfl (.nil))))))) ?_
      rintro j22 _ w21 ⟨j, rfl, rfl, xw_w21, hM42, hoIk, hj⟩
      refine sc_seq ?_
      refine sc_reg ?_
      refine Go.XK.s (v := .bool (decide ((j : Int) < (o.length : Int)))) (e_lt rfl rfl) ?_
      refine sl_nil (nrm_k ?_)
      refine sc_seq ?_
      refine sc_ifd rfl (fun c101 => ?_) (fun c101 => ?_)
      ·
        obtain ⟨y, hy⟩ : ∃ y, o[j]? = some y := ⟨_, List.getElem?_eq_getElem (by omega)⟩
        have hat := hWI.at_ j y hy
        refine sc_skip (nrm_k ?_)
        refine sc_seq ?_
        refine sc_block ?_
        refine sc_seq ?_
        refine sc_reg ?_
        refine Go.XK.s (v := .int .i64 (j : Int)) (e_move rfl) ?_
        refine Go.XK.s (v := .pointer (some (el (ownA (.slice AIk o.length cIk)) 1 (j : Int) 0))) (e_idxOwn (x0 := y) Try.underlying23 Try.sizeOf9 rfl rfl hoIk (fun _ => rfl) hy (by omega)) ?_
        refine Go.XK.s (v := .string (B y)) (e_ldEl (xs := o) (enc := encS) (e := y) rfl (Go.XK.Own.rd hoIk (fun _ => rfl)) hy Try.isAgg9 rfl) ?_
        refine Go.XK.s (v := .int .i64 (j : Int)) (e_assign rfl) ?_
        refine Go.XK.s (v := .string (B y)) (e_assign rfl) ?_
        refine sl_nil (nrm_k ?_)
        refine sc_seq ?_
        rcases Classical.em (f (j : Int) = none) with g23 | g23
        ·
          refine sc_reg ?_
          refine Go.XK.s (v := .map (some b42)) (e_move rfl) ?_
          refine Go.XK.s (v := .int .i64 (j : Int)) (e_move rfl) ?_
          have hyn := hat.2 g23
          refine Go.XK.s (v := .tuple #[.string (B []), .bool false]) (Ev.eqv (by rw [g23]; rfl) (e_mapLookOk (key := (j : Int)) kT Try.underlying47 Try.zeroValue9 hM42 rfl rfl (wfI (by omega) (by omega)))) ?_
          refine Go.XK.s (v := .tuple #[.string (B []), .bool false]) (e_move rfl) ?_
          refine Go.XK.s (v := .string (B [])) (e_extract (vs := [.string (B []), .bool false]) rfl rfl) ?_
          refine Go.XK.s (v := .bool false) (e_extract (vs := [.string (B []), .bool false]) rfl rfl) ?_
          refine Go.XK.s (v := .string (B [])) (e_assign rfl) ?_
          refine Go.XK.s (v := .bool false) (e_assign rfl) ?_
          refine sl_nil (nrm_k ?_)
          refine sc_seq ?_
          refine sc_seq ?_
          refine sc_reg ?_
          refine Go.XK.s (v := .bool false) (e_move rfl) ?_
          refine Go.XK.s (v := .bool true) (e_not (b := false) rfl) ?_
          refine Go.XK.s (v := .bool true) (e_move rfl) ?_
          refine sl_gev (v := .int .i64 (j : Int)) rfl rfl rfl (e_move rfl) rfl (by decide) ?_
          refine sl_gev (v := .slice A im.length c) rfl rfl rfl (e_move rfl) rfl (by decide) ?_
          refine sl_gev (v := .int .i64 (im.length : Int)) rfl rfl rfl (e_len Try.underlying23 rfl) rfl (by decide) ?_
          refine sl_gev (v := .bool (decide ((j : Int) < (im.length : Int)))) rfl rfl rfl (e_lt rfl rfl) rfl (by decide) ?_
          refine Go.XK.s (v := .bool (decide ((j : Int) < (im.length : Int)))) (e_pickT rfl rfl rfl) ?_
          refine sl_nil (nrm_k ?_)
          refine sc_ifd rfl (fun c118 => ?_) (fun c118 => ?_)
          ·
            obtain ⟨y3, hy3⟩ : ∃ y3, im[j]? = some y3 := ⟨_, List.getElem?_eq_getElem (by omega)⟩
            refine sc_reg ?_
            refine Go.XK.s (v := .slice A im.length c) (e_move rfl) ?_
            refine Go.XK.s (v := .int .i64 (j : Int)) (e_move rfl) ?_
            refine Go.XK.s (v := .pointer (some (el A 1 (j : Int) 0))) (e_idxEl (e := y3) Try.underlying23 Try.sizeOf9 rfl rfl (hl.1.ext xw_w21) hy3 (by omega) rfl) ?_
            refine Go.XK.s (v := .string (B y3)) (e_ldEl (xs := im) (enc := encS) (e := y3) rfl (hl.1.ext xw_w21) hy3 Try.isAgg9 rfl) ?_
            refine Go.XK.s (v := .string (B y3)) (e_assign rfl) ?_
            refine sl_nil (nrm_k ?_)
            refine sc_seq ?_
            refine sc_reg ?_
            refine Go.XK.s (v := .string (B y)) (e_move rfl) ?_
            refine Go.XK.s (v := .string (B y3)) (e_move rfl) ?_
            refine Go.XK.s (v := .bool (decide (y ≠ y3))) (e_sne rfl rfl) ?_
            refine sl_nil (nrm_k ?_)
            refine sc_no rfl (by first | exact decide_eq_false (fun h_ => h_ (hat.1 _ hv_)) | exact decide_eq_false (fun h_ => h_ (by rw [hyn, List.getD_eq_getElem?_getD, hy3]; rfl)) | exact decide_eq_false (fun h_ => h_ (by rw [hyn, List.getD_eq_getElem?_getD, List.getElem?_eq_none (by omega)]; rfl))) ?_
            refine sc_skip (nrm_k ?_)
            refine sc_reg ?_
            refine Go.XK.s (v := .int .i64 ((j : Int) + 1)) (e_add rfl rfl (by omega)) ?_
            refine Go.XK.s (v := .int .i64 ((j : Int) + 1)) (e_move rfl) ?_
            refine sl_nil ?_
            exact nrm_loopq rfl _ _ (by omega) ⟨j + 1, rfl, rfl, xw_w21, hM42, hoIk, (by omega)⟩ (.cons rfl (.cons rfl (.cons rfl (.cons rfl (.cons rfl (.cons rfl (.nil)))))))
          ·
            refine sc_skip (nrm_k ?_)
            refine sc_seq ?_
            refine sc_reg ?_
            refine Go.XK.s (v := .string (B y)) (e_move rfl) ?_
            refine Go.XK.s (v := .string (B [])) (e_move rfl) ?_
            refine Go.XK.s (v := .bool (decide (y ≠ []))) (e_sne rfl rfl) ?_
            refine sl_nil (nrm_k ?_)
            refine sc_no rfl (by first | exact decide_eq_false (fun h_ => h_ (hat.1 _ hv_)) | exact decide_eq_false (fun h_ => h_ (by rw [hyn, List.getD_eq_getElem?_getD, hy3]; rfl)) | exact decide_eq_false (fun h_ => h_ (by rw [hyn, List.getD_eq_getElem?_getD, List.getElem?_eq_none (by omega)]; rfl))) ?_
            refine sc_skip (nrm_k ?_)
            refine sc_reg ?_
            refine Go.XK.s (v := .int .i64 ((j : Int) + 1)) (e_add rfl rfl (by omega)) ?_
            refine Go.XK.s (v := .int .i64 ((j : Int) + 1)) (e_move rfl) ?_
            refine sl_nil ?_
            exact nrm_loopq rfl _ _ (by omega) ⟨j + 1, rfl, rfl, xw_w21, hM42, hoIk, (by omega)⟩ (.cons rfl (.cons rfl (.cons rfl (.cons rfl (.cons rfl (.cons rfl (.nil)))))))
        ·
          refine sc_reg ?_
          refine Go.XK.s (v := .map (some b42)) (e_move rfl) ?_
          refine Go.XK.s (v := .int .i64 (j : Int)) (e_move rfl) ?_
          obtain ⟨v_, hv_⟩ := Option.ne_none_iff_exists'.1 g23
          obtain ⟨_, _, y2, hy2_⟩ := hWI.inn _ _ hv_
          subst hy2_
          refine Go.XK.s (v := .tuple #[.string (B y2), .bool true]) (Ev.eqv (by rw [hv_]; rfl) (e_mapLookOk (key := (j : Int)) kT Try.underlying47 Try.zeroValue9 hM42 rfl rfl (wfI (by omega) (by omega)))) ?_
          refine Go.XK.s (v := .tuple #[.string (B y2), .bool true]) (e_move rfl) ?_
          refine Go.XK.s (v := .string (B y2)) (e_extract (vs := [.string (B y2), .bool true]) rfl rfl) ?_
          refine Go.XK.s (v := .bool true) (e_extract (vs := [.string (B y2), .bool true]) rfl rfl) ?_
          refine Go.XK.s (v := .string (B y2)) (e_assign rfl) ?_
          refine Go.XK.s (v := .bool true) (e_assign rfl) ?_
          refine sl_nil (nrm_k ?_)
          refine sc_seq ?_
          refine sc_seq ?_
          refine sc_reg ?_
          refine Go.XK.s (v := .bool true) (e_move rfl) ?_
          refine Go.XK.s (v := .bool false) (e_not (b := true) rfl) ?_
          refine Go.XK.s (v := .bool false) (e_move rfl) ?_
          refine sl_gskip rfl rfl rfl (by decide) ?_
          refine sl_gskip rfl rfl rfl (by decide) ?_
          refine sl_gskip rfl rfl rfl (by decide) ?_
          refine sl_gskip rfl rfl rfl (by decide) ?_
          refine Go.XK.s (v := .bool false) (e_pickF rfl rfl rfl) ?_
          refine sl_nil (nrm_k ?_)
          refine sc_no rfl rfl ?_
          refine sc_skip (nrm_k ?_)
          refine sc_seq ?_
          refine sc_reg ?_
          refine Go.XK.s (v := .string (B y)) (e_move rfl) ?_
          refine Go.XK.s (v := .string (B y2)) (e_move rfl) ?_
          refine Go.XK.s (v := .bool (decide (y ≠ y2))) (e_sne rfl rfl) ?_
          refine sl_nil (nrm_k ?_)
          refine sc_no rfl (by first | exact decide_eq_false (fun h_ => h_ (hat.1 _ hv_)) | exact decide_eq_false (fun h_ => h_ (by rw [hyn, List.getD_eq_getElem?_getD, hy3]; rfl)) | exact decide_eq_false (fun h_ => h_ (by rw [hyn, List.getD_eq_getElem?_getD, List.getElem?_eq_none (by omega)]; rfl))) ?_
          refine sc_skip (nrm_k ?_)
          refine sc_reg ?_
          refine Go.XK.s (v := .int .i64 ((j : Int) + 1)) (e_add rfl rfl (by omega)) ?_
          refine Go.XK.s (v := .int .i64 ((j : Int) + 1)) (e_move rfl) ?_
          refine sl_nil ?_
          exact nrm_loopq rfl _ _ (by omega) ⟨j + 1, rfl, rfl, xw_w21, hM42, hoIk, (by omega)⟩ (.cons rfl (.cons rfl (.cons rfl (.cons rfl (.cons rfl (.cons rfl (.nil)))))))
      ·
        refine sc_exit rfl (nrm_k ?_)
        refine sc_seq ?_
        refine sc_seq ?_
        refine sc_reg ?_
        refine Go.XK.s (v := .map (some b42)) (e_move rfl) ?_
        refine s_range kT Try.underlying47 rfl hM42 ?_
        intro b128 w24 cnt128 hR128 he128 hx128
        have ge_b128 : w.heap.size ≤ b128 := by have h_ := (Below.size xw_w21); omega
        have xw_w24 : Ext w w24 := Ext.tr xw_w21 hx128
        replace hM42 := hM42.ext hx128
        replace hoIk := hoIk.ext hx128
        refine sl_nil (nrm_k ?_)
        refine sc_block ?_
        refine sc_loop (fun m_ l_ w_ => ∃ (cnt : Nat), m_ = cnt ∧ l_ = [(13, .slice AIk o.length cIk), (128, .pointer (some ⟨b128, 0, none⟩))] ∧ Ext w w_ ∧ MpI w_ b42 m f ∧ Go.XK.Own w_ w.heap.size 9 1 encS (.slice AIk o.length cIk) o ∧ RgI w_ b42 b128 m f cnt) _ [(13, .slice AIk o.length cIk), (128, .pointer (some ⟨b128, 0, none⟩))] ⟨cnt128, rfl, rfl, xw_w24, hM42, hoIk, hR128⟩ (.cons rfl (.cons rfl (.nil))) ?_
        rintro j26 _ w25 ⟨cnt, rfl, rfl, xw_w25, hM42, hoIk, hR128⟩
        refine sc_seq ?_
        refine sc_reg ?_
        refine s_next kT rfl hR128 ?_ ?_
        ·
          refine Go.XK.s (v := .bool false) (e_extract (vs := [.bool false]) rfl rfl) ?_
          refine sl_nil (nrm_k ?_)
          refine sc_seq ?_
          refine sc_no rfl rfl ?_
          refine sc_exit rfl (nrm_k ?_)
          refine sc_seq ?_
          refine sc_reg ?_
          refine Go.XK.s (v := .bool true) (e_assign rfl) ?_
          refine sl_nil (nrm_k ?_)
          refine sc_retf rfl (ret1 Try.results5 (rvt rfl) ?_)
          exact ⟨rfl, xw_w25⟩
        · intro p u w27 cnt_w27 hok_ hf_ hn_ hlt_ hm_w27 hent_hR128
          have ho_ := hR128
          replace hR128 := hn_
          clear hn_
          replace hM42 := hM42.mut hm_w27 (Ne.symm (Rg.ne_mp ho_ hM42))
          replace hoIk := hoIk.mut hm_w27 (Rg.ne_own ho_ hoIk)
          have xw_w27 : Ext w w27 := below_mut xw_w25 (Below.size xw_w25) hm_w27 ge_b128
          refine Go.XK.s (v := .bool true) (e_extract (vs := [.bool true, .int .i64 p, u]) rfl rfl) ?_
          refine sl_nil (nrm_k ?_)
          refine sc_seq ?_
          refine sc_yes rfl rfl ?_
          refine sc_skip (nrm_k ?_)
          refine sc_block ?_
          refine sc_seq ?_
          refine sc_reg ?_
          refine Go.XK.s (v := .tuple #[.int .i64 p, u]) (e_entryOp rfl hent_hR128) ?_
          refine Go.XK.s (v := .int .i64 p) (e_extract (vs := [.int .i64 p, u]) rfl rfl) ?_
          refine Go.XK.s (v := .int .i64 p) (e_assign rfl) ?_
          refine sl_nil (nrm_k ?_)
          refine sc_seq ?_
          refine sc_reg ?_
          refine Go.XK.s (v := .int .i64 p) (e_move rfl) ?_
          refine Go.XK.s (v := .slice AIk o.length cIk) (e_move rfl) ?_
          refine Go.XK.s (v := .int .i64 (o.length : Int)) (e_lenOwn Try.underlying23 rfl hoIk (fun _ => rfl)) ?_
          refine Go.XK.s (v := .bool (decide ((o.length : Int) ≤ p))) (e_ge rfl rfl) ?_
          refine sl_nil (nrm_k ?_)
          refine sc_no rfl (by exact decide_eq_false (by have h_ := (hWI.inn _ _ hf_).2.1; omega)) ?_
          refine sc_skip ?_
          exact nrm_loopq rfl _ _ (by omega) ⟨cnt_w27, rfl, rfl, xw_w27, hM42, hoIk, hR128⟩ (.cons rfl (.cons rfl (.nil)))

end Go.Proofs.Ytfcjianiodiejaa
