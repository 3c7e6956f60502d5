/- Chapter 52: C5. Printed by my program wip/tools/wk.py. -/
import Derived.Test.YtfcjianiodiejaaC4
set_option linter.unusedVariables false
set_option linter.unusedSimpArgs false
set_option maxRecDepth 4000
set_option maxHeartbeats 4000000
namespace Go.Proofs.Ytfcjianiodiejaa
open Go.XK Go.RowKit
/-- masterdisc/masterdiscref52.Cut (function 15) -/
theorem rcut_c (im : Img) (A : Option Addr) (c : Nat) (ws : List Wr) (Aw : Option Addr) (cw : Nat) (z : Int) (w : World) (hl : SlR w A c 1 encS im) (hw : SlR w Aw cw 4 encW ws) (hin : Inn w ws) : CallR Try.prog 15 [.slice A im.length c, .slice Aw ws.length cw, .int .i64 z] w (fun v w' => ∃ v1, v = .tuple #[v1, .int .i64 (cutR im ws z).2] ∧ Go.XK.Own w' w.heap.size 9 1 encS v1 (cutR im ws z).1 ∧ Ext w w') := by
  have hmx0 := hl.lenle
  simp only [maxLen] at hmx0
  have hmx1 := hw.lenle
  simp only [maxLen] at hmx1
  refine callR_of (n := 84) [(0, .slice A im.length c), (1, .slice Aw ws.length cw), (2, .int .i64 z)] Try.func15 rfl rfl (Nat.le_of_ble_eq_true rfl) rfl ?_
  refine sc_seq ?_
  refine sc_reg ?_
  refine Go.XK.s (v := .slice none 0 0) (e_assign rfl) ?_
  refine Go.XK.s (v := .int .i64 0) (e_assign rfl) ?_
  refine sl_nil (nrm_k ?_)
  refine sc_seq ?_
  refine sc_seq ?_
  refine sc_reg ?_
  refine Go.XK.s (v := .slice A im.length c) (e_move rfl) ?_
  refine Go.XK.s (v := .slice Aw ws.length cw) (e_move rfl) ?_
  refine sl_call ent18 rfl rfl (rvalid_c _ _ _ _ _ _ w (hl.ext (Ext.rfl' w)) (hw.ext (Ext.rfl' w)) (hin.ext (Ext.rfl' w))) (by decide) ?_
  rintro _ w1 ⟨rfl, hw1⟩
  have xw_w1 : Ext w w1 := Ext.tr (Ext.rfl' w) hw1
  refine Go.XK.s (v := .bool (!(valid im ws))) (e_not rfl) ?_
  refine sl_nil (nrm_k ?_)
  refine sc_if rfl (fun c15 => ?_) (fun c15 => ?_)
  ·
    refine sc_seq ?_
    refine sc_reg ?_
    refine Go.XK.s (v := .slice none 0 0) (e_assign rfl) ?_
    refine Go.XK.s (v := .int .i64 1) (e_assign rfl) ?_
    refine sl_nil (nrm_k ?_)
    refine sc_retf rfl (ret2 Try.results15 (rvt rfl) (rvt rfl) ?_)
    have hcR : cutR im ws z = ([], 1) := by
      rw [cutR, if_pos (by simpa using c15)]
    exact ⟨.slice none 0 0, by rw [hcR], by rw [hcR]; exact Go.XK.Own.nil _ _ _ _ _, xw_w1⟩
  ·
    have hv : valid im ws = true := by simpa using c15
    obtain ⟨hm1, hm2, hm3, hokw⟩ := valid_spec hv
    have hmL := valid_len hv
    refine sc_skip (nrm_k ?_)
    refine sc_seq ?_
    refine sc_seq ?_
    rcases Classical.em (z < 0) with g2 | g2
    ·
      refine sc_reg ?_
      refine Go.XK.s (v := .int .i64 z) (e_move rfl) ?_
      refine Go.XK.s (v := .bool (decide (z < 0))) (e_lt rfl rfl) ?_
      refine Go.XK.s (v := .bool (decide (z < 0))) (e_move rfl) ?_
      refine sl_gskip rfl rfl (decide_eq_true g2) (by decide) ?_
      refine sl_gskip rfl rfl (decide_eq_true g2) (by decide) ?_
      refine sl_gskip rfl rfl (decide_eq_true g2) (by decide) ?_
      refine sl_gskip rfl rfl (decide_eq_true g2) (by decide) ?_
      refine Go.XK.s (v := .bool true) (e_pickT rfl (decide_eq_true g2) rfl) ?_
      refine sl_nil (nrm_k ?_)
      refine sc_yes rfl rfl ?_
      refine sc_seq ?_
      refine sc_reg ?_
      refine Go.XK.s (v := .slice none 0 0) (e_assign rfl) ?_
      refine Go.XK.s (v := .int .i64 2) (e_assign rfl) ?_
      refine sl_nil (nrm_k ?_)
      refine sc_retf rfl (ret2 Try.results15 (rvt rfl) (rvt rfl) ?_)
      have hcR : cutR im ws z = ([], 2) := by
        rw [cutR, if_neg (by simp [hv]), if_pos (by omega)]
      exact ⟨.slice none 0 0, by rw [hcR], by rw [hcR]; exact Go.XK.Own.nil _ _ _ _ _, xw_w1⟩
    ·
      refine sc_reg ?_
      refine Go.XK.s (v := .int .i64 z) (e_move rfl) ?_
      refine Go.XK.s (v := .bool (decide (z < 0))) (e_lt rfl rfl) ?_
      refine Go.XK.s (v := .bool (decide (z < 0))) (e_move rfl) ?_
      refine sl_gev (v := .int .i64 z) rfl rfl (decide_eq_false g2) (e_move rfl) rfl (by decide) ?_
      refine sl_gev (v := .slice Aw ws.length cw) rfl rfl (decide_eq_false g2) (e_move rfl) rfl (by decide) ?_
      refine sl_gcall rfl rfl (decide_eq_false g2) ent13 rfl rfl (rsteps_c _ _ _ w1 (hw.ext xw_w1) (hin.ext xw_w1) (by omega)) (by decide) ?_
      rintro _ w3 ⟨rfl, hw3⟩
      have xw_w3 : Ext w w3 := Ext.tr xw_w1 hw3
      refine sl_gev (v := .bool (decide (((stL ws).length : Int) < z))) rfl rfl (decide_eq_false g2) (e_gt rfl rfl) rfl (by decide) ?_
      refine Go.XK.s (v := .bool (decide (((stL ws).length : Int) < z))) (e_pickF rfl (decide_eq_false g2) rfl) ?_
      refine sl_nil (nrm_k ?_)
      refine sc_ifd rfl (fun c23 => ?_) (fun c23 => ?_)
      ·
        refine sc_seq ?_
        refine sc_reg ?_
        refine Go.XK.s (v := .slice none 0 0) (e_assign rfl) ?_
        refine Go.XK.s (v := .int .i64 2) (e_assign rfl) ?_
        refine sl_nil (nrm_k ?_)
        refine sc_retf rfl (ret2 Try.results15 (rvt rfl) (rvt rfl) ?_)
        have hcR : cutR im ws z = ([], 2) := by
          rw [cutR, if_neg (by simp [hv]), if_pos (by omega)]
        exact ⟨.slice none 0 0, by rw [hcR], by rw [hcR]; exact Go.XK.Own.nil _ _ _ _ _, xw_w3⟩
      ·
        have hcR : cutR im ws z = (cutL (stL ws) z.toNat im, 0) := by
          rw [cutR, if_neg (by simp [hv]), if_neg (by omega)]
        refine sc_skip (nrm_k ?_)
        refine sc_seq ?_
        refine sc_reg ?_
        refine s_bslice (vs := []) (e := 9) rfl [] (by kernel_rfl) ?_
        intro b24 w4 hb24 he24 hs24 hx24
        have ge_b24 : w.heap.size ≤ b24 := by have h_ := (Below.size xw_w3); omega
        have xw_w4 : Ext w w4 := Ext.tr xw_w3 hx24
        have ho24 : Go.XK.Own w4 w.heap.size 9 1 encS (.slice (some ⟨b24, 0, none⟩) 0 0) [] := Go.XK.Own.ofBlk (xs := []) hb24 ge_b24 (fun _ => rfl) (by simp)
        refine Go.XK.s (v := .slice A im.length c) (e_move rfl) ?_
        refine s_appendRd (w0 := w) (z := .string (B [])) (kk := 1) (bytes := 16) rfl rfl Try.underlying23 (by kernel_rfl) rfl (by decide) (fun _ => rfl) one_encS im ho24 xw_w4 (hl.ext xw_w4) rfl (by simp only [maxLen, List.length_nil]; omega) (by simp only [maxLen, List.length_nil]; omega) ?_
        intro v26 w5 ho26 xw_w5 hg26 hat26
        rw [List.nil_append] at ho26
        refine Go.XK.s (v := v26) (e_assign rfl) ?_
        refine sl_nil (nrm_k ?_)
        refine sc_seq ?_
        refine sc_seq ?_
        refine sc_reg ?_
        refine Go.XK.s (v := .int .i64 0) (e_assign rfl) ?_
        refine sl_nil (nrm_k ?_)
        refine sc_block ?_
        refine sc_loop (fun m_ l_ w_ => ∃ (i : Nat) (m : Int) (v_ : Value) (xs_ : Img), m_ = ws.length - i ∧ l_ = [(9, .int .i64 (i : Int)), (2, .int .i64 m), (8, v_), (0, .slice A im.length c), (1, .slice Aw ws.length cw), (6, .slice none 0 0), (7, .int .i64 0)] ∧ Ext w w_ ∧ Go.XK.Own w_ w.heap.size 9 1 encS v_ xs_ ∧ (i ≤ ws.length ∧ xs_.length ≤ 4096 ∧ 0 ≤ m ∧ m ≤ 8390656) ∧ (∀ rest, cutL (stL (ws.take i) ++ rest) z.toNat im = cutL rest m.toNat xs_)) _ [(9, .int .i64 (0 : Int)), (2, .int .i64 z), (8, v26), (0, .slice A im.length c), (1, .slice Aw ws.length cw), (6, .slice none 0 0), (7, .int .i64 0)] ⟨0, z, v26, im, rfl, rfl, xw_w5, ho26, ⟨⟨by omega, by omega, by omega, by omega⟩, fun rest => rfl⟩⟩ (.cons rfl (.cons rfl (.cons rfl (.cons rfl (.cons rfl (.cons rfl (.cons rfl (.nil)))))))) ?_
        rintro j7 _ w6 ⟨i, m, v_, xs_, rfl, rfl, xw_w6, ho, ⟨⟨hi, hxl, hm0_, hmu_⟩, hcut⟩⟩
        refine sc_seq ?_
        refine sc_seq ?_
        refine sc_reg ?_
        refine Go.XK.s (v := .int .i64 (i : Int)) (e_move rfl) ?_
        refine Go.XK.s (v := .slice Aw ws.length cw) (e_move rfl) ?_
        refine Go.XK.s (v := .int .i64 (ws.length : Int)) (e_len Try.underlying24 rfl) ?_
        refine Go.XK.s (v := .bool (decide ((i : Int) < (ws.length : Int)))) (e_lt rfl rfl) ?_
        refine sl_nil (nrm_k ?_)
        refine sc_ifd rfl (fun c30 => ?_) (fun c30 => ?_)
        ·
          obtain ⟨x, hx⟩ : ∃ x, ws[i]? = some x := ⟨_, List.getElem?_eq_getElem (by omega)⟩
          have hin_x := hin x (List.mem_of_getElem? hx)
          have hmx2 := hin_x.lenle
          simp only [maxLen] at hmx2
          have hxw := okW_spec (List.all_eq_true.1 hokw x (List.mem_of_getElem? hx))
          refine sc_skip (nrm_k ?_)
          refine sc_seq ?_
          refine sc_block ?_
          refine sc_seq ?_
          refine sc_reg ?_
          refine Go.XK.s (v := .slice Aw ws.length cw) (e_move rfl) ?_
          refine Go.XK.s (v := .int .i64 (i : Int)) (e_move rfl) ?_
          refine Go.XK.s (v := .pointer (some (el Aw 4 (i : Int) 0))) (e_idxEl (e := x) Try.underlying24 Try.sizeOf49 rfl rfl (hw.1.ext xw_w6) hx (by omega) rfl) ?_
          refine Go.XK.s (v := .agg #[.int .i64 x.p, .slice x.A x.bl.length x.c, .bool x.sy, .bool x.cl]) (e_ldElA (xs := ws) (enc := encW) (e := x) rfl (hw.1.ext xw_w6) hx Try.isAgg49 Try.sizeOf49 rfl) ?_
          refine s_alloc (cs := [.int .i64 0, .slice none 0 0, .bool false, .bool false]) Try.zeroValue49 rfl ?_
          intro b10 w8 hb10 he10 hs10 hx10
          have no_b10_ho : Value.ownBlock v_ ≠ some b10 := fun h_ => by have h2_ := (Go.XK.Own.lt ho _ h_).2; omega
          have ge_b10 : w.heap.size ≤ b10 := by have h_ := (Below.size xw_w6); omega
          have xw_w8 : Ext w w8 := Ext.tr xw_w6 hx10
          replace ho := ho.ext hx10
          refine su_blkV [.int .i64 x.p, .slice x.A x.bl.length x.c, .bool x.sy, .bool x.cl] [.int .i64 x.p, .slice x.A x.bl.length x.c, .bool x.sy, .bool x.cl] rfl rfl hb10 rfl Try.sizeOf49 (Nat.le_of_ble_eq_true rfl) rfl rfl ?_
          intro w9 hn_ hm_w9 hs_w9
          have ho_ := hb10
          replace hb10 := hn_
          clear hn_
          replace ho := ho.mut hm_w9 no_b10_ho
          have xw_w9 : Ext w w9 := below_mut xw_w8 (Below.size xw_w8) hm_w9 ge_b10
          refine sl_nil (nrm_k ?_)
          refine sc_seq ?_
          refine sc_seq ?_
          refine sc_reg ?_
          refine Go.XK.s (v := .pointer (some ⟨b10, 3, none⟩)) (e_fieldB (sz := 1) Try.underlying49 rfl Try.sizeOf4 (by decide) rfl rfl) ?_
          refine Go.XK.s (v := .bool x.cl) (e_load rfl (load1 Try.isAgg4 (hb10.cell (j := 3) rfl))) ?_
          refine sl_nil (nrm_k ?_)
          refine sc_if rfl (fun c38 => ?_) (fun c38 => ?_)
          ·
            have hbl := hxw.2.2.2.1 c38
            refine sc_seq ?_
            refine sc_seq ?_
            refine sc_reg ?_
            refine Go.XK.s (v := .int .i64 m) (e_move rfl) ?_
            refine Go.XK.s (v := .bool (decide (m = 0))) (e_eq rfl rfl) ?_
            refine sl_nil (nrm_k ?_)
            refine sc_ifd rfl (fun c40 => ?_) (fun c40 => ?_)
            ·
              refine sc_seq ?_
              refine sc_reg ?_
              refine Go.XK.s (v := v_) (e_move rfl) ?_
              refine Go.XK.s (v := v_) (e_assign rfl) ?_
              refine Go.XK.s (v := .int .i64 0) (e_assign rfl) ?_
              refine sl_nil (nrm_k ?_)
              refine sc_retf rfl (ret2 Try.results15 (rvt rfl) (rvt rfl) ?_)
              have hm0 : m = 0 := by omega
              subst hm0
              have hce := cut_tearC hx c38 hbl hcut
              rw [← hce] at ho
              exact ⟨_, by rw [hcR], by rw [hcR]; exact ho, xw_w9⟩
            ·
              refine sc_skip (nrm_k ?_)
              refine sc_seq ?_
              refine sc_reg ?_
              refine Go.XK.s (v := .int .i64 m) (e_move rfl) ?_
              refine Go.XK.s (v := .int .i64 (m - 1)) (e_sub rfl rfl (by omega)) ?_
              refine Go.XK.s (v := .int .i64 (m - 1)) (e_assign rfl) ?_
              refine sl_nil (nrm_k ?_)
              refine sc_exit rfl (nrm_k ?_)
              refine sc_reg ?_
              refine Go.XK.s (v := .int .i64 (i : Int)) (e_move rfl) ?_
              refine Go.XK.s (v := .int .i64 ((i : Int) + 1)) (e_add rfl rfl (by omega)) ?_
              refine Go.XK.s (v := .int .i64 ((i : Int) + 1)) (e_assign rfl) ?_
              refine sl_nil ?_
              exact nrm_loopq rfl _ _ (by omega) ⟨i + 1, m - 1, v_, xs_, rfl, rfl, xw_w9, ho, ⟨⟨by omega, hxl, by omega, by omega⟩, cut_putC (m := (m - 1).toNat) hx c38 hbl (by rw [show (m - 1).toNat + 1 = m.toNat from by omega]; exact hcut)⟩⟩ (.cons rfl (.cons rfl (.cons rfl (.cons rfl (.cons rfl (.cons rfl (.cons rfl (.nil))))))))
          ·
            refine sc_skip (nrm_k ?_)
            refine sc_seq ?_
            refine sc_reg ?_
            refine Go.XK.s (v := .int .i64 0) (e_assign rfl) ?_
            refine sl_nil (nrm_k ?_)
            refine sc_block ?_
            refine sc_loop (fun m_ l_ w_ => ∃ (k : Nat) (m2 : Int) (v2 : Value) (xs2 : Img), m_ = x.bl.length - k ∧ l_ = [(11, .int .i64 (k : Int)), (2, .int .i64 m2), (8, v2), (0, .slice A im.length c), (1, .slice Aw ws.length cw), (6, .slice none 0 0), (7, .int .i64 0), (9, .int .i64 (i : Int)), (10, .pointer (some ⟨b10, 0, none⟩))] ∧ Ext w w_ ∧ Blk w_ b10 49 [.int .i64 x.p, .slice x.A x.bl.length x.c, .bool x.sy, .bool x.cl] ∧ Go.XK.Own w_ w.heap.size 9 1 encS v2 xs2 ∧ (k ≤ x.bl.length ∧ xs2.length ≤ 4096 ∧ 0 ≤ m2 ∧ m2 ≤ 8390656) ∧ (∀ rest, cutL (stL (ws.take i) ++ stB x.p (x.bl.take k) ++ rest) z.toNat im = cutL rest m2.toNat xs2)) _ [(11, .int .i64 (0 : Int)), (2, .int .i64 m), (8, v_), (0, .slice A im.length c), (1, .slice Aw ws.length cw), (6, .slice none 0 0), (7, .int .i64 0), (9, .int .i64 (i : Int)), (10, .pointer (some ⟨b10, 0, none⟩))] ⟨0, m, v_, xs_, rfl, rfl, xw_w9, hb10, ho, ⟨⟨by omega, hxl, hm0_, hmu_⟩, by intro rest; rw [← hcut]; simp [stB]⟩⟩ (.cons rfl (.cons rfl (.cons rfl (.cons rfl (.cons rfl (.cons rfl (.cons rfl (.cons rfl (.cons rfl (.nil)))))))))) ?_
            rintro j11 _ w10 ⟨k, m2, v2, xs2, rfl, rfl, xw_w10, hb10, ho, ⟨⟨hk, hxl2, hm2_, hmv_⟩, hcut2⟩⟩
            refine sc_seq ?_
            refine sc_seq ?_
            refine sc_reg ?_
            refine Go.XK.s (v := .int .i64 (k : Int)) (e_move rfl) ?_
            refine Go.XK.s (v := .pointer (some ⟨b10, 1, none⟩)) (e_fieldB (sz := 1) Try.underlying49 rfl Try.sizeOf22 (by decide) rfl rfl) ?_
            refine Go.XK.s (v := .slice x.A x.bl.length x.c) (e_load rfl (load1 Try.isAgg22 (hb10.cell (j := 1) rfl))) ?_
            refine Go.XK.s (v := .int .i64 (x.bl.length : Int)) (e_len Try.underlying22 rfl) ?_
            refine Go.XK.s (v := .bool (decide ((k : Int) < (x.bl.length : Int)))) (e_lt rfl rfl) ?_
            refine sl_nil (nrm_k ?_)
            refine sc_ifd rfl (fun c48 => ?_) (fun c48 => ?_)
            ·
              obtain ⟨y, hy⟩ : ∃ y, x.bl[k]? = some y := ⟨_, List.getElem?_eq_getElem (by omega)⟩
              have hpw : wr64 (x.p + (k : Int)) = x.p + k := wr64_id (by omega) (by omega)
              refine sc_skip (nrm_k ?_)
              refine sc_seq ?_
              refine sc_block ?_
              refine sc_seq ?_
              refine sc_block ?_
              refine sc_loop (fun m_ l_ w_ => ∃ (v3 : Value) (xs3 : Img), m_ = (x.p + k).toNat + 1 - xs3.length ∧ l_ = [(8, v3), (0, .slice A im.length c), (1, .slice Aw ws.length cw), (2, .int .i64 m2), (6, .slice none 0 0), (7, .int .i64 0), (9, .int .i64 (i : Int)), (10, .pointer (some ⟨b10, 0, none⟩)), (11, .int .i64 (k : Int))] ∧ Ext w w_ ∧ Blk w_ b10 49 [.int .i64 x.p, .slice x.A x.bl.length x.c, .bool x.sy, .bool x.cl] ∧ Go.XK.Own w_ w.heap.size 9 1 encS v3 xs3 ∧ ∃ kk : Nat, xs3 = xs2 ++ List.replicate kk [] ∧ (xs3.length : Int) ≤ max (xs2.length : Int) (x.p + k + 1)) _ [(8, v2), (0, .slice A im.length c), (1, .slice Aw ws.length cw), (2, .int .i64 m2), (6, .slice none 0 0), (7, .int .i64 0), (9, .int .i64 (i : Int)), (10, .pointer (some ⟨b10, 0, none⟩)), (11, .int .i64 (k : Int))] ⟨v2, xs2, rfl, rfl, xw_w10, hb10, ho, ⟨0, by simp, by omega⟩⟩ (.cons rfl (.cons rfl (.cons rfl (.cons rfl (.cons rfl (.cons rfl (.cons rfl (.cons rfl (.cons rfl (.nil)))))))))) ?_
              rintro j13 _ w12 ⟨v3, xs3, rfl, rfl, xw_w12, hb10, ho, ⟨kk, hxs, hlen⟩⟩
              refine sc_seq ?_
              refine sc_seq ?_
              refine sc_reg ?_
              refine Go.XK.s (v := v3) (e_move rfl) ?_
              refine Go.XK.s (v := .int .i64 (xs3.length : Int)) (e_lenOwn Try.underlying23 rfl ho (fun _ => rfl)) ?_
              refine Go.XK.s (v := .pointer (some ⟨b10, 0, none⟩)) (e_fieldB (sz := 1) Try.underlying49 rfl Try.sizeOf3 (by decide) rfl rfl) ?_
              refine Go.XK.s (v := .int .i64 x.p) (e_load rfl (load1 Try.isAgg3 (hb10.cell (j := 0) rfl))) ?_
              refine Go.XK.s (v := .int .i64 (k : Int)) (e_move rfl) ?_
              refine Go.XK.s (v := .int .i64 (x.p + (k : Int))) (e_add rfl rfl (by omega)) ?_
              refine Go.XK.s (v := .bool (decide ((xs3.length : Int) ≤ x.p + (k : Int)))) (e_le rfl rfl) ?_
              refine sl_nil (nrm_k ?_)
              refine sc_ifd rfl (fun c57 => ?_) (fun c57 => ?_)
              ·
                refine sc_skip (nrm_k ?_)
                refine sc_block ?_
                refine sc_reg ?_
                refine Go.XK.s (v := v3) (e_move rfl) ?_
                refine s_bslice (vs := [(0, .string (B []))]) (e := 9) rfl [.string (B [])] (by kernel_rfl) ?_
                intro b59 w14 hb59 he59 hs59 hx59
                have ne_b59_b10 : b59 ≠ b10 := by have h_ := hb10.lt; omega
                have no_b59_ho : Value.ownBlock v3 ≠ some b59 := fun h_ => by have h2_ := (Go.XK.Own.lt ho _ h_).2; omega
                have ge_b59 : w.heap.size ≤ b59 := by have h_ := (Below.size xw_w12); omega
                have xw_w14 : Ext w w14 := Ext.tr xw_w12 hx59
                replace hb10 := hb10.ext hx59
                replace ho := ho.ext hx59
                refine s_appendLit2 (w0 := w) (z := .string (B [])) (kk := 1) (bytes := 16) rfl rfl Try.underlying23 (by kernel_rfl) rfl (by decide) (fun _ => rfl) one_encS [[]] ho xw_w14 hb59 rfl rfl (by first | (simp only [maxLen]; omega) | omega) (by first | (simp only [maxLen]; omega) | omega) ?_
                intro v60 w15 ho60 xw_w15 hg60 hat60
                replace hb10 := hb10.grown hg60 (Own.ne ho hb10 (by decide))
                replace hb59 := hb59.grown hg60 no_b59_ho
                refine Go.XK.s (v := v60) (e_assign rfl) ?_
                refine sl_nil ?_
                exact nrm_loopq rfl _ _ (by (rw [List.length_append]; simp; omega)) ⟨v60, xs3 ++ [[]], rfl, rfl, xw_w15, hb10, ho60, ⟨kk + 1, by rw [hxs, List.append_assoc, List.replicate_succ'], by rw [List.length_append]; simp; omega⟩⟩ (.cons rfl (.cons rfl (.cons rfl (.cons rfl (.cons rfl (.cons rfl (.cons rfl (.cons rfl (.cons rfl (.nil))))))))))
              ·
                obtain ⟨y3, hy3⟩ : ∃ y3, xs3[(x.p + (k : Int)).toNat]? = some y3 := ⟨_, List.getElem?_eq_getElem (by omega)⟩
                have hll_ : (xs3.length : Int) ≤ 4096 := by omega
                refine sc_exit rfl (nrm_k ?_)
                refine sc_seq ?_
                refine sc_seq ?_
                refine sc_reg ?_
                refine Go.XK.s (v := .int .i64 m2) (e_move rfl) ?_
                refine Go.XK.s (v := .bool (decide (m2 = 0))) (e_eq rfl rfl) ?_
                refine sl_nil (nrm_k ?_)
                refine sc_ifd rfl (fun c62 => ?_) (fun c62 => ?_)
                ·
                  refine sc_seq ?_
                  refine sc_reg ?_
                  refine Go.XK.s (v := v3) (e_move rfl) ?_
                  refine Go.XK.s (v := .pointer (some ⟨b10, 0, none⟩)) (e_fieldB (sz := 1) Try.underlying49 rfl Try.sizeOf3 (by decide) rfl rfl) ?_
                  refine Go.XK.s (v := .int .i64 x.p) (e_load rfl (load1 Try.isAgg3 (hb10.cell (j := 0) rfl))) ?_
                  refine Go.XK.s (v := .int .i64 (k : Int)) (e_move rfl) ?_
                  refine Go.XK.s (v := .int .i64 (x.p + (k : Int))) (e_add rfl rfl (by omega)) ?_
                  refine Go.XK.s (v := .pointer (some (el (ownA v3) 1 (x.p + (k : Int)) 0))) (e_idxOwn (x0 := y3) Try.underlying23 Try.sizeOf9 rfl rfl ho (fun _ => rfl) hy3 (by omega)) ?_
                  refine su_ownSet (w0 := w) (x0 := y3) (v := v3) [33] rfl rfl ho xw_w12 (fun _ => rfl) hy3 (by decide) rfl rfl Try.sizeOf9 rfl ?_
                  intro w16 hn_ xw_w16 hg_w16
                  have ho_ := ho
                  replace hb10 := hb10.grown hg_w16 (Own.ne ho_ hb10 (by decide))
                  replace ho := hn_
                  clear hn_ ho_
                  refine sl_nil (nrm_k ?_)
                  refine sc_seq ?_
                  have hm0 : m2 = 0 := by omega
                  subst hm0
                  have hset : xs3.set (x.p + (k : Int)).toNat [33] = putI xs2 (x.p + k) [33] := by
                    have hll : xs3.length = xs2.length + kk := by rw [hxs]; simp
                    rw [putI, hxs, show (x.p + (k : Int)).toNat + 1 - xs2.length = kk from by omega]
                  rw [hset, ← cut_tearB hx hy hpw hcut2] at ho
                  refine sc_reg ?_
                  refine Go.XK.s (v := v3) (e_move rfl) ?_
                  refine Go.XK.s (v := v3) (e_assign rfl) ?_
                  refine Go.XK.s (v := .int .i64 0) (e_assign rfl) ?_
                  refine sl_nil (nrm_k ?_)
                  refine sc_retf rfl (ret2 Try.results15 (rvt rfl) (rvt rfl) ?_)
                  exact ⟨_, by rw [hcR], by rw [hcR]; exact ho, xw_w16⟩
                ·
                  refine sc_skip (nrm_k ?_)
                  refine sc_seq ?_
                  refine sc_free [(62, .bool (decide (m2 = 0))), (61, .int .i64 m2), (57, .bool (decide ((xs3.length : Int) ≤ x.p + (k : Int)))), (56, .int .i64 (x.p + (k : Int))), (55, .int .i64 (k : Int)), (54, .int .i64 x.p), (53, .pointer (some ⟨b10, 0, none⟩)), (52, .int .i64 (xs3.length : Int)), (51, v3), (8, v3), (0, .slice A im.length c), (1, .slice Aw ws.length cw), (2, .int .i64 m2), (6, .slice none 0 0), (7, .int .i64 0), (9, .int .i64 (i : Int)), (10, .pointer (some ⟨b10, 0, none⟩)), (11, .int .i64 (k : Int))] [70, 71, 72, 73, 74, 75, 76, 77, 78, 79] [(Is (v3)), (Is (.pointer (some ⟨b10, 0, none⟩))), (Is (.int .i64 x.p)), (Is (.int .i64 (k : Int))), (Is (.int .i64 (x.p + (k : Int)))), (Is (.pointer (some ⟨b10, 1, none⟩))), (Is (.slice x.A x.bl.length x.c)), (Is (.int .i64 (k : Int))), (Is (.pointer (some (el x.A 1 (k : Int) 0)))), (Is (.string (B y)))] [10, 11] (by kernel_rfl) (Sub.refl _) (by kernel_rfl) (by kernel_rfl) (by kernel_rfl) rfl (by kernel_rfl) (ds_ext (Stays.spec (.is _ (.is _ (.is _ (.is _ (.is _ (.is _ (.is _ (.is _ (.is _ (.is _ (.nil))))))))))))) ⟨?_, ?_, ?_, ?_, ?_, ?_, ?_, ?_, ?_, ?_, trivial⟩ ?_
                  · intro Q act_ wI hxI ha hp
                    have xw_wI : Ext w wI := Ext.tr xw_w12 hxI
                    replace hb10 := hb10.ext hxI
                    replace ho := ho.ext hxI
                    exact h_evA (v := v3) ha rfl (e_move rfl) rfl rfl (Ext.rfl' _)
                  · intro Q act_ wI hxI ha hp
                    have xw_wI : Ext w wI := Ext.tr xw_w12 hxI
                    replace hb10 := hb10.ext hxI
                    replace ho := ho.ext hxI
                    exact h_evA (v := .pointer (some ⟨b10, 0, none⟩)) ha rfl (e_fieldB (sz := 1) Try.underlying49 rfl Try.sizeOf3 (by decide) rfl rfl) rfl rfl (Ext.rfl' _)
                  · intro Q act_ wI hxI ha hp
                    have xw_wI : Ext w wI := Ext.tr xw_w12 hxI
                    replace hb10 := hb10.ext hxI
                    replace ho := ho.ext hxI
                    have ha := ha.add (show act_.tmps.getD 71 undef = .pointer (some ⟨b10, 0, none⟩) from hp 1 (by kernel_rfl) (by decide))
                    exact h_evA (v := .int .i64 x.p) ha rfl (e_load rfl (load1 Try.isAgg3 (hb10.cell (j := 0) rfl))) rfl rfl (Ext.rfl' _)
                  · intro Q act_ wI hxI ha hp
                    have xw_wI : Ext w wI := Ext.tr xw_w12 hxI
                    replace hb10 := hb10.ext hxI
                    replace ho := ho.ext hxI
                    exact h_evA (v := .int .i64 (k : Int)) ha rfl (e_move rfl) rfl rfl (Ext.rfl' _)
                  · intro Q act_ wI hxI ha hp
                    have xw_wI : Ext w wI := Ext.tr xw_w12 hxI
                    replace hb10 := hb10.ext hxI
                    replace ho := ho.ext hxI
                    have ha := ha.add (show act_.tmps.getD 72 undef = .int .i64 x.p from hp 2 (by kernel_rfl) (by decide))
                    have ha := ha.add (show act_.tmps.getD 73 undef = .int .i64 (k : Int) from hp 3 (by kernel_rfl) (by decide))
                    exact h_evA (v := .int .i64 (x.p + (k : Int))) ha rfl (e_add rfl rfl (by omega)) rfl rfl (Ext.rfl' _)
                  · intro Q act_ wI hxI ha hp
                    have xw_wI : Ext w wI := Ext.tr xw_w12 hxI
                    replace hb10 := hb10.ext hxI
                    replace ho := ho.ext hxI
                    exact h_evA (v := .pointer (some ⟨b10, 1, none⟩)) ha rfl (e_fieldB (sz := 1) Try.underlying49 rfl Try.sizeOf22 (by decide) rfl rfl) rfl rfl (Ext.rfl' _)
                  · intro Q act_ wI hxI ha hp
                    have xw_wI : Ext w wI := Ext.tr xw_w12 hxI
                    replace hb10 := hb10.ext hxI
                    replace ho := ho.ext hxI
                    have ha := ha.add (show act_.tmps.getD 75 undef = .pointer (some ⟨b10, 1, none⟩) from hp 5 (by kernel_rfl) (by decide))
                    exact h_evA (v := .slice x.A x.bl.length x.c) ha rfl (e_load rfl (load1 Try.isAgg22 (hb10.cell (j := 1) rfl))) rfl rfl (Ext.rfl' _)
                  · intro Q act_ wI hxI ha hp
                    have xw_wI : Ext w wI := Ext.tr xw_w12 hxI
                    replace hb10 := hb10.ext hxI
                    replace ho := ho.ext hxI
                    exact h_evA (v := .int .i64 (k : Int)) ha rfl (e_move rfl) rfl rfl (Ext.rfl' _)
                  · intro Q act_ wI hxI ha hp
                    have xw_wI : Ext w wI := Ext.tr xw_w12 hxI
                    replace hb10 := hb10.ext hxI
                    replace ho := ho.ext hxI
                    have ha := ha.add (show act_.tmps.getD 76 undef = .slice x.A x.bl.length x.c from hp 6 (by kernel_rfl) (by decide))
                    have ha := ha.add (show act_.tmps.getD 77 undef = .int .i64 (k : Int) from hp 7 (by kernel_rfl) (by decide))
                    exact h_evA (v := .pointer (some (el x.A 1 (k : Int) 0))) ha rfl (e_idxEl (e := y) Try.underlying22 Try.sizeOf9 rfl rfl (hin_x.1.ext xw_wI) hy (by omega) rfl) rfl rfl (Ext.rfl' _)
                  · intro Q act_ wI hxI ha hp
                    have xw_wI : Ext w wI := Ext.tr xw_w12 hxI
                    replace hb10 := hb10.ext hxI
                    replace ho := ho.ext hxI
                    have ha := ha.add (show act_.tmps.getD 78 undef = .pointer (some (el x.A 1 (k : Int) 0)) from hp 8 (by kernel_rfl) (by decide))
                    exact h_evA (v := .string (B y)) ha rfl (e_ldEl (xs := x.bl) (enc := encS) (e := y) rfl (hin_x.1.ext xw_wI) hy Try.isAgg9 rfl) rfl rfl (Ext.rfl' _)
                  intro vs_ w17 hx_w17 hvs act_ ha hv
                  have xw_w17 : Ext w w17 := Ext.tr xw_w12 hx_w17
                  replace hb10 := hb10.ext hx_w17
                  replace ho := ho.ext hx_w17
                  have ha := ha.add ((hv 0 (by decide)).trans (show vs_ 0 = v3 from hvs 0 (by decide)))
                  have ha := ha.add ((hv 4 (by decide)).trans (show vs_ 4 = .int .i64 (x.p + (k : Int)) from hvs 4 (by decide)))
                  have ha := ha.add ((hv 9 (by decide)).trans (show vs_ 9 = .string (B y) from hvs 9 (by decide)))
                  refine st_go ha ?_
                  clear ha hv hvs
                  refine st_ev (v := .pointer (some (el (ownA v3) 1 (x.p + (k : Int)) 0))) rfl (e_idxOwn (x0 := y3) Try.underlying23 Try.sizeOf9 rfl rfl ho (fun _ => rfl) hy3 (by omega)) ?_
                  refine st_ownSet (w0 := w) (x0 := y3) (v := v3) y rfl rfl rfl ho xw_w17 (fun _ => rfl) hy3 (by decide) rfl rfl Try.sizeOf9 rfl ?_
                  intro w18 hn_ xw_w18 hg_w18
                  have ho_ := ho
                  replace hb10 := hb10.grown hg_w18 (Own.ne ho_ hb10 (by decide))
                  replace ho := hn_
                  clear hn_ ho_
                  refine st_nil (nrm_k ?_)
                  have hset : xs3.set (x.p + (k : Int)).toNat y = putI xs2 (x.p + k) y := by
                    have hll : xs3.length = xs2.length + kk := by rw [hxs]; simp
                    rw [putI, hxs, show (x.p + (k : Int)).toNat + 1 - xs2.length = kk from by omega]
                  refine sc_reg ?_
                  refine Go.XK.s (v := .int .i64 m2) (e_move rfl) ?_
                  refine Go.XK.s (v := .int .i64 (m2 - 1)) (e_sub rfl rfl (by omega)) ?_
                  refine Go.XK.s (v := .int .i64 (m2 - 1)) (e_assign rfl) ?_
                  refine sl_nil (nrm_k ?_)
                  refine sc_reg ?_
                  refine Go.XK.s (v := .int .i64 (k : Int)) (e_move rfl) ?_
                  refine Go.XK.s (v := .int .i64 ((k : Int) + 1)) (e_add rfl rfl (by omega)) ?_
                  refine Go.XK.s (v := .int .i64 ((k : Int) + 1)) (e_assign rfl) ?_
                  refine sl_nil ?_
                  exact nrm_loopq rfl _ _ (by omega) ⟨k + 1, m2 - 1, v3, xs3.set (x.p + (k : Int)).toNat y, rfl, rfl, xw_w18, hb10, ho, ⟨⟨by omega, by rw [hset, putI_length]; omega, by omega, by omega⟩, by rw [hset]; exact cut_putB (m := (m2 - 1).toNat) hy hpw (by rw [show (m2 - 1).toNat + 1 = m2.toNat from by omega]; exact hcut2)⟩⟩ (.cons rfl (.cons rfl (.cons rfl (.cons rfl (.cons rfl (.cons rfl (.cons rfl (.cons rfl (.cons rfl (.nil))))))))))
            ·
              refine sc_exit rfl (nrm_k ?_)
              refine sc_reg ?_
              refine Go.XK.s (v := .int .i64 (i : Int)) (e_move rfl) ?_
              refine Go.XK.s (v := .int .i64 ((i : Int) + 1)) (e_add rfl rfl (by omega)) ?_
              refine Go.XK.s (v := .int .i64 ((i : Int) + 1)) (e_assign rfl) ?_
              refine sl_nil ?_
              exact nrm_loopq rfl _ _ (by omega) ⟨i + 1, m2, v2, xs2, rfl, rfl, xw_w10, ho, ⟨⟨by omega, hxl2, hm2_, hmv_⟩, cut_next hx c38 (by omega) hcut2⟩⟩ (.cons rfl (.cons rfl (.cons rfl (.cons rfl (.cons rfl (.cons rfl (.cons rfl (.nil))))))))
        ·
          refine sc_exit rfl (nrm_k ?_)
          refine sc_seq ?_
          refine sc_reg ?_
          refine Go.XK.s (v := v_) (e_move rfl) ?_
          refine Go.XK.s (v := v_) (e_assign rfl) ?_
          refine Go.XK.s (v := .int .i64 0) (e_assign rfl) ?_
          refine sl_nil (nrm_k ?_)
          refine sc_retf rfl (ret2 Try.results15 (rvt rfl) (rvt rfl) ?_)
          have h_ := hcut []
          rw [List.take_of_length_le (show ws.length ≤ i by omega), List.append_nil] at h_
          have hce : cutL (stL ws) z.toNat im = xs_ := by rw [h_]; cases m.toNat <;> rfl
          rw [← hce] at ho
          exact ⟨_, by rw [hcR], by rw [hcR]; exact ho, xw_w6⟩

end Go.Proofs.Ytfcjianiodiejaa
