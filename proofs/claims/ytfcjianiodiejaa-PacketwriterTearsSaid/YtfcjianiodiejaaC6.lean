/- Chapter 52: C6. Printed by my program wip/tools/wk.py. -/
import Derived.Test.YtfcjianiodiejaaC5
set_option linter.unusedVariables false
set_option linter.unusedSimpArgs false
set_option maxRecDepth 4000
set_option maxHeartbeats 4000000
namespace Go.Proofs.Ytfcjianiodiejaa
open Go.XK Go.RowKit
/-- masterdisc/masterdiscref52.Once (function 21) -/
theorem ronce_c (im : Img) (A : Option Addr) (c : Nat) (ws : List Wr) (Aw : Option Addr) (cw : Nat) (w : World) (hl : SlR w A c 1 encS im) (hw : SlR w Aw cw 4 encW ws) (hin : Inn w ws) : CallR Try.prog 21 [.slice A im.length c, .slice Aw ws.length cw] w (fun v w' => v = .bool (onceR im ws) ∧ Ext w w') := by
  have hmx0 := hl.lenle
  simp only [maxLen] at hmx0
  have hmx1 := hw.lenle
  simp only [maxLen] at hmx1
  refine callR_of (n := 63) [(0, .slice A im.length c), (1, .slice Aw ws.length cw)] Try.func21 rfl rfl (Nat.le_of_ble_eq_true rfl) rfl ?_
  refine sc_seq ?_
  refine sc_reg ?_
  refine Go.XK.s (v := .bool false) (e_assign rfl) ?_
  refine sl_nil (nrm_k ?_)
  refine sc_seq ?_
  refine sc_seq ?_
  refine sc_reg ?_
  refine Go.XK.s (v := .slice A im.length c) (e_move rfl) ?_
  refine Go.XK.s (v := .slice Aw ws.length cw) (e_move rfl) ?_
  refine sl_call ent18 rfl rfl (rvalid_c _ _ _ _ _ _ w (hl.ext (Ext.rfl' w)) (hw.ext (Ext.rfl' w)) (hin.ext (Ext.rfl' w))) (by decide) ?_
  rintro _ w1 ⟨rfl, hw1⟩
  have xw_w1 : Ext w w1 := Ext.tr (Ext.rfl' w) hw1
  refine Go.XK.s (v := .bool (!(valid im ws))) (e_not rfl) ?_
  refine sl_nil (nrm_k ?_)
  refine sc_if rfl (fun c12 => ?_) (fun c12 => ?_)
  ·
    refine sc_seq ?_
    refine sc_reg ?_
    refine Go.XK.s (v := .bool false) (e_assign rfl) ?_
    refine sl_nil (nrm_k ?_)
    refine sc_retf rfl (ret1 Try.results21 (rvt rfl) ?_)
    exact ⟨congrArg Value.bool (by rw [onceR, show valid im ws = false by simpa using c12]; rfl), xw_w1⟩
  ·
    have hv : valid im ws = true := by simpa using c12
    obtain ⟨hm1, hm2, hm3, hokw⟩ := valid_spec hv
    have hmL := valid_len hv
    refine sc_skip (nrm_k ?_)
    refine sc_seq ?_
    refine sc_reg ?_
    refine s_make1 (m := 4096) (z := .bool false) (bytes := 1) rfl rfl Try.underlying106 (by kernel_rfl) rfl (by omega) (by omega) ?_
    intro b13 w2 hb13 he13 hs13 hx13
    have ge_b13 : w.heap.size ≤ b13 := by have h_ := (Below.size xw_w1); omega
    have xw_w2 : Ext w w2 := Ext.tr xw_w1 hx13
    have ho13 : Go.XK.Own w2 w.heap.size 4 1 encBo (.slice (some ⟨b13, 0, none⟩) 4096 4096) (List.replicate 4096 false) := by
      have h_ := Go.XK.Own.ofBlk (base := w.heap.size) (enc := encBo) (kk := 1) (xs := List.replicate 4096 false) (by rw [rep_flat _ encBo (fun _ => rfl)]; exact hb13) ge_b13 (fun _ => rfl) (by rw [List.length_replicate]; simp only [maxLen]; omega)
      rw [List.length_replicate] at h_
      exact h_
    refine Go.XK.s (v := .slice (some ⟨b13, 0, none⟩) 4096 4096) (e_assign rfl) ?_
    refine sl_nil (nrm_k ?_)
    refine sc_seq ?_
    refine sc_seq ?_
    refine sc_reg ?_
    refine Go.XK.s (v := .int .i64 0) (e_assign rfl) ?_
    refine sl_nil (nrm_k ?_)
    refine sc_block ?_
    refine sc_loop (fun m_ l_ w_ => ∃ (i : Nat) (us : List Bool), m_ = im.length - i ∧ l_ = [(6, .int .i64 (i : Int)), (5, .slice (some ⟨b13, 0, none⟩) 4096 4096), (0, .slice A im.length c), (1, .slice Aw ws.length cw)] ∧ Ext w w_ ∧ Go.XK.Own w_ w.heap.size 4 1 encBo (.slice (some ⟨b13, 0, none⟩) 4096 4096) us ∧ i ≤ im.length ∧ FL us (im.take i)) _ [(6, .int .i64 (0 : Int)), (5, .slice (some ⟨b13, 0, none⟩) 4096 4096), (0, .slice A im.length c), (1, .slice Aw ws.length cw)] ⟨0, List.replicate 4096 false, rfl, rfl, xw_w2, ho13, ⟨by omega, FL.nil⟩⟩ (.cons rfl (.cons rfl (.cons rfl (.cons rfl (.nil))))) ?_
    rintro j4 _ w3 ⟨i, us, rfl, rfl, xw_w3, ho, ⟨hi, hfl⟩⟩
    refine sc_seq ?_
    refine sc_seq ?_
    refine sc_reg ?_
    refine Go.XK.s (v := .int .i64 (i : Int)) (e_move rfl) ?_
    refine Go.XK.s (v := .slice A im.length c) (e_move rfl) ?_
    refine Go.XK.s (v := .int .i64 (im.length : Int)) (e_len Try.underlying23 rfl) ?_
    refine Go.XK.s (v := .bool (decide ((i : Int) < (im.length : Int)))) (e_lt rfl rfl) ?_
    refine sl_nil (nrm_k ?_)
    refine sc_ifd rfl (fun c17 => ?_) (fun c17 => ?_)
    ·
      obtain ⟨x, hx⟩ : ∃ x, im[i]? = some x := ⟨_, List.getElem?_eq_getElem (by omega)⟩
      obtain ⟨y, hy⟩ : ∃ y, us[i]? = some y := ⟨_, List.getElem?_eq_getElem (by rw [hfl.1]; omega)⟩
      refine sc_skip (nrm_k ?_)
      refine sc_seq ?_
      refine sc_block ?_
      refine sc_reg ?_
      refine Go.XK.s (v := .slice (some ⟨b13, 0, none⟩) 4096 4096) (e_move rfl) ?_
      refine Go.XK.s (v := .int .i64 (i : Int)) (e_move rfl) ?_
      refine Go.XK.s (v := .slice A im.length c) (e_move rfl) ?_
      refine Go.XK.s (v := .int .i64 (i : Int)) (e_move rfl) ?_
      refine Go.XK.s (v := .pointer (some (el A 1 (i : Int) 0))) (e_idxEl (e := x) Try.underlying23 Try.sizeOf9 rfl rfl (hl.1.ext xw_w3) hx (by omega) rfl) ?_
      refine Go.XK.s (v := .string (B x)) (e_ldEl (xs := im) (enc := encS) (e := x) rfl (hl.1.ext xw_w3) hx Try.isAgg9 rfl) ?_
      refine Go.XK.s (v := .bool (decide (x ≠ []))) (e_sne rfl rfl) ?_
      refine Go.XK.s (v := .pointer (some (el (ownA (.slice (some ⟨b13, 0, none⟩) 4096 4096)) 1 (i : Int) 0))) (e_idxOwn (x0 := y) Try.underlying106 Try.sizeOf4 rfl rfl ho (fun _ => rfl) hy (by omega)) ?_
      refine su_ownSet (w0 := w) (x0 := y) (v := (.slice (some ⟨b13, 0, none⟩) 4096 4096)) (decide (x ≠ [])) rfl rfl ho xw_w3 (fun _ => rfl) hy (by decide) rfl rfl Try.sizeOf4 rfl ?_
      intro w5 hn_ xw_w5 hg_w5
      have ho_ := ho
      replace ho := hn_
      clear hn_ ho_
      refine sl_nil (nrm_k ?_)
      refine sc_reg ?_
      refine Go.XK.s (v := .int .i64 (i : Int)) (e_move rfl) ?_
      refine Go.XK.s (v := .int .i64 ((i : Int) + 1)) (e_add rfl rfl (by omega)) ?_
      refine Go.XK.s (v := .int .i64 ((i : Int) + 1)) (e_assign rfl) ?_
      refine sl_nil ?_
      exact nrm_loopq rfl _ _ (by omega) ⟨i + 1, us.set (i : Int).toNat (decide (x ≠ [])), rfl, rfl, xw_w5, ho, ⟨by omega, hfl.take hx (by omega)⟩⟩ (.cons rfl (.cons rfl (.cons rfl (.cons rfl (.nil)))))
    ·
      rw [List.take_of_length_le (show im.length ≤ i by omega)] at hfl
      refine sc_exit rfl (nrm_k ?_)
      refine sc_seq ?_
      refine sc_seq ?_
      refine sc_reg ?_
      refine Go.XK.s (v := .int .i64 0) (e_assign rfl) ?_
      refine sl_nil (nrm_k ?_)
      refine sc_block ?_
      refine sc_loop (fun m_ l_ w_ => ∃ (i : Nat) (us : List Bool) (xs_ : Img), m_ = ws.length - i ∧ l_ = [(7, .int .i64 (i : Int)), (5, .slice (some ⟨b13, 0, none⟩) 4096 4096), (0, .slice A im.length c), (1, .slice Aw ws.length cw)] ∧ Ext w w_ ∧ Go.XK.Own w_ w.heap.size 4 1 encBo (.slice (some ⟨b13, 0, none⟩) 4096 4096) us ∧ (i ≤ ws.length ∧ FL us xs_) ∧ (∀ rest, onceL (stL (ws.take i) ++ rest) im = onceL rest xs_)) _ [(7, .int .i64 (0 : Int)), (5, .slice (some ⟨b13, 0, none⟩) 4096 4096), (0, .slice A im.length c), (1, .slice Aw ws.length cw)] ⟨0, us, im, rfl, rfl, xw_w3, ho, ⟨⟨by omega, hfl⟩, fun rest => rfl⟩⟩ (.cons rfl (.cons rfl (.cons rfl (.cons rfl (.nil))))) ?_
      rintro j7 _ w6 ⟨i, us, xs_, rfl, rfl, xw_w6, ho, ⟨⟨hi2, hfl⟩, hon⟩⟩
      refine sc_seq ?_
      refine sc_seq ?_
      refine sc_reg ?_
      refine Go.XK.s (v := .int .i64 (i : Int)) (e_move rfl) ?_
      refine Go.XK.s (v := .slice Aw ws.length cw) (e_move rfl) ?_
      refine Go.XK.s (v := .int .i64 (ws.length : Int)) (e_len Try.underlying24 rfl) ?_
      refine Go.XK.s (v := .bool (decide ((i : Int) < (ws.length : Int)))) (e_lt rfl rfl) ?_
      refine sl_nil (nrm_k ?_)
      refine sc_ifd rfl (fun c31 => ?_) (fun c31 => ?_)
      ·
        obtain ⟨x, hx⟩ : ∃ x, ws[i]? = some x := ⟨_, List.getElem?_eq_getElem (by omega)⟩
        have hin_x := hin x (List.mem_of_getElem? hx)
        have hmx2 := hin_x.lenle
        simp only [maxLen] at hmx2
        have hxw := okW_spec (List.all_eq_true.1 hokw x (List.mem_of_getElem? hx))
        refine sc_skip (nrm_k ?_)
        refine sc_seq ?_
        refine sc_block ?_
        refine sc_seq ?_
        refine sc_reg ?_
        refine Go.XK.s (v := .int .i64 0) (e_assign rfl) ?_
        refine sl_nil (nrm_k ?_)
        refine sc_block ?_
        refine sc_loop (fun m_ l_ w_ => ∃ (k : Nat) (us2 : List Bool) (xs2 : Img), m_ = x.bl.length - k ∧ l_ = [(8, .int .i64 (k : Int)), (5, .slice (some ⟨b13, 0, none⟩) 4096 4096), (0, .slice A im.length c), (1, .slice Aw ws.length cw), (7, .int .i64 (i : Int))] ∧ Ext w w_ ∧ Go.XK.Own w_ w.heap.size 4 1 encBo (.slice (some ⟨b13, 0, none⟩) 4096 4096) us2 ∧ (k ≤ x.bl.length ∧ FL us2 xs2) ∧ (∀ rest, onceL (stL (ws.take i) ++ stB x.p (x.bl.take k) ++ rest) im = onceL rest xs2)) _ [(8, .int .i64 (0 : Int)), (5, .slice (some ⟨b13, 0, none⟩) 4096 4096), (0, .slice A im.length c), (1, .slice Aw ws.length cw), (7, .int .i64 (i : Int))] ⟨0, us, xs_, rfl, rfl, xw_w6, ho, ⟨⟨by omega, hfl⟩, by intro rest; rw [← hon]; simp [stB]⟩⟩ (.cons rfl (.cons rfl (.cons rfl (.cons rfl (.cons rfl (.nil)))))) ?_
        rintro j9 _ w8 ⟨k, us2, xs2, rfl, rfl, xw_w8, ho, ⟨⟨hk, hfl2⟩, hon2⟩⟩
        refine sc_seq ?_
        refine sc_seq ?_
        refine sc_reg ?_
        refine Go.XK.s (v := .int .i64 (k : Int)) (e_move rfl) ?_
        refine Go.XK.s (v := .slice Aw ws.length cw) (e_move rfl) ?_
        refine Go.XK.s (v := .int .i64 (i : Int)) (e_move rfl) ?_
        refine Go.XK.s (v := .pointer (some (el Aw 4 (i : Int) 0))) (e_idxEl (e := x) Try.underlying24 Try.sizeOf49 rfl rfl (hw.1.ext xw_w8) hx (by omega) rfl) ?_
        refine Go.XK.s (v := .pointer (some (el Aw 4 (i : Int) 1))) (e_fieldEl (fsz := 1) Try.underlying49 rfl Try.sizeOf22 (by decide) rfl rfl) ?_
        refine Go.XK.s (v := .slice x.A x.bl.length x.c) (e_ldEl (xs := ws) (enc := encW) (e := x) rfl (hw.1.ext xw_w8) hx Try.isAgg22 rfl) ?_
        refine Go.XK.s (v := .int .i64 (x.bl.length : Int)) (e_len Try.underlying22 rfl) ?_
        refine Go.XK.s (v := .bool (decide ((k : Int) < (x.bl.length : Int)))) (e_lt rfl rfl) ?_
        refine sl_nil (nrm_k ?_)
        refine sc_ifd rfl (fun c41 => ?_) (fun c41 => ?_)
        ·
          obtain ⟨z, hz⟩ : ∃ z, x.bl[k]? = some z := ⟨_, List.getElem?_eq_getElem (by omega)⟩
          have hpw : wr64 (x.p + (k : Int)) = x.p + k := wr64_id (by omega) (by omega)
          have hz2 := hxw.2.2.2.2 z (List.mem_of_getElem? hz)
          obtain ⟨u, hud⟩ : ∃ u, u = (decide (x.p + k < (xs2.length : Int)) && decide (xs2.getD (x.p + k).toNat [] ≠ [])) := ⟨_, rfl⟩
          have hu_ : us2[(x.p + (k : Int)).toNat]? = some u := by rw [hud]; exact hfl2.at_ (by omega) (by omega)
          refine sc_skip (nrm_k ?_)
          refine sc_seq ?_
          refine sc_block ?_
          refine sc_seq ?_
          refine sc_seq ?_
          refine sc_reg ?_
          refine Go.XK.s (v := .slice (some ⟨b13, 0, none⟩) 4096 4096) (e_move rfl) ?_
          refine Go.XK.s (v := .slice Aw ws.length cw) (e_move rfl) ?_
          refine Go.XK.s (v := .int .i64 (i : Int)) (e_move rfl) ?_
          refine Go.XK.s (v := .pointer (some (el Aw 4 (i : Int) 0))) (e_idxEl (e := x) Try.underlying24 Try.sizeOf49 rfl rfl (hw.1.ext xw_w8) hx (by omega) rfl) ?_
          refine Go.XK.s (v := .pointer (some (el Aw 4 (i : Int) 0))) (e_fieldEl (fsz := 1) Try.underlying49 rfl Try.sizeOf3 (by decide) rfl rfl) ?_
          refine Go.XK.s (v := .int .i64 x.p) (e_ldEl (xs := ws) (enc := encW) (e := x) rfl (hw.1.ext xw_w8) hx Try.isAgg3 rfl) ?_
          refine Go.XK.s (v := .int .i64 (k : Int)) (e_move rfl) ?_
          refine Go.XK.s (v := .int .i64 (x.p + (k : Int))) (e_add rfl rfl (by omega)) ?_
          refine Go.XK.s (v := .pointer (some (el (ownA (.slice (some ⟨b13, 0, none⟩) 4096 4096)) 1 (x.p + (k : Int)) 0))) (e_idxOwn (x0 := u) Try.underlying106 Try.sizeOf4 rfl rfl ho (fun _ => rfl) hu_ (by omega)) ?_
          refine Go.XK.s (v := .bool u) (e_ldEl (xs := us2) (enc := encBo) (e := u) rfl (Go.XK.Own.rd ho (fun _ => rfl)) hu_ Try.isAgg4 rfl) ?_
          refine sl_nil (nrm_k ?_)
          refine sc_if rfl (fun c53 => ?_) (fun c53 => ?_)
          ·
            have hu : (decide (x.p + k < (xs2.length : Int)) && decide (xs2.getD (x.p + k).toNat [] ≠ [])) = true := by rw [← hud]; exact c53
            refine sc_seq ?_
            refine sc_reg ?_
            refine Go.XK.s (v := .bool false) (e_assign rfl) ?_
            refine sl_nil (nrm_k ?_)
            refine sc_retf rfl (ret1 Try.results21 (rvt rfl) ?_)
            exact ⟨congrArg Value.bool (by rw [onceR, hv, once_badB hx hz hpw hu hon2]; rfl), xw_w8⟩
          ·
            have hu : (decide (x.p + k < (xs2.length : Int)) && decide (xs2.getD (x.p + k).toNat [] ≠ [])) = false := by rw [← hud]; exact c53
            refine sc_skip (nrm_k ?_)
            refine sc_reg ?_
            refine Go.XK.s (v := .slice (some ⟨b13, 0, none⟩) 4096 4096) (e_move rfl) ?_
            refine Go.XK.s (v := .slice Aw ws.length cw) (e_move rfl) ?_
            refine Go.XK.s (v := .int .i64 (i : Int)) (e_move rfl) ?_
            refine Go.XK.s (v := .pointer (some (el Aw 4 (i : Int) 0))) (e_idxEl (e := x) Try.underlying24 Try.sizeOf49 rfl rfl (hw.1.ext xw_w8) hx (by omega) rfl) ?_
            refine Go.XK.s (v := .pointer (some (el Aw 4 (i : Int) 0))) (e_fieldEl (fsz := 1) Try.underlying49 rfl Try.sizeOf3 (by decide) rfl rfl) ?_
            refine Go.XK.s (v := .int .i64 x.p) (e_ldEl (xs := ws) (enc := encW) (e := x) rfl (hw.1.ext xw_w8) hx Try.isAgg3 rfl) ?_
            refine Go.XK.s (v := .int .i64 (k : Int)) (e_move rfl) ?_
            refine Go.XK.s (v := .int .i64 (x.p + (k : Int))) (e_add rfl rfl (by omega)) ?_
            refine Go.XK.s (v := .pointer (some (el (ownA (.slice (some ⟨b13, 0, none⟩) 4096 4096)) 1 (x.p + (k : Int)) 0))) (e_idxOwn (x0 := u) Try.underlying106 Try.sizeOf4 rfl rfl ho (fun _ => rfl) hu_ (by omega)) ?_
            refine su_ownSet (w0 := w) (x0 := u) (v := (.slice (some ⟨b13, 0, none⟩) 4096 4096)) true rfl rfl ho xw_w8 (fun _ => rfl) hu_ (by decide) rfl rfl Try.sizeOf4 rfl ?_
            intro w10 hn_ xw_w10 hg_w10
            have ho_ := ho
            replace ho := hn_
            clear hn_ ho_
            refine sl_nil (nrm_k ?_)
            refine sc_reg ?_
            refine Go.XK.s (v := .int .i64 (k : Int)) (e_move rfl) ?_
            refine Go.XK.s (v := .int .i64 ((k : Int) + 1)) (e_add rfl rfl (by omega)) ?_
            refine Go.XK.s (v := .int .i64 ((k : Int) + 1)) (e_assign rfl) ?_
            refine sl_nil ?_
            exact nrm_loopq rfl _ _ (by omega) ⟨k + 1, us2.set (x.p + (k : Int)).toNat true, putI xs2 (x.p + (k : Int)) z, rfl, rfl, xw_w10, ho, ⟨⟨by omega, hfl2.put (by omega) (by omega) (fun e_ => by rw [e_] at hz2; simp at hz2)⟩, once_putB hz hpw hu hon2⟩⟩ (.cons rfl (.cons rfl (.cons rfl (.cons rfl (.cons rfl (.nil))))))
        ·
          refine sc_exit rfl (nrm_k ?_)
          refine sc_reg ?_
          refine Go.XK.s (v := .int .i64 (i : Int)) (e_move rfl) ?_
          refine Go.XK.s (v := .int .i64 ((i : Int) + 1)) (e_add rfl rfl (by omega)) ?_
          refine Go.XK.s (v := .int .i64 ((i : Int) + 1)) (e_assign rfl) ?_
          refine sl_nil ?_
          exact nrm_loopq rfl _ _ (by omega) ⟨i + 1, us2, xs2, rfl, rfl, xw_w8, ho, ⟨⟨by omega, hfl2⟩, once_next hx (by omega) hon2⟩⟩ (.cons rfl (.cons rfl (.cons rfl (.cons rfl (.nil)))))
      ·
        refine sc_exit rfl (nrm_k ?_)
        refine sc_seq ?_
        refine sc_reg ?_
        refine Go.XK.s (v := .bool true) (e_assign rfl) ?_
        refine sl_nil (nrm_k ?_)
        refine sc_retf rfl (ret1 Try.results21 (rvt rfl) ?_)
        have h_ := hon []
        rw [List.take_of_length_le (show ws.length ≤ i by omega), List.append_nil] at h_
        exact ⟨congrArg Value.bool (by rw [onceR, hv, h_]; rfl), xw_w6⟩

end Go.Proofs.Ytfcjianiodiejaa
