/- Chapter 52: C14. Printed by my program wip/tools/wk.py. -/
import Derived.Test.YtfcjianiodiejaaC13
set_option linter.unusedVariables false
set_option linter.unusedSimpArgs false
set_option maxRecDepth 4000
set_option maxHeartbeats 4000000
namespace Go.Proofs.Ytfcjianiodiejaa
open Go.XK Go.RowKit
theorem run_neq_ses (x y : Operand) (a b : Ses) (w : World) : (do eqGuard .neq 65 x y (.agg (encX a).toArray) (.agg (encX b).toArray); binOp .neq 65 (.agg (encX a).toArray) (.agg (encX b).toArray) : Sem Value).run Try.prog w = .ok (.bool (decide (a ≠ b))) w := by
  have hf : (Try.prog.fieldsOf 65).toList = [⟨"Start", 3, 0, false, "", "", 0⟩, ⟨"Count", 3, 1, false, "", "", 8⟩, ⟨"Closed", 4, 2, false, "", "", 16⟩] := by kernel_rfl
  rw [Sem.run_bind, run_eqGuard_agg _ _ _ _ _ _ _ (by kernel_rfl), Result.andThen_ok, run_neq_struct, run_equalIn_struct _ _ _ _ _ (by kernel_rfl) (by kernel_rfl), hf]
  have hx : (decide (a ≠ b)) = !(decide (a.s = b.s) && (decide (a.n = b.n) && decide (a.cl = b.cl))) := by
    cases a; cases b; simp
  have hb : ∀ p q : Bool, (p == q) = decide (p = q) := fun p q => by cases p <;> cases q <;> rfl
  rw [hx]
  simp [Op.eqFields, encX, part, run_equalIn_int _ _ _ _ _ _ _ Try.underlying3, Try.isAgg3, Try.isAgg4, run_equalIn_bool' _ _ _ _ _ Try.underlying4, ite_and, int_beq, hb]
theorem rcut_d (im : Img) (A : Option Addr) (c : Nat) (ws : List Wr) (Aw : Option Addr) (cw : Nat) (z : Int) (w : World) (hl : SlR w A c 1 encS im) (hw : SlR w Aw cw 4 encW ws) (hin : Inn w ws) {o : Img} {e : Int} (hc : cutR im ws z = (o, e)) : CallR Try.prog 15 [.slice A im.length c, .slice Aw ws.length cw, .int .i64 z] w (fun v w' => ∃ v1, v = .tuple #[v1, .int .i64 e] ∧ Go.XK.Own w' w.heap.size 9 1 encS v1 o ∧ Ext w w') := by
  have h := rcut_c im A c ws Aw cw z w hl hw hin
  rw [hc] at h; exact h
def idxC (ws : List Wr) : Int := if ws.any (·.cl) then (ws.findIdx (·.cl) : Int) else -1
theorem idxC_no {xs : List Wr} {i : Nat} (h : (xs.take i).any (·.cl) = false) (hi : xs.length ≤ i) : idxC xs = -1 := by
  rw [List.take_of_length_le hi] at h
  rw [idxC, h]; rfl
theorem idxC_at {xs : List Wr} {i : Nat} {x : Wr} (hx : xs[i]? = some x) (h : (xs.take i).any (·.cl) = false) (hb : x.cl = true) : idxC xs = i := by
  have hlt := (List.getElem?_eq_some_iff.1 hx).1
  have hxx : xs[i] = x := (List.getElem?_eq_some_iff.1 hx).2
  have ha : xs.any (·.cl) = true := List.any_eq_true.2 ⟨x, List.mem_of_getElem? hx, hb⟩
  rw [idxC, ha, if_pos rfl]
  have : xs.findIdx (·.cl) = i := by
    rw [List.findIdx_eq hlt]
    refine ⟨by rw [hxx]; exact hb, fun j hj => ?_⟩
    rw [List.any_eq_false] at h
    have := h xs[j] (List.mem_iff_getElem?.2 ⟨j, by rw [List.getElem?_take, if_pos hj]; exact List.getElem?_eq_getElem _⟩)
    simpa using this
  rw [this]
theorem idxC_nonneg (xs : List Wr) : decide (0 ≤ idxC xs) = xs.any (·.cl) := by
  rw [idxC]
  cases xs.any (·.cl)
  · rfl
  · simp
theorem anyC_take {xs : List Wr} {i : Nat} {x : Wr} (hx : xs[i]? = some x) (h : (xs.take i).any (·.cl) = false) (hb : x.cl = false) : (xs.take (i + 1)).any (·.cl) = false := by
  rw [List.take_add_one, hx, List.any_append, h]; simp [hb]
theorem stL_noclose {ws : List Wr} (h : ws.any (·.cl) = false) : ∀ s ∈ stL ws, s.cl = false := by
  intro s hs
  simp only [stL, List.mem_flatMap] at hs
  obtain ⟨x, hx, hs⟩ := hs
  rw [List.any_eq_false] at h
  have hc : x.cl = false := by simpa using h x hx
  rw [stW, hc] at hs
  simp at hs
  obtain ⟨k, b, _, rfl⟩ := stB_mem hs
  rfl
theorem exR_same {im : Img} {ss : List Ses} {st ct : Int} {ws : List Wr} {z : Int} (h : (exR im ss st ct ws z).2.2 = 0) (hc : ws.any (·.cl) = false) : (exR im ss st ct ws z).2.1 = ss := by
  unfold exR at h ⊢
  split at h
  · rename_i h1; rw [if_pos h1]; exact absurd h h1
  · rename_i h1
    rw [if_neg h1]
    split at h
    · cases h
    · rename_i h2
      rw [if_neg h2]
      exact runX_none (fun s hs => stL_noclose hc s (List.mem_of_mem_take hs))

/-- masterdisc/masterdiscref52.Closes (function 67) -/
theorem closes_c (ws : List Wr) (Aw : Option Addr) (cw : Nat) (z : Int) (w : World) (hw : SlR w Aw cw 4 encW ws) (hin : Inn w ws) (hok : ws.all okW = true) (hz : 0 ≤ z ∧ z ≤ 8390656) : CallR Try.prog 67 [.slice Aw ws.length cw, .int .i64 z] w (fun v w' => v = .int .i64 ((clsN (stL ws) z.toNat : Nat) : Int) ∧ Ext w w') := by
  have hmx0 := hw.lenle
  simp only [maxLen] at hmx0
  refine callR_of (n := 35) [(0, .slice Aw ws.length cw), (1, .int .i64 z)] Try.func67 rfl rfl (Nat.le_of_ble_eq_true rfl) rfl ?_
  refine sc_seq ?_
  refine sc_reg ?_
  refine Go.XK.s (v := .int .i64 0) (e_assign rfl) ?_
  refine sl_nil (nrm_k ?_)
  refine sc_seq ?_
  refine sc_reg ?_
  refine Go.XK.s (v := .int .i64 0) (e_assign rfl) ?_
  refine sl_nil (nrm_k ?_)
  refine sc_seq ?_
  refine sc_seq ?_
  refine sc_reg ?_
  refine Go.XK.s (v := .int .i64 0) (e_assign rfl) ?_
  refine sl_nil (nrm_k ?_)
  refine sc_block ?_
  refine sc_loop (fun m_ l_ w_ => ∃ (i : Nat) (m out : Int), m_ = ws.length - i ∧ l_ = [(6, .int .i64 (i : Int)), (1, .int .i64 m), (5, .int .i64 out), (0, .slice Aw ws.length cw)] ∧ Ext w w_ ∧ (i ≤ ws.length ∧ -8192 ≤ m ∧ m ≤ 8390656 ∧ 0 ≤ out ∧ out ≤ (i : Int)) ∧ out + ((clsN (stL (ws.drop i)) m.toNat : Nat) : Int) = ((clsN (stL ws) z.toNat : Nat) : Int)) _ [(6, .int .i64 (0 : Int)), (1, .int .i64 z), (5, .int .i64 0), (0, .slice Aw ws.length cw)] ⟨0, z, 0, rfl, rfl, (Ext.rfl' w), ⟨⟨by omega, by omega, by omega, by omega, by omega⟩, by rw [List.drop_zero]; omega⟩⟩ (.cons rfl (.cons rfl (.cons rfl (.cons rfl (.nil))))) ?_
  rintro j2 _ w1 ⟨i, m, out, rfl, rfl, xw_w1, ⟨⟨hi, hm1, hm2, ho1, ho2⟩, hcl⟩⟩
  refine sc_seq ?_
  refine sc_seq ?_
  refine sc_reg ?_
  refine Go.XK.s (v := .int .i64 (i : Int)) (e_move rfl) ?_
  refine Go.XK.s (v := .slice Aw ws.length cw) (e_move rfl) ?_
  refine Go.XK.s (v := .int .i64 (ws.length : Int)) (e_len Try.underlying24 rfl) ?_
  refine Go.XK.s (v := .bool (decide ((i : Int) < (ws.length : Int)))) (e_lt rfl rfl) ?_
  refine Go.XK.s (v := .bool (decide ((i : Int) < (ws.length : Int)))) (e_move rfl) ?_
  refine sl_merge 3 14 (.bool ((decide ((i : Int) < (ws.length : Int))) && (decide ((0 : Int) < m)))) ?_ ?_
  · refine sl_case (t := 11) rfl (fun g3_4 => ?_) (fun g3_4 => ?_)
    ·
      refine sl_gev (v := .int .i64 m) rfl rfl g3_4 (e_move rfl) rfl (by decide) ?_
      refine sl_gev (v := .bool (decide ((0 : Int) < m))) rfl rfl g3_4 (e_gt rfl rfl) rfl (by decide) ?_
      refine Go.XK.s (v := .bool (decide ((0 : Int) < m))) (e_pickT rfl g3_4 rfl) ?_
      exact sl_nil (fun a ha => ⟨rfl, ha.sub (.cons (by rw [g3_4]; rfl) (sub_self_cons (sub_self_cons (sub_self_cons (Sub.refl _) rfl) rfl) rfl))⟩)
    ·
      refine sl_gskip rfl rfl g3_4 (by decide) ?_
      refine sl_gskip rfl rfl g3_4 (by decide) ?_
      refine Go.XK.s (v := .bool false) (e_pickF rfl g3_4 rfl) ?_
      exact sl_nil (fun a ha => ⟨rfl, ha.sub (.cons (by rw [g3_4]; rfl) (sub_self_cons (sub_self_cons (sub_self_cons (Sub.refl _) rfl) rfl) rfl))⟩)
  refine sl_nil (nrm_k ?_)
  refine sc_if rfl (fun c14 => ?_) (fun c14 => ?_)
  ·
    simp only [Bool.and_eq_true, decide_eq_true_eq] at c14
    obtain ⟨x, hx⟩ : ∃ x, ws[i]? = some x := ⟨_, List.getElem?_eq_getElem (by omega)⟩
    have hin_x := hin x (List.mem_of_getElem? hx)
    have hxw := okW_spec (List.all_eq_true.1 hok x (List.mem_of_getElem? hx))
    refine sc_skip (nrm_k ?_)
    refine sc_seq ?_
    refine sc_block ?_
    refine sc_seq ?_
    refine sc_seq ?_
    refine sc_reg ?_
    refine Go.XK.s (v := .slice Aw ws.length cw) (e_move rfl) ?_
    refine Go.XK.s (v := .int .i64 (i : Int)) (e_move rfl) ?_
    refine Go.XK.s (v := .pointer (some (el Aw 4 (i : Int) 0))) (e_idxEl (e := x) Try.underlying24 Try.sizeOf49 rfl rfl (hw.1.ext xw_w1) hx (by omega) rfl) ?_
    refine Go.XK.s (v := .pointer (some (el Aw 4 (i : Int) 3))) (e_fieldEl (fsz := 1) Try.underlying49 rfl Try.sizeOf4 (by decide) rfl rfl) ?_
    refine Go.XK.s (v := .bool x.cl) (e_ldEl (xs := ws) (enc := encW) (e := x) rfl (hw.1.ext xw_w1) hx Try.isAgg4 rfl) ?_
    refine sl_nil (nrm_k ?_)
    refine sc_if rfl (fun c21 => ?_) (fun c21 => ?_)
    ·
      refine sc_seq ?_
      refine sc_reg ?_
      refine Go.XK.s (v := .int .i64 out) (e_move rfl) ?_
      refine Go.XK.s (v := .int .i64 (out + 1)) (e_add rfl rfl (by omega)) ?_
      refine Go.XK.s (v := .int .i64 (out + 1)) (e_assign rfl) ?_
      refine sl_nil (nrm_k ?_)
      refine sc_reg ?_
      refine Go.XK.s (v := .int .i64 m) (e_move rfl) ?_
      refine Go.XK.s (v := .int .i64 (m - 1)) (e_sub rfl rfl (by omega)) ?_
      refine Go.XK.s (v := .int .i64 (m - 1)) (e_assign rfl) ?_
      refine sl_nil (nrm_k ?_)
      refine sc_reg ?_
      refine Go.XK.s (v := .int .i64 (m - 1)) (e_move rfl) ?_
      refine Go.XK.s (v := .slice Aw ws.length cw) (e_move rfl) ?_
      refine Go.XK.s (v := .int .i64 (i : Int)) (e_move rfl) ?_
      refine Go.XK.s (v := .pointer (some (el Aw 4 (i : Int) 0))) (e_idxEl (e := x) Try.underlying24 Try.sizeOf49 rfl rfl (hw.1.ext xw_w1) hx (by omega) rfl) ?_
      refine Go.XK.s (v := .pointer (some (el Aw 4 (i : Int) 1))) (e_fieldEl (fsz := 1) Try.underlying49 rfl Try.sizeOf22 (by decide) rfl rfl) ?_
      refine Go.XK.s (v := .slice x.A x.bl.length x.c) (e_ldEl (xs := ws) (enc := encW) (e := x) rfl (hw.1.ext xw_w1) hx Try.isAgg22 rfl) ?_
      refine Go.XK.s (v := .int .i64 (x.bl.length : Int)) (e_len Try.underlying22 rfl) ?_
      refine Go.XK.s (v := .int .i64 ((m - 1) - (x.bl.length : Int))) (e_sub rfl rfl (by omega)) ?_
      refine Go.XK.s (v := .int .i64 ((m - 1) - (x.bl.length : Int))) (e_assign rfl) ?_
      refine sl_nil (nrm_k ?_)
      refine sc_reg ?_
      refine Go.XK.s (v := .int .i64 (i : Int)) (e_move rfl) ?_
      refine Go.XK.s (v := .int .i64 ((i : Int) + 1)) (e_add rfl rfl (by omega)) ?_
      refine Go.XK.s (v := .int .i64 ((i : Int) + 1)) (e_assign rfl) ?_
      refine sl_nil ?_
      exact nrm_loopq rfl _ _ (by omega) ⟨i + 1, (m - 1) - (x.bl.length : Int), out + 1, rfl, rfl, xw_w1, ⟨⟨by omega, by omega, by omega, by omega, by omega⟩, by first | (rw [← hcl, cls_close hx c21 (okW_cl hok hx c21) (by omega), show m - 1 - (x.bl.length : Int) = m - 1 from by rw [okW_cl hok hx c21]; simp]; omega) | (rw [← hcl, cls_open hx c21])⟩⟩ (.cons rfl (.cons rfl (.cons rfl (.cons rfl (.nil)))))
    ·
      refine sc_skip (nrm_k ?_)
      refine sc_reg ?_
      refine Go.XK.s (v := .int .i64 m) (e_move rfl) ?_
      refine Go.XK.s (v := .slice Aw ws.length cw) (e_move rfl) ?_
      refine Go.XK.s (v := .int .i64 (i : Int)) (e_move rfl) ?_
      refine Go.XK.s (v := .pointer (some (el Aw 4 (i : Int) 0))) (e_idxEl (e := x) Try.underlying24 Try.sizeOf49 rfl rfl (hw.1.ext xw_w1) hx (by omega) rfl) ?_
      refine Go.XK.s (v := .pointer (some (el Aw 4 (i : Int) 1))) (e_fieldEl (fsz := 1) Try.underlying49 rfl Try.sizeOf22 (by decide) rfl rfl) ?_
      refine Go.XK.s (v := .slice x.A x.bl.length x.c) (e_ldEl (xs := ws) (enc := encW) (e := x) rfl (hw.1.ext xw_w1) hx Try.isAgg22 rfl) ?_
      refine Go.XK.s (v := .int .i64 (x.bl.length : Int)) (e_len Try.underlying22 rfl) ?_
      refine Go.XK.s (v := .int .i64 (m - (x.bl.length : Int))) (e_sub rfl rfl (by omega)) ?_
      refine Go.XK.s (v := .int .i64 (m - (x.bl.length : Int))) (e_assign rfl) ?_
      refine sl_nil (nrm_k ?_)
      refine sc_reg ?_
      refine Go.XK.s (v := .int .i64 (i : Int)) (e_move rfl) ?_
      refine Go.XK.s (v := .int .i64 ((i : Int) + 1)) (e_add rfl rfl (by omega)) ?_
      refine Go.XK.s (v := .int .i64 ((i : Int) + 1)) (e_assign rfl) ?_
      refine sl_nil ?_
      exact nrm_loopq rfl _ _ (by omega) ⟨i + 1, m - (x.bl.length : Int), out, rfl, rfl, xw_w1, ⟨⟨by omega, by omega, by omega, by omega, by omega⟩, by first | (rw [← hcl, cls_close hx c21 (okW_cl hok hx c21) (by omega), show m - 1 - (x.bl.length : Int) = m - 1 from by rw [okW_cl hok hx c21]; simp]; omega) | (rw [← hcl, cls_open hx c21])⟩⟩ (.cons rfl (.cons rfl (.cons rfl (.cons rfl (.nil)))))
  ·
    simp only [Bool.and_eq_false_iff, decide_eq_false_iff_not] at c14
    have hend : clsN (stL (ws.drop i)) m.toNat = 0 := by
      rcases c14 with h_ | h_
      · rw [List.drop_eq_nil_of_le (by omega)]; simp [stL, clsN]
      · rw [show m.toNat = 0 from by omega, cls_zero]
    refine sc_exit rfl (nrm_k ?_)
    refine sc_seq ?_
    refine sc_reg ?_
    refine Go.XK.s (v := .int .i64 out) (e_move rfl) ?_
    refine Go.XK.s (v := .int .i64 out) (e_assign rfl) ?_
    refine sl_nil (nrm_k ?_)
    refine sc_retf rfl (ret1 Try.results67 (rvt rfl) ?_)
    exact ⟨congrArg (Value.int .i64) (by rw [← hcl, hend]; simp), xw_w1⟩

/-- masterdisc/masterdiscref52.Execute (function 32) -/
theorem rexecute_c (im : Img) (A : Option Addr) (c : Nat) (ss : List Ses) (As : Option Addr) (cs : Nat) (st ct : Int) (ws : List Wr) (Aw : Option Addr) (cw : Nat) (z : Int) (w : World) (hl : SlR w A c 1 encS im) (hs : SlR w As cs 3 encX ss) (hw : SlR w Aw cw 4 encW ws) (hin : Inn w ws) (hsl : ss.length ≤ 20) : CallR Try.prog 32 [.agg #[.slice A im.length c, .slice As ss.length cs], .agg #[.int .i64 st, .int .i64 ct], .slice Aw ws.length cw, .int .i64 z] w (fun v w' => ∃ v1 v2, v = .tuple #[.agg #[v1, v2], .int .i64 (exR im ss st ct ws z).2.2] ∧ Go.XK.Own w' w.heap.size 9 1 encS v1 (exR im ss st ct ws z).1 ∧ Go.XK.Own w' w.heap.size 65 3 encX v2 (exR im ss st ct ws z).2.1 ∧ Ext w w') := by
  have hmx0 := hl.lenle
  simp only [maxLen] at hmx0
  have hmx1 := hw.lenle
  simp only [maxLen] at hmx1
  have hmx2 := hs.lenle
  simp only [maxLen] at hmx2
  obtain ⟨o, e, hcut⟩ : ∃ o e, cutR im ws z = (o, e) := ⟨_, _, rfl⟩
  refine callR_of (n := 76) [(0, .agg #[.slice A im.length c, .slice As ss.length cs]), (1, .agg #[.int .i64 st, .int .i64 ct]), (2, .slice Aw ws.length cw), (3, .int .i64 z)] Try.func32 rfl rfl (Nat.le_of_ble_eq_true rfl) rfl ?_
  refine sc_seq ?_
  refine sc_reg ?_
  refine s_box (cs := [.slice A im.length c, .slice As ss.length cs]) rfl rfl ?_
  intro b4 w1 hb4 he4 hs4 hx4
  have ge_b4 : w.heap.size ≤ b4 := by have h_ := (Below.size (Ext.rfl' w)); omega
  have xw_w1 : Ext w w1 := Ext.tr (Ext.rfl' w) hx4
  refine s_box (cs := [.int .i64 st, .int .i64 ct]) rfl rfl ?_
  intro b5 w2 hb5 he5 hs5 hx5
  have ne_b5_b4 : b5 ≠ b4 := by have h_ := hb4.lt; omega
  have ge_b5 : w.heap.size ≤ b5 := by have h_ := (Below.size xw_w1); omega
  have xw_w2 : Ext w w2 := Ext.tr xw_w1 hx5
  replace hb4 := hb4.ext hx5
  refine s_alloc (cs := [.slice none 0 0, .slice none 0 0]) Try.zeroValue55 rfl ?_
  intro b8 w3 hb8 he8 hs8 hx8
  have ne_b8_b4 : b8 ≠ b4 := by have h_ := hb4.lt; omega
  have ne_b8_b5 : b8 ≠ b5 := by have h_ := hb5.lt; omega
  have ge_b8 : w.heap.size ≤ b8 := by have h_ := (Below.size xw_w2); omega
  have xw_w3 : Ext w w3 := Ext.tr xw_w2 hx8
  replace hb4 := hb4.ext hx8
  replace hb5 := hb5.ext hx8
  refine Go.XK.s (v := .int .i64 0) (e_assign rfl) ?_
  refine sl_nil (nrm_k ?_)
  refine sc_seq ?_
  refine sc_reg ?_
  refine Go.XK.s (v := .pointer (some ⟨b4, 0, none⟩)) (e_fieldB (sz := 1) Try.underlying55 rfl Try.sizeOf23 (by decide) rfl rfl) ?_
  refine Go.XK.s (v := .slice A im.length c) (e_load rfl (load1 Try.isAgg23 (hb4.cell (j := 0) rfl))) ?_
  refine Go.XK.s (v := .slice Aw ws.length cw) (e_move rfl) ?_
  refine Go.XK.s (v := .int .i64 z) (e_move rfl) ?_
  refine sl_call ent15 rfl rfl (rcut_d _ _ _ _ _ _ _ w3 (hl.ext xw_w3) (hw.ext xw_w3) (hin.ext xw_w3) hcut) (by decide) ?_
  rintro _ w4 ⟨vIx, rfl, hoIx, hw4⟩
  replace hoIx := Own.low hoIx (Below.size xw_w3)
  have xw_w4 : Ext w w4 := Ext.tr xw_w3 hw4
  replace hb4 := hb4.ext hw4
  replace hb5 := hb5.ext hw4
  replace hb8 := hb8.ext hw4
  obtain ⟨AIx, cIx, eIx_, hlcIx, hcmIx, _⟩ := Go.XK.Own.shape hoIx (fun _ => rfl)
  subst eIx_
  refine Go.XK.s (v := .tuple #[.slice AIx o.length cIx, .int .i64 e]) (e_move rfl) ?_
  refine Go.XK.s (v := .slice AIx o.length cIx) (e_extract (vs := [.slice AIx o.length cIx, .int .i64 e]) rfl rfl) ?_
  refine Go.XK.s (v := .int .i64 e) (e_extract (vs := [.slice AIx o.length cIx, .int .i64 e]) rfl rfl) ?_
  refine Go.XK.s (v := .slice AIx o.length cIx) (e_assign rfl) ?_
  refine Go.XK.s (v := .int .i64 e) (e_assign rfl) ?_
  refine sl_nil (nrm_k ?_)
  refine sc_seq ?_
  refine sc_seq ?_
  refine sc_reg ?_
  refine Go.XK.s (v := .int .i64 e) (e_move rfl) ?_
  refine Go.XK.s (v := .bool (decide (e ≠ 0))) (e_ne rfl rfl) ?_
  refine sl_nil (nrm_k ?_)
  refine sc_ifd rfl (fun c24 => ?_) (fun c24 => ?_)
  ·
    refine sc_seq ?_
    refine sc_reg ?_
    refine Go.XK.s (v := .agg #[.slice none 0 0, .slice none 0 0]) (e_build (vs := []) rfl (by kernel_rfl)) ?_
    refine Go.XK.s (v := .int .i64 e) (e_move rfl) ?_
    refine su_blkV [.slice none 0 0, .slice none 0 0] [.slice none 0 0, .slice none 0 0] rfl rfl hb8 rfl Try.sizeOf55 (Nat.le_of_ble_eq_true rfl) rfl rfl ?_
    intro w5 hn_ hm_w5 hs_w5
    have ho_ := hb8
    replace hb8 := hn_
    clear hn_
    replace hb4 := hb4.mut hm_w5 (Ne.symm ne_b8_b4)
    replace hb5 := hb5.mut hm_w5 (Ne.symm ne_b8_b5)
    replace hoIx := hoIx.mut hm_w5 (Own.ne hoIx ho_ (by decide))
    have xw_w5 : Ext w w5 := below_mut xw_w4 (Below.size xw_w4) hm_w5 ge_b8
    refine Go.XK.s (v := .int .i64 e) (e_assign rfl) ?_
    refine sl_nil (nrm_k ?_)
    refine sc_retf rfl (ret2 Try.results32 (rvc rfl (hb8.loadA Try.isAgg55 Try.sizeOf55 rfl)) (rvt rfl) ?_)
    have hR : exR im ss st ct ws z = ([], [], e) := by rw [exR, hcut, if_pos c24]
    exact ⟨.slice none 0 0, .slice none 0 0, by rw [hR], by rw [hR]; exact Go.XK.Own.nil _ _ _ _ _, by rw [hR]; exact Go.XK.Own.nil _ _ _ _ _, xw_w5⟩
  ·
    have he0 : e = 0 := Classical.not_not.1 c24
    have hcut0 : cutR im ws z = (o, 0) := by rw [hcut, he0]
    obtain ⟨hv, hz0, hz1, hcc⟩ := cut_range (by rw [hcut0])
    obtain ⟨hm1, hm2, hm3, hokw⟩ := valid_spec hv
    have hmL := valid_len hv
    refine sc_skip (nrm_k ?_)
    refine sc_seq ?_
    refine sc_reg ?_
    refine Go.XK.s (v := .slice AIx o.length cIx) (e_move rfl) ?_
    refine s_bslice (vs := []) (e := 65) rfl [] (by kernel_rfl) ?_
    intro b28 w6 hb28 he28 hs28 hx28
    have ne_b28_b4 : b28 ≠ b4 := by have h_ := hb4.lt; omega
    have ne_b28_b5 : b28 ≠ b5 := by have h_ := hb5.lt; omega
    have ne_b28_b8 : b28 ≠ b8 := by have h_ := hb8.lt; omega
    have no_b28_hoIx : Value.ownBlock (.slice AIx o.length cIx) ≠ some b28 := fun h_ => by have h2_ := (Go.XK.Own.lt hoIx _ h_).2; omega
    have ge_b28 : w.heap.size ≤ b28 := by have h_ := (Below.size xw_w4); omega
    have xw_w6 : Ext w w6 := Ext.tr xw_w4 hx28
    replace hb4 := hb4.ext hx28
    replace hb5 := hb5.ext hx28
    replace hb8 := hb8.ext hx28
    replace hoIx := hoIx.ext hx28
    have ho28 : Go.XK.Own w6 w.heap.size 65 3 encX (.slice (some ⟨b28, 0, none⟩) 0 0) [] := Go.XK.Own.ofBlk (xs := []) hb28 ge_b28 (fun _ => rfl) (by simp)
    refine Go.XK.s (v := .pointer (some ⟨b4, 1, none⟩)) (e_fieldB (sz := 1) Try.underlying55 rfl Try.sizeOf53 (by decide) rfl rfl) ?_
    refine Go.XK.s (v := .slice As ss.length cs) (e_load rfl (load1 Try.isAgg53 (hb4.cell (j := 1) rfl))) ?_
    refine s_appendRd (w0 := w) (z := .agg #[.int .i64 0, .int .i64 0, .bool false]) (kk := 3) (bytes := 24) rfl rfl Try.underlying53 (by kernel_rfl) rfl (by decide) (fun _ => rfl) one_encX ss ho28 xw_w6 (hs.ext xw_w6) rfl (by first | (simp only [maxLen, List.length_nil]; omega) | omega) (by first | (simp only [maxLen, List.length_nil]; omega) | omega) ?_
    intro v31 w7 ho31 xw_w7 hg31 hat31
    rw [List.nil_append] at ho31
    replace hb4 := hb4.grown hg31 (Own.ne ho28 hb4 (by decide))
    replace hb5 := hb5.grown hg31 (Own.ne ho28 hb5 (by decide))
    replace hb8 := hb8.grown hg31 (Own.ne ho28 hb8 (by decide))
    replace hoIx := Go.XK.Own.other hoIx ho28 hg31 (by decide)
    obtain ⟨AY, cY, eY_, hlcY, hcmY, _⟩ := Go.XK.Own.shape ho31 (fun _ => rfl)
    subst eY_
    refine Go.XK.s (v := .agg #[.slice AIx o.length cIx, .slice AY ss.length cY]) (e_build (vs := [(0, .slice AIx o.length cIx), (1, .slice AY ss.length cY)]) rfl (by kernel_rfl)) ?_
    refine s_alloc (cs := [.slice none 0 0, .slice none 0 0]) Try.zeroValue55 rfl ?_
    intro b12 w8 hb12 he12 hs12 hx12
    have ne_b12_b4 : b12 ≠ b4 := by have h_ := hb4.lt; omega
    have ne_b12_b5 : b12 ≠ b5 := by have h_ := hb5.lt; omega
    have ne_b12_b8 : b12 ≠ b8 := by have h_ := hb8.lt; omega
    have no_b12_hoIx : Value.ownBlock (.slice AIx o.length cIx) ≠ some b12 := fun h_ => by have h2_ := (Go.XK.Own.lt hoIx _ h_).2; omega
    have no_b12_ho31 : Value.ownBlock (.slice AY ss.length cY) ≠ some b12 := fun h_ => by have h2_ := (Go.XK.Own.lt ho31 _ h_).2; omega
    have ge_b12 : w.heap.size ≤ b12 := by have h_ := (Below.size xw_w7); omega
    have xw_w8 : Ext w w8 := Ext.tr xw_w7 hx12
    replace hb4 := hb4.ext hx12
    replace hb5 := hb5.ext hx12
    replace hb8 := hb8.ext hx12
    replace hoIx := hoIx.ext hx12
    replace ho31 := ho31.ext hx12
    refine su_blkV [.slice AIx o.length cIx, .slice AY ss.length cY] [.slice AIx o.length cIx, .slice AY ss.length cY] rfl rfl hb12 rfl Try.sizeOf55 (Nat.le_of_ble_eq_true rfl) (all_c1 (own_cells hoIx).2 (all_c1 (own_cells ho31).2 rfl)) rfl ?_
    intro w9 hn_ hm_w9 hs_w9
    have ho_ := hb12
    replace hb12 := hn_
    clear hn_
    replace hb4 := hb4.mut hm_w9 (Ne.symm ne_b12_b4)
    replace hb5 := hb5.mut hm_w9 (Ne.symm ne_b12_b5)
    replace hb8 := hb8.mut hm_w9 (Ne.symm ne_b12_b8)
    replace hoIx := hoIx.mut hm_w9 no_b12_hoIx
    replace ho31 := ho31.mut hm_w9 no_b12_ho31
    have xw_w9 : Ext w w9 := below_mut xw_w8 (Below.size xw_w8) hm_w9 ge_b12
    refine sl_nil (nrm_k ?_)
    refine sc_seq ?_
    refine sc_seq ?_
    refine sc_reg ?_
    refine Go.XK.s (v := .slice Aw ws.length cw) (e_move rfl) ?_
    refine Go.XK.s (v := .int .i64 z) (e_move rfl) ?_
    refine sl_call ent67 rfl rfl (closes_c _ _ _ _ w9 (hw.ext xw_w9) (hin.ext xw_w9) hokw (by omega)) (by decide) ?_
    rintro _ w10 ⟨rfl, hw10⟩
    have xw_w10 : Ext w w10 := Ext.tr xw_w9 hw10
    replace hb4 := hb4.ext hw10
    replace hb5 := hb5.ext hw10
    replace hb8 := hb8.ext hw10
    replace hb12 := hb12.ext hw10
    replace hoIx := hoIx.ext hw10
    replace ho31 := ho31.ext hw10
    refine Go.XK.s (v := .int .i64 ((clsN (stL ws) z.toNat : Nat) : Int)) (e_assign rfl) ?_
    refine sl_nil (nrm_k ?_)
    refine sc_block ?_
    refine sc_loop (fun m_ l_ w_ => ∃ (k : Nat) (v : Value) (xs : List Ses), m_ = 2 * k + 1 ∧ l_ = [(13, .int .i64 (k : Int)), (4, .pointer (some ⟨b4, 0, none⟩)), (5, .pointer (some ⟨b5, 0, none⟩)), (8, .pointer (some ⟨b8, 0, none⟩)), (9, .int .i64 0), (10, .slice AIx o.length cIx), (12, .pointer (some ⟨b12, 0, none⟩))] ∧ Ext w w_ ∧ Blk w_ b4 55 [.slice A im.length c, .slice As ss.length cs] ∧ Blk w_ b5 57 [.int .i64 st, .int .i64 ct] ∧ Blk w_ b8 55 [.slice none 0 0, .slice none 0 0] ∧ Blk w_ b12 55 [.slice AIx o.length cIx, v] ∧ Go.XK.Own w_ w.heap.size 9 1 encS (.slice AIx o.length cIx) o ∧ Go.XK.Own w_ w.heap.size 65 3 encX v xs ∧ iterX st ct k xs = iterX st ct (clsN (stL ws) z.toNat) ss ∧ xs.length + k ≤ 20 + (stL ws).length) _ [(13, .int .i64 ((clsN (stL ws) z.toNat) : Int)), (4, .pointer (some ⟨b4, 0, none⟩)), (5, .pointer (some ⟨b5, 0, none⟩)), (8, .pointer (some ⟨b8, 0, none⟩)), (9, .int .i64 0), (10, .slice AIx o.length cIx), (12, .pointer (some ⟨b12, 0, none⟩))] ⟨clsN (stL ws) z.toNat, (.slice AY ss.length cY), ss, rfl, rfl, xw_w10, hb4, hb5, hb8, hb12, hoIx, ho31, ⟨rfl, by have h_ := cls_le ws z.toNat; omega⟩⟩ (.cons rfl (.cons rfl (.cons rfl (.cons rfl (.cons rfl (.cons rfl (.cons rfl (.nil)))))))) ?_
    rintro j12 _ w11 ⟨k, v, xs, rfl, rfl, xw_w11, hb4, hb5, hb8, hb12, hoIx, hoX, ⟨hit, hxl⟩⟩
    refine sc_seq ?_
    refine sc_seq ?_
    refine sc_reg ?_
    refine Go.XK.s (v := .int .i64 (k : Int)) (e_move rfl) ?_
    refine Go.XK.s (v := .bool (decide ((0 : Int) < (k : Int)))) (e_gt rfl rfl) ?_
    refine sl_nil (nrm_k ?_)
    refine sc_ifd rfl (fun c37 => ?_) (fun c37 => ?_)
    ·
      have hkm : (k : Int) - 1 = ((k - 1 : Nat) : Int) := by omega
      refine sc_skip (nrm_k ?_)
      refine sc_seq ?_
      refine sc_block ?_
      refine sc_seq ?_
      refine sc_reg ?_
      refine Go.XK.s (v := .pointer (some ⟨b12, 1, none⟩)) (e_fieldB (sz := 1) Try.underlying55 rfl Try.sizeOf53 (by decide) rfl rfl) ?_
      refine Go.XK.s (v := v) (e_load rfl (load1 Try.isAgg53 (hb12.cell (j := 1) rfl))) ?_
      refine Go.XK.s (v := .int .i64 (xs.length : Int)) (e_lenOwn Try.underlying53 rfl hoX (fun _ => rfl)) ?_
      refine Go.XK.s (v := .int .i64 ((xs.length : Int) - 1)) (e_sub rfl rfl (by omega)) ?_
      refine Go.XK.s (v := .int .i64 ((xs.length : Int) - 1)) (e_assign rfl) ?_
      refine sl_nil (nrm_k ?_)
      refine sc_seq ?_
      refine sc_seq ?_
      obtain ⟨y, hyd⟩ : ∃ y : Ses, y = (xs[xs.length - 1]?).getD ⟨0, 0, false⟩ := ⟨_, rfl⟩
      have hix : ((xs.length : Int) - 1).toNat = xs.length - 1 := by omega
      refine sc_reg ?_
      refine Go.XK.s (v := .int .i64 ((xs.length : Int) - 1)) (e_move rfl) ?_
      refine Go.XK.s (v := .bool (decide ((0 : Int) ≤ (xs.length : Int) - 1))) (e_ge rfl rfl) ?_
      refine Go.XK.s (v := .bool (decide ((0 : Int) ≤ (xs.length : Int) - 1))) (e_move rfl) ?_
      refine sl_merge 8 54 (.bool ((decide ((0 : Int) ≤ (xs.length : Int) - 1)) && (!y.cl))) ?_ ?_
      · refine sl_case (t := 46) rfl (fun g9_2 => ?_) (fun g9_2 => ?_)
        ·
          have hpos := of_decide_eq_true g9_2
          have hy : xs[xs.length - 1]? = some y := by rw [hyd, List.getElem?_eq_getElem (by omega)]; rfl
          refine sl_gev (v := .pointer (some ⟨b12, 1, none⟩)) rfl rfl g9_2 (e_fieldB (sz := 1) Try.underlying55 rfl Try.sizeOf53 (by decide) rfl rfl) rfl (by decide) ?_
          refine sl_gev (v := v) rfl rfl g9_2 (e_load rfl (load1 Try.isAgg53 (hb12.cell (j := 1) rfl))) rfl (by decide) ?_
          refine sl_gev (v := .int .i64 ((xs.length : Int) - 1)) rfl rfl g9_2 (e_move rfl) rfl (by decide) ?_
          refine sl_gev (v := .pointer (some (el (ownA v) 3 ((xs.length : Int) - 1) 0))) rfl rfl g9_2 (e_idxOwn (x0 := y) Try.underlying53 Try.sizeOf65 rfl rfl hoX (fun _ => rfl) (by rw [hix]; exact hy) (by omega)) rfl (by decide) ?_
          refine sl_gev (v := .pointer (some (el (ownA v) 3 ((xs.length : Int) - 1) 2))) rfl rfl g9_2 (e_fieldEl (fsz := 1) Try.underlying65 rfl Try.sizeOf4 (by decide) rfl rfl) rfl (by decide) ?_
          refine sl_gev (v := .bool y.cl) rfl rfl g9_2 (e_ldEl (xs := xs) (enc := encX) (e := y) rfl (Go.XK.Own.rd hoX (fun _ => rfl)) (by rw [hix]; exact hy) Try.isAgg4 rfl) rfl (by decide) ?_
          refine sl_gev (v := .bool (!y.cl)) rfl rfl g9_2 (e_not rfl) rfl (by decide) ?_
          refine Go.XK.s (v := .bool (!y.cl)) (e_pickT rfl g9_2 rfl) ?_
          exact sl_nil (fun a ha => ⟨rfl, ha.sub (.cons (by rw [g9_2]; rfl) (sub_self_cons (sub_self_cons (sub_self_cons (sub_self_cons (sub_self_cons (sub_self_cons (sub_self_cons (sub_self_cons (Sub.refl _) rfl) rfl) rfl) rfl) rfl) rfl) rfl) rfl))⟩)
        ·
          refine sl_gskip rfl rfl g9_2 (by decide) ?_
          refine sl_gskip rfl rfl g9_2 (by decide) ?_
          refine sl_gskip rfl rfl g9_2 (by decide) ?_
          refine sl_gskip rfl rfl g9_2 (by decide) ?_
          refine sl_gskip rfl rfl g9_2 (by decide) ?_
          refine sl_gskip rfl rfl g9_2 (by decide) ?_
          refine sl_gskip rfl rfl g9_2 (by decide) ?_
          refine Go.XK.s (v := .bool false) (e_pickF rfl g9_2 rfl) ?_
          exact sl_nil (fun a ha => ⟨rfl, ha.sub (.cons (by rw [g9_2]; rfl) (sub_self_cons (sub_self_cons (sub_self_cons (sub_self_cons (sub_self_cons (sub_self_cons (sub_self_cons (sub_self_cons (Sub.refl _) rfl) rfl) rfl) rfl) rfl) rfl) rfl) rfl))⟩)
      refine sl_nil (nrm_k ?_)
      refine sc_if rfl (fun c54 => ?_) (fun c54 => ?_)
      ·
        simp only [Bool.and_eq_true, decide_eq_true_eq, Bool.not_eq_true'] at c54
        have hpos := c54.1
        have hy : xs[xs.length - 1]? = some y := by rw [hyd, List.getElem?_eq_getElem (by omega)]; rfl
        have hstep : closeS st ct xs = xs.set ((xs.length : Int) - 1).toNat ⟨y.s, y.n, true⟩ := by rw [closeS_last hy, if_neg (by simp [c54.2]), hix]
        refine sc_seq ?_
        refine sc_reg ?_
        refine Go.XK.s (v := .pointer (some ⟨b12, 1, none⟩)) (e_fieldB (sz := 1) Try.underlying55 rfl Try.sizeOf53 (by decide) rfl rfl) ?_
        refine Go.XK.s (v := v) (e_load rfl (load1 Try.isAgg53 (hb12.cell (j := 1) rfl))) ?_
        refine Go.XK.s (v := .int .i64 ((xs.length : Int) - 1)) (e_move rfl) ?_
        refine Go.XK.s (v := .pointer (some (el (ownA v) 3 ((xs.length : Int) - 1) 0))) (e_idxOwn (x0 := y) Try.underlying53 Try.sizeOf65 rfl rfl hoX (fun _ => rfl) (by rw [hix]; exact hy) (by omega)) ?_
        refine Go.XK.s (v := .pointer (some (el (ownA v) 3 ((xs.length : Int) - 1) 2))) (e_fieldEl (fsz := 1) Try.underlying65 rfl Try.sizeOf4 (by decide) rfl rfl) ?_
        refine su_ownSet (w0 := w) (x0 := y) (v := v) (⟨y.s, y.n, true⟩) rfl rfl hoX xw_w11 (fun _ => rfl) (by rw [hix]; exact hy) (by decide) rfl rfl Try.sizeOf4 rfl ?_
        intro w13 hn_ xw_w13 hg_w13
        have ho_ := hoX
        replace hb4 := hb4.grown hg_w13 (Own.ne ho_ hb4 (by decide))
        replace hb5 := hb5.grown hg_w13 (Own.ne ho_ hb5 (by decide))
        replace hb8 := hb8.grown hg_w13 (Own.ne ho_ hb8 (by decide))
        replace hb12 := hb12.grown hg_w13 (Own.ne ho_ hb12 (by decide))
        replace hoIx := Go.XK.Own.other hoIx ho_ hg_w13 (by decide)
        replace hoX := hn_
        clear hn_ ho_
        refine sl_nil (nrm_k ?_)
        refine sc_exit rfl (nrm_k ?_)
        refine sc_reg ?_
        refine Go.XK.s (v := .int .i64 (k : Int)) (e_move rfl) ?_
        refine Go.XK.s (v := .int .i64 ((k - 1 : Nat) : Int)) (hkm ▸ e_sub rfl rfl (by omega)) ?_
        refine Go.XK.s (v := .int .i64 ((k - 1 : Nat) : Int)) (e_assign rfl) ?_
        refine sl_nil ?_
        exact nrm_loopq rfl _ _ (by omega) ⟨k - 1, v, xs.set ((xs.length : Int) - 1).toNat (⟨y.s, y.n, true⟩), rfl, rfl, xw_w13, hb4, hb5, hb8, hb12, hoIx, hoX, ⟨by rw [← hit, ← hstep, show k = (k - 1) + 1 from by omega]; rfl, by rw [← hstep]; have h_ := closeS_length st ct xs; omega⟩⟩ (.cons rfl (.cons rfl (.cons rfl (.cons rfl (.cons rfl (.cons rfl (.cons rfl (.nil))))))))
      ·
        have hstep : closeS st ct xs = xs ++ [⟨st, ct, true⟩] := by
          rcases Nat.eq_zero_or_pos xs.length with h0_ | h0_
          · exact closeS_nil h0_
          · have hpos : (0 : Int) ≤ (xs.length : Int) - 1 := by omega
            have hy : xs[xs.length - 1]? = some y := by rw [hyd, List.getElem?_eq_getElem (by omega)]; rfl
            rw [closeS_last hy]
            rw [decide_eq_true hpos] at c54
            rw [if_pos (by simpa using c54)]
        refine sc_skip (nrm_k ?_)
        refine sc_reg ?_
        refine Go.XK.s (v := .pointer (some ⟨b12, 1, none⟩)) (e_fieldB (sz := 1) Try.underlying55 rfl Try.sizeOf53 (by decide) rfl rfl) ?_
        refine Go.XK.s (v := v) (e_load rfl (load1 Try.isAgg53 (hb12.cell (j := 1) rfl))) ?_
        refine Go.XK.s (v := .pointer (some ⟨b5, 0, none⟩)) (e_fieldB (sz := 1) Try.underlying57 rfl Try.sizeOf3 (by decide) rfl rfl) ?_
        refine Go.XK.s (v := .int .i64 st) (e_load rfl (load1 Try.isAgg3 (hb5.cell (j := 0) rfl))) ?_
        refine Go.XK.s (v := .pointer (some ⟨b5, 1, none⟩)) (e_fieldB (sz := 1) Try.underlying57 rfl Try.sizeOf3 (by decide) rfl rfl) ?_
        refine Go.XK.s (v := .int .i64 ct) (e_load rfl (load1 Try.isAgg3 (hb5.cell (j := 1) rfl))) ?_
        refine Go.XK.s (v := .agg #[.int .i64 st, .int .i64 ct, .bool true]) (e_build (vs := [(0, .int .i64 st), (1, .int .i64 ct), (2, .bool true)]) rfl (by kernel_rfl)) ?_
        refine s_bslice (vs := [(0, .agg #[.int .i64 st, .int .i64 ct, .bool true])]) (e := 65) rfl [.int .i64 st, .int .i64 ct, .bool true] (by kernel_rfl) ?_
        intro b67 w14 hb67 he67 hs67 hx67
        have ne_b67_b4 : b67 ≠ b4 := by have h_ := hb4.lt; omega
        have ne_b67_b5 : b67 ≠ b5 := by have h_ := hb5.lt; omega
        have ne_b67_b8 : b67 ≠ b8 := by have h_ := hb8.lt; omega
        have ne_b67_b12 : b67 ≠ b12 := by have h_ := hb12.lt; omega
        have no_b67_hoIx : Value.ownBlock (.slice AIx o.length cIx) ≠ some b67 := fun h_ => by have h2_ := (Go.XK.Own.lt hoIx _ h_).2; omega
        have no_b67_hoX : Value.ownBlock v ≠ some b67 := fun h_ => by have h2_ := (Go.XK.Own.lt hoX _ h_).2; omega
        have ge_b67 : w.heap.size ≤ b67 := by have h_ := (Below.size xw_w11); omega
        have xw_w14 : Ext w w14 := Ext.tr xw_w11 hx67
        replace hb4 := hb4.ext hx67
        replace hb5 := hb5.ext hx67
        replace hb8 := hb8.ext hx67
        replace hb12 := hb12.ext hx67
        replace hoIx := hoIx.ext hx67
        replace hoX := hoX.ext hx67
        refine s_appendLit2 (w0 := w) (z := .agg #[.int .i64 0, .int .i64 0, .bool false]) (kk := 3) (bytes := 24) rfl rfl Try.underlying53 (by kernel_rfl) rfl (by decide) (fun _ => rfl) one_encX [⟨st, ct, true⟩] hoX xw_w14 hb67 rfl rfl (by first | (simp only [maxLen]; omega) | omega) (by first | (simp only [maxLen]; omega) | omega) ?_
        intro v68 w15 ho68 xw_w15 hg68 hat68
        replace hb4 := hb4.grown hg68 (Own.ne hoX hb4 (by decide))
        replace hb5 := hb5.grown hg68 (Own.ne hoX hb5 (by decide))
        replace hb8 := hb8.grown hg68 (Own.ne hoX hb8 (by decide))
        replace hb12 := hb12.grown hg68 (Own.ne hoX hb12 (by decide))
        replace hb67 := hb67.grown hg68 no_b67_hoX
        replace hoIx := Go.XK.Own.other hoIx hoX hg68 (by decide)
        refine Go.XK.s (v := .pointer (some ⟨b12, 1, none⟩)) (e_fieldB (sz := 1) Try.underlying55 rfl Try.sizeOf53 (by decide) rfl rfl) ?_
        refine su_blkV [v68] [.slice AIx o.length cIx, v68] rfl rfl hb12 (own_cells ho68).1 Try.sizeOf53 (Nat.le_of_ble_eq_true rfl) (own_cells ho68).2 rfl ?_
        intro w16 hn_ hm_w16 hs_w16
        have ho_ := hb12
        replace hb12 := hn_
        clear hn_
        replace hb4 := hb4.mut hm_w16 (Ne.symm ne_b12_b4)
        replace hb5 := hb5.mut hm_w16 (Ne.symm ne_b12_b5)
        replace hb8 := hb8.mut hm_w16 (Ne.symm ne_b12_b8)
        replace hb67 := hb67.mut hm_w16 ne_b67_b12
        replace hoIx := hoIx.mut hm_w16 no_b12_hoIx
        replace ho68 := ho68.mut hm_w16 (Own.ne ho68 ho_ (by decide))
        have xw_w16 : Ext w w16 := below_mut xw_w15 (Below.size xw_w15) hm_w16 ge_b12
        refine sl_nil (nrm_k ?_)
        refine sc_reg ?_
        refine Go.XK.s (v := .int .i64 (k : Int)) (e_move rfl) ?_
        refine Go.XK.s (v := .int .i64 ((k - 1 : Nat) : Int)) (hkm ▸ e_sub rfl rfl (by omega)) ?_
        refine Go.XK.s (v := .int .i64 ((k - 1 : Nat) : Int)) (e_assign rfl) ?_
        refine sl_nil ?_
        exact nrm_loopq rfl _ _ (by omega) ⟨k - 1, v68, xs ++ [⟨st, ct, true⟩], rfl, rfl, xw_w16, hb4, hb5, hb8, hb12, hoIx, ho68, ⟨by rw [← hit, ← hstep, show k = (k - 1) + 1 from by omega]; rfl, by rw [← hstep]; have h_ := closeS_length st ct xs; omega⟩⟩ (.cons rfl (.cons rfl (.cons rfl (.cons rfl (.cons rfl (.cons rfl (.cons rfl (.nil))))))))
    ·
      refine sc_exit rfl (nrm_k ?_)
      refine sc_seq ?_
      refine sc_seq ?_
      refine sc_reg ?_
      refine Go.XK.s (v := .pointer (some ⟨b12, 1, none⟩)) (e_fieldB (sz := 1) Try.underlying55 rfl Try.sizeOf53 (by decide) rfl rfl) ?_
      refine Go.XK.s (v := v) (e_load rfl (load1 Try.isAgg53 (hb12.cell (j := 1) rfl))) ?_
      refine Go.XK.s (v := .int .i64 (xs.length : Int)) (e_lenOwn Try.underlying53 rfl hoX (fun _ => rfl)) ?_
      refine Go.XK.s (v := .bool (decide ((16 : Int) < (xs.length : Int)))) (e_gt rfl rfl) ?_
      refine sl_nil (nrm_k ?_)
      refine sc_ifd rfl (fun c73 => ?_) (fun c73 => ?_)
      ·
        refine sc_seq ?_
        refine sc_reg ?_
        refine Go.XK.s (v := .agg #[.slice none 0 0, .slice none 0 0]) (e_build (vs := []) rfl (by kernel_rfl)) ?_
        refine su_blkV [.slice none 0 0, .slice none 0 0] [.slice none 0 0, .slice none 0 0] rfl rfl hb8 rfl Try.sizeOf55 (Nat.le_of_ble_eq_true rfl) rfl rfl ?_
        intro w17 hn_ hm_w17 hs_w17
        have ho_ := hb8
        replace hb8 := hn_
        clear hn_
        replace hb4 := hb4.mut hm_w17 (Ne.symm ne_b8_b4)
        replace hb5 := hb5.mut hm_w17 (Ne.symm ne_b8_b5)
        replace hb12 := hb12.mut hm_w17 ne_b12_b8
        replace hoIx := hoIx.mut hm_w17 (Own.ne hoIx ho_ (by decide))
        replace hoX := hoX.mut hm_w17 (Own.ne hoX ho_ (by decide))
        have xw_w17 : Ext w w17 := below_mut xw_w11 (Below.size xw_w11) hm_w17 ge_b8
        refine Go.XK.s (v := .int .i64 12) (e_assign rfl) ?_
        refine sl_nil (nrm_k ?_)
        refine sc_retf rfl (ret2 Try.results32 (rvc rfl (hb8.loadA Try.isAgg55 Try.sizeOf55 rfl)) (rvt rfl) ?_)
        have hk0 : k = 0 := by omega
        subst hk0
        have hxs : xs = runX st ct ((stL ws).take z.toNat) ss := by rw [exR_iter]; exact hit
        have hR : exR im ss st ct ws z = ([], [], 12) := by rw [exR, hcut0, if_neg (by simp), ← hxs, if_pos (by omega)]
        exact ⟨.slice none 0 0, .slice none 0 0, by rw [hR], by rw [hR]; exact Go.XK.Own.nil _ _ _ _ _, by rw [hR]; exact Go.XK.Own.nil _ _ _ _ _, xw_w17⟩
      ·
        refine sc_skip (nrm_k ?_)
        refine sc_seq ?_
        refine sc_reg ?_
        refine Go.XK.s (v := .agg #[.slice AIx o.length cIx, v]) (e_load rfl (hb12.loadA Try.isAgg55 Try.sizeOf55 rfl)) ?_
        refine su_blkV [.slice AIx o.length cIx, v] [.slice AIx o.length cIx, v] rfl rfl hb8 rfl Try.sizeOf55 (Nat.le_of_ble_eq_true rfl) (all_c1 (own_cells hoIx).2 (all_c1 (own_cells hoX).2 rfl)) rfl ?_
        intro w18 hn_ hm_w18 hs_w18
        have ho_ := hb8
        replace hb8 := hn_
        clear hn_
        replace hb4 := hb4.mut hm_w18 (Ne.symm ne_b8_b4)
        replace hb5 := hb5.mut hm_w18 (Ne.symm ne_b8_b5)
        replace hb12 := hb12.mut hm_w18 ne_b12_b8
        replace hoIx := hoIx.mut hm_w18 (Own.ne hoIx ho_ (by decide))
        replace hoX := hoX.mut hm_w18 (Own.ne hoX ho_ (by decide))
        have xw_w18 : Ext w w18 := below_mut xw_w11 (Below.size xw_w11) hm_w18 ge_b8
        refine Go.XK.s (v := .int .i64 0) (e_assign rfl) ?_
        refine sl_nil (nrm_k ?_)
        refine sc_retf rfl (ret2 Try.results32 (rvc rfl (hb8.loadA Try.isAgg55 Try.sizeOf55 rfl)) (rvt rfl) ?_)
        have hk0 : k = 0 := by omega
        subst hk0
        have hxs : xs = runX st ct ((stL ws).take z.toNat) ss := by rw [exR_iter]; exact hit
        have hR : exR im ss st ct ws z = (o, xs, 0) := by rw [exR, hcut0, if_neg (by simp), ← hxs, if_neg (by omega)]
        exact ⟨(.slice AIx o.length cIx), v, by rw [hR], by rw [hR]; exact hoIx, by rw [hR]; exact hoX, xw_w18⟩

/-- slices.Equal[[]masterdisc/api.Session,masterdisc/api.Session] (function 36) -/
theorem equalX_c (a b : List Ses) (A A2 : Option Addr) (c d : Nat) (w : World) (hla : SlR w A c 3 encX a) (hlb : SlR w A2 d 3 encX b) : CallR Try.prog 36 [.slice A a.length c, .slice A2 b.length d] w (fun v w' => v = .bool (decide (a = b)) ∧ Ext w w') := by
  have hmx0 := hla.lenle
  simp only [maxLen] at hmx0
  have hmx1 := hlb.lenle
  simp only [maxLen] at hmx1
  refine callR_of (n := 26) [(0, .slice A a.length c), (1, .slice A2 b.length d)] Try.func36 rfl rfl (Nat.le_of_ble_eq_true rfl) rfl ?_
  refine sc_seq ?_
  refine sc_reg ?_
  refine Go.XK.s (v := .bool false) (e_assign rfl) ?_
  refine sl_nil (nrm_k ?_)
  refine sc_seq ?_
  refine sc_seq ?_
  refine sc_reg ?_
  refine Go.XK.s (v := .slice A a.length c) (e_move rfl) ?_
  refine Go.XK.s (v := .int .i64 (a.length : Int)) (e_len Try.underlying53 rfl) ?_
  refine Go.XK.s (v := .slice A2 b.length d) (e_move rfl) ?_
  refine Go.XK.s (v := .int .i64 (b.length : Int)) (e_len Try.underlying53 rfl) ?_
  refine Go.XK.s (v := .bool (decide ((a.length : Int) ≠ (b.length : Int)))) (e_ne rfl rfl) ?_
  refine sl_nil (nrm_k ?_)
  refine sc_ifd rfl (fun c10 => ?_) (fun c10 => ?_)
  ·
    refine sc_seq ?_
    refine sc_reg ?_
    refine Go.XK.s (v := .bool false) (e_assign rfl) ?_
    refine sl_nil (nrm_k ?_)
    refine sc_retf rfl (ret1 Try.results36 (rvt rfl) ?_)
    exact ⟨congrArg Value.bool (decide_eq_false (fun e => by subst e; exact c10 rfl)).symm, (Ext.rfl' w)⟩
  ·
    have hl : a.length = b.length := by omega
    refine sc_skip (nrm_k ?_)
    refine sc_seq ?_
    refine sc_seq ?_
    refine sc_reg ?_
    refine Go.XK.s (v := .slice A a.length c) (e_move rfl) ?_
    refine Go.XK.s (v := .int .i64 (a.length : Int)) (e_len Try.underlying53 rfl) ?_
    refine Go.XK.s (v := .int .i64 0) (e_move rfl) ?_
    refine sl_nil (nrm_k ?_)
    refine sc_block ?_
    refine sc_loop (fun m_ l_ w_ => ∃ (i : Nat), m_ = a.length - i ∧ l_ = [(13, .int .i64 (i : Int)), (0, .slice A a.length c), (1, .slice A2 b.length d), (12, .int .i64 (a.length : Int))] ∧ Ext w w_ ∧ i ≤ a.length ∧ a.take i = b.take i) _ [(13, .int .i64 (0 : Int)), (0, .slice A a.length c), (1, .slice A2 b.length d), (12, .int .i64 (a.length : Int))] ⟨0, rfl, rfl, (Ext.rfl' w), ⟨by omega, rfl⟩⟩ (.cons rfl (.cons rfl (.cons rfl (.cons rfl (.nil))))) ?_
    rintro j2 _ w1 ⟨i, rfl, rfl, xw_w1, ⟨hi, hs⟩⟩
    refine sc_seq ?_
    refine sc_reg ?_
    refine Go.XK.s (v := .bool (decide ((i : Int) < (a.length : Int)))) (e_lt rfl rfl) ?_
    refine sl_nil (nrm_k ?_)
    refine sc_seq ?_
    refine sc_ifd rfl (fun c14 => ?_) (fun c14 => ?_)
    ·
      obtain ⟨x, hx⟩ : ∃ x, a[i]? = some x := ⟨_, List.getElem?_eq_getElem (by omega)⟩
      obtain ⟨y, hy⟩ : ∃ y, b[i]? = some y := ⟨_, List.getElem?_eq_getElem (by omega)⟩
      refine sc_skip (nrm_k ?_)
      refine sc_seq ?_
      refine sc_block ?_
      refine sc_seq ?_
      refine sc_reg ?_
      refine Go.XK.s (v := .int .i64 (i : Int)) (e_move rfl) ?_
      refine Go.XK.s (v := .int .i64 (i : Int)) (e_assign rfl) ?_
      refine sl_nil (nrm_k ?_)
      refine sc_seq ?_
      refine sc_free [(5, .int .i64 (i : Int)), (15, .int .i64 (i : Int)), (14, .bool (decide ((i : Int) < (a.length : Int)))), (13, .int .i64 (i : Int)), (0, .slice A a.length c), (1, .slice A2 b.length d), (12, .int .i64 (a.length : Int))] [16, 17, 18, 19, 20, 21, 22, 23, 24] [(Is (.slice A a.length c)), (Is (.int .i64 (i : Int))), (Is (.pointer (some (el A 3 (i : Int) 0)))), (Is (.agg #[.int .i64 x.s, .int .i64 x.n, .bool x.cl])), (Is (.slice A2 b.length d)), (Is (.int .i64 (i : Int))), (Is (.pointer (some (el A2 3 (i : Int) 0)))), (Is (.agg #[.int .i64 y.s, .int .i64 y.n, .bool y.cl])), (Is (.bool (decide (x ≠ y))))] [] (by kernel_rfl) (Sub.refl _) (by kernel_rfl) (by kernel_rfl) (by kernel_rfl) rfl (by kernel_rfl) (ds_ext (Stays.spec (.is _ (.is _ (.is _ (.is _ (.is _ (.is _ (.is _ (.is _ (.is _ (.nil)))))))))))) ⟨?_, ?_, ?_, ?_, ?_, ?_, ?_, ?_, ?_, trivial⟩ ?_
      · intro Q act_ wI hxI ha hp
        have xw_wI : Ext w wI := Ext.tr xw_w1 hxI
        exact h_evA (v := .slice A a.length c) ha rfl (e_move rfl) rfl rfl (Ext.rfl' _)
      · intro Q act_ wI hxI ha hp
        have xw_wI : Ext w wI := Ext.tr xw_w1 hxI
        exact h_evA (v := .int .i64 (i : Int)) ha rfl (e_move rfl) rfl rfl (Ext.rfl' _)
      · intro Q act_ wI hxI ha hp
        have xw_wI : Ext w wI := Ext.tr xw_w1 hxI
        have ha := ha.add (show act_.tmps.getD 16 undef = .slice A a.length c from hp 0 (by kernel_rfl) (by decide))
        have ha := ha.add (show act_.tmps.getD 17 undef = .int .i64 (i : Int) from hp 1 (by kernel_rfl) (by decide))
        exact h_evA (v := .pointer (some (el A 3 (i : Int) 0))) ha rfl (e_idxEl (e := x) Try.underlying53 Try.sizeOf65 rfl rfl (hla.1.ext xw_wI) hx (by omega) rfl) rfl rfl (Ext.rfl' _)
      · intro Q act_ wI hxI ha hp
        have xw_wI : Ext w wI := Ext.tr xw_w1 hxI
        have ha := ha.add (show act_.tmps.getD 18 undef = .pointer (some (el A 3 (i : Int) 0)) from hp 2 (by kernel_rfl) (by decide))
        exact h_evA (v := .agg #[.int .i64 x.s, .int .i64 x.n, .bool x.cl]) ha rfl (e_ldElA (xs := a) (enc := encX) (e := x) rfl (hla.1.ext xw_wI) hx Try.isAgg65 Try.sizeOf65 rfl) rfl rfl (Ext.rfl' _)
      · intro Q act_ wI hxI ha hp
        have xw_wI : Ext w wI := Ext.tr xw_w1 hxI
        exact h_evA (v := .slice A2 b.length d) ha rfl (e_move rfl) rfl rfl (Ext.rfl' _)
      · intro Q act_ wI hxI ha hp
        have xw_wI : Ext w wI := Ext.tr xw_w1 hxI
        exact h_evA (v := .int .i64 (i : Int)) ha rfl (e_move rfl) rfl rfl (Ext.rfl' _)
      · intro Q act_ wI hxI ha hp
        have xw_wI : Ext w wI := Ext.tr xw_w1 hxI
        have ha := ha.add (show act_.tmps.getD 20 undef = .slice A2 b.length d from hp 4 (by kernel_rfl) (by decide))
        have ha := ha.add (show act_.tmps.getD 21 undef = .int .i64 (i : Int) from hp 5 (by kernel_rfl) (by decide))
        exact h_evA (v := .pointer (some (el A2 3 (i : Int) 0))) ha rfl (e_idxEl (e := y) Try.underlying53 Try.sizeOf65 rfl rfl (hlb.1.ext xw_wI) hy (by omega) rfl) rfl rfl (Ext.rfl' _)
      · intro Q act_ wI hxI ha hp
        have xw_wI : Ext w wI := Ext.tr xw_w1 hxI
        have ha := ha.add (show act_.tmps.getD 22 undef = .pointer (some (el A2 3 (i : Int) 0)) from hp 6 (by kernel_rfl) (by decide))
        exact h_evA (v := .agg #[.int .i64 y.s, .int .i64 y.n, .bool y.cl]) ha rfl (e_ldElA (xs := b) (enc := encX) (e := y) rfl (hlb.1.ext xw_wI) hy Try.isAgg65 Try.sizeOf65 rfl) rfl rfl (Ext.rfl' _)
      · intro Q act_ wI hxI ha hp
        have xw_wI : Ext w wI := Ext.tr xw_w1 hxI
        have ha := ha.add (show act_.tmps.getD 19 undef = .agg #[.int .i64 x.s, .int .i64 x.n, .bool x.cl] from hp 3 (by kernel_rfl) (by decide))
        have ha := ha.add (show act_.tmps.getD 23 undef = .agg #[.int .i64 y.s, .int .i64 y.n, .bool y.cl] from hp 7 (by kernel_rfl) (by decide))
        exact h_evA (v := .bool (decide (x ≠ y))) ha rfl (e_bin rfl rfl (run_neq_ses _ _ x y _)) rfl rfl (Ext.rfl' _)
      intro vs_ w3 hx_w3 hvs act_ ha hv
      have xw_w3 : Ext w w3 := Ext.tr xw_w1 hx_w3
      have ha := ha.add ((hv 8 (by decide)).trans (show vs_ 8 = .bool (decide (x ≠ y)) from hvs 8 (by decide)))
      refine st_go ha ?_
      clear ha hv hvs
      refine st_nil (nrm_k ?_)
      refine sc_ifd rfl (fun c24 => ?_) (fun c24 => ?_)
      ·
        refine sc_seq ?_
        refine sc_reg ?_
        refine Go.XK.s (v := .bool false) (e_assign rfl) ?_
        refine sl_nil (nrm_k ?_)
        refine sc_retf rfl (ret1 Try.results36 (rvt rfl) ?_)
        exact ⟨congrArg Value.bool (decide_eq_false (same_no hx hy c24)).symm, xw_w3⟩
      ·
        refine sc_skip (nrm_k ?_)
        refine sc_reg ?_
        refine Go.XK.s (v := .int .i64 ((i : Int) + 1)) (e_add rfl rfl (by omega)) ?_
        refine Go.XK.s (v := .int .i64 ((i : Int) + 1)) (e_move rfl) ?_
        refine sl_nil ?_
        exact nrm_loopq rfl _ _ (by omega) ⟨i + 1, rfl, rfl, xw_w3, ⟨by omega, same_take hx (by rw [hy, Classical.not_not.1 c24]) hs⟩⟩ (.cons rfl (.cons rfl (.cons rfl (.cons rfl (.nil)))))
    ·
      refine sc_exit rfl (nrm_k ?_)
      refine sc_seq ?_
      refine sc_reg ?_
      refine Go.XK.s (v := .bool true) (e_assign rfl) ?_
      refine sl_nil (nrm_k ?_)
      refine sc_retf rfl (ret1 Try.results36 (rvt rfl) ?_)
      exact ⟨congrArg Value.bool (decide_eq_true (same_end hs hl (by omega))).symm, xw_w1⟩

/-- masterdisc/masterdiscref52.SameDisc (function 33) -/
theorem samedisc_c (a1 q1 : Img) (a2 q2 : List Ses) (A1 A2 B1 B2 : Option Addr) (c1 c2 d1 d2 : Nat) (w : World) (ha1 : SlR w A1 c1 1 encS a1) (ha2 : SlR w A2 c2 3 encX a2) (hq1 : SlR w B1 d1 1 encS q1) (hq2 : SlR w B2 d2 3 encX q2) : CallR Try.prog 33 [.agg #[.slice A1 a1.length c1, .slice A2 a2.length c2], .agg #[.slice B1 q1.length d1, .slice B2 q2.length d2]] w (fun v w' => v = .bool (decide (a1 = q1) && decide (a2 = q2)) ∧ Ext w w') := by
  have hmx0 := ha1.lenle
  simp only [maxLen] at hmx0
  have hmx1 := ha2.lenle
  simp only [maxLen] at hmx1
  have hmx2 := hq1.lenle
  simp only [maxLen] at hmx2
  have hmx3 := hq2.lenle
  simp only [maxLen] at hmx3
  refine callR_of (n := 39) [(0, .agg #[.slice A1 a1.length c1, .slice A2 a2.length c2]), (1, .agg #[.slice B1 q1.length d1, .slice B2 q2.length d2])] Try.func33 rfl rfl (Nat.le_of_ble_eq_true rfl) rfl ?_
  refine sc_seq ?_
  refine sc_reg ?_
  refine s_box (cs := [.slice A1 a1.length c1, .slice A2 a2.length c2]) rfl rfl ?_
  intro b2 w1 hb2 he2 hs2 hx2
  have ge_b2 : w.heap.size ≤ b2 := by have h_ := (Below.size (Ext.rfl' w)); omega
  have xw_w1 : Ext w w1 := Ext.tr (Ext.rfl' w) hx2
  refine s_box (cs := [.slice B1 q1.length d1, .slice B2 q2.length d2]) rfl rfl ?_
  intro b3 w2 hb3 he3 hs3 hx3
  have ne_b3_b2 : b3 ≠ b2 := by have h_ := hb2.lt; omega
  have ge_b3 : w.heap.size ≤ b3 := by have h_ := (Below.size xw_w1); omega
  have xw_w2 : Ext w w2 := Ext.tr xw_w1 hx3
  replace hb2 := hb2.ext hx3
  refine Go.XK.s (v := .bool false) (e_assign rfl) ?_
  refine sl_nil (nrm_k ?_)
  refine sc_seq ?_
  refine sc_seq ?_
  refine sc_reg ?_
  refine Go.XK.s (v := .pointer (some ⟨b2, 0, none⟩)) (e_fieldB (sz := 1) Try.underlying55 rfl Try.sizeOf23 (by decide) rfl rfl) ?_
  refine Go.XK.s (v := .slice A1 a1.length c1) (e_load rfl (load1 Try.isAgg23 (hb2.cell (j := 0) rfl))) ?_
  refine Go.XK.s (v := .pointer (some ⟨b3, 0, none⟩)) (e_fieldB (sz := 1) Try.underlying55 rfl Try.sizeOf23 (by decide) rfl rfl) ?_
  refine Go.XK.s (v := .slice B1 q1.length d1) (e_load rfl (load1 Try.isAgg23 (hb3.cell (j := 0) rfl))) ?_
  refine sl_call ent22 rfl rfl (same_c _ _ _ _ _ _ w2 (ha1.ext xw_w2) (hq1.ext xw_w2)) (by decide) ?_
  rintro _ w3 ⟨rfl, hw3⟩
  have xw_w3 : Ext w w3 := Ext.tr xw_w2 hw3
  replace hb2 := hb2.ext hw3
  replace hb3 := hb3.ext hw3
  refine Go.XK.s (v := .bool (!(decide (a1 = q1)))) (e_not rfl) ?_
  refine Go.XK.s (v := .bool (!(decide (a1 = q1)))) (e_move rfl) ?_
  refine sl_merge 8 20 (.bool ((!(decide (a1 = q1))) || (decide ((a2.length : Int) ≠ (q2.length : Int))))) ?_ ?_
  · refine sl_case (t := 12) rfl (fun g1_6 => ?_) (fun g1_6 => ?_)
    ·
      refine sl_gskip rfl rfl g1_6 (by decide) ?_
      refine sl_gskip rfl rfl g1_6 (by decide) ?_
      refine sl_gskip rfl rfl g1_6 (by decide) ?_
      refine sl_gskip rfl rfl g1_6 (by decide) ?_
      refine sl_gskip rfl rfl g1_6 (by decide) ?_
      refine sl_gskip rfl rfl g1_6 (by decide) ?_
      refine sl_gskip rfl rfl g1_6 (by decide) ?_
      refine Go.XK.s (v := .bool true) (e_pickT rfl g1_6 rfl) ?_
      exact sl_nil (fun a ha => ⟨rfl, ha.sub (.cons (by rw [g1_6]; rfl) (sub_self_cons (sub_self_cons (sub_self_cons (sub_self_cons (sub_self_cons (sub_self_cons (sub_self_cons (sub_self_cons (Sub.refl _) rfl) rfl) rfl) rfl) rfl) rfl) rfl) rfl))⟩)
    ·
      refine sl_gev (v := .pointer (some ⟨b2, 1, none⟩)) rfl rfl g1_6 (e_fieldB (sz := 1) Try.underlying55 rfl Try.sizeOf53 (by decide) rfl rfl) rfl (by decide) ?_
      refine sl_gev (v := .slice A2 a2.length c2) rfl rfl g1_6 (e_load rfl (load1 Try.isAgg53 (hb2.cell (j := 1) rfl))) rfl (by decide) ?_
      refine sl_gev (v := .int .i64 (a2.length : Int)) rfl rfl g1_6 (e_len Try.underlying53 rfl) rfl (by decide) ?_
      refine sl_gev (v := .pointer (some ⟨b3, 1, none⟩)) rfl rfl g1_6 (e_fieldB (sz := 1) Try.underlying55 rfl Try.sizeOf53 (by decide) rfl rfl) rfl (by decide) ?_
      refine sl_gev (v := .slice B2 q2.length d2) rfl rfl g1_6 (e_load rfl (load1 Try.isAgg53 (hb3.cell (j := 1) rfl))) rfl (by decide) ?_
      refine sl_gev (v := .int .i64 (q2.length : Int)) rfl rfl g1_6 (e_len Try.underlying53 rfl) rfl (by decide) ?_
      refine sl_gev (v := .bool (decide ((a2.length : Int) ≠ (q2.length : Int)))) rfl rfl g1_6 (e_ne rfl rfl) rfl (by decide) ?_
      refine Go.XK.s (v := .bool (decide ((a2.length : Int) ≠ (q2.length : Int)))) (e_pickF rfl g1_6 rfl) ?_
      exact sl_nil (fun a ha => ⟨rfl, ha.sub (.cons (by rw [g1_6]; rfl) (sub_self_cons (sub_self_cons (sub_self_cons (sub_self_cons (sub_self_cons (sub_self_cons (sub_self_cons (sub_self_cons (Sub.refl _) rfl) rfl) rfl) rfl) rfl) rfl) rfl) rfl))⟩)
  refine sl_nil (nrm_k ?_)
  refine sc_if rfl (fun c20 => ?_) (fun c20 => ?_)
  ·
    refine sc_seq ?_
    refine sc_reg ?_
    refine Go.XK.s (v := .bool false) (e_assign rfl) ?_
    refine sl_nil (nrm_k ?_)
    refine sc_retf rfl (ret1 Try.results33 (rvt rfl) ?_)
    exact ⟨congrArg Value.bool (by
      by_cases h1_ : a1 = q1
      · by_cases h2_ : a2 = q2
        · subst h1_ h2_; simp at c20
        · simp [h2_]
      · simp [h1_]), xw_w3⟩
  ·
    have hq : a1 = q1 ∧ a2.length = q2.length := by simp at c20; exact ⟨c20.1, by omega⟩
    obtain ⟨hab, hl⟩ := hq
    refine sc_skip (nrm_k ?_)
    refine sc_seq ?_
    refine sc_seq ?_
    refine sc_reg ?_
    refine Go.XK.s (v := .int .i64 0) (e_assign rfl) ?_
    refine sl_nil (nrm_k ?_)
    refine sc_block ?_
    refine sc_loop (fun m_ l_ w_ => ∃ (i : Nat), m_ = a2.length - i ∧ l_ = [(5, .int .i64 (i : Int)), (2, .pointer (some ⟨b2, 0, none⟩)), (3, .pointer (some ⟨b3, 0, none⟩))] ∧ Ext w w_ ∧ Blk w_ b2 55 [.slice A1 a1.length c1, .slice A2 a2.length c2] ∧ Blk w_ b3 55 [.slice B1 q1.length d1, .slice B2 q2.length d2] ∧ i ≤ a2.length ∧ a2.take i = q2.take i) _ [(5, .int .i64 (0 : Int)), (2, .pointer (some ⟨b2, 0, none⟩)), (3, .pointer (some ⟨b3, 0, none⟩))] ⟨0, rfl, rfl, xw_w3, hb2, hb3, ⟨by omega, rfl⟩⟩ (.cons rfl (.cons rfl (.cons rfl (.nil)))) ?_
    rintro j5 _ w4 ⟨i, rfl, rfl, xw_w4, hb2, hb3, ⟨hi, hs⟩⟩
    refine sc_seq ?_
    refine sc_seq ?_
    refine sc_reg ?_
    refine Go.XK.s (v := .int .i64 (i : Int)) (e_move rfl) ?_
    refine Go.XK.s (v := .pointer (some ⟨b2, 1, none⟩)) (e_fieldB (sz := 1) Try.underlying55 rfl Try.sizeOf53 (by decide) rfl rfl) ?_
    refine Go.XK.s (v := .slice A2 a2.length c2) (e_load rfl (load1 Try.isAgg53 (hb2.cell (j := 1) rfl))) ?_
    refine Go.XK.s (v := .int .i64 (a2.length : Int)) (e_len Try.underlying53 rfl) ?_
    refine Go.XK.s (v := .bool (decide ((i : Int) < (a2.length : Int)))) (e_lt rfl rfl) ?_
    refine sl_nil (nrm_k ?_)
    refine sc_ifd rfl (fun c25 => ?_) (fun c25 => ?_)
    ·
      obtain ⟨x, hx⟩ : ∃ x, a2[i]? = some x := ⟨_, List.getElem?_eq_getElem (by omega)⟩
      obtain ⟨y, hy⟩ : ∃ y, q2[i]? = some y := ⟨_, List.getElem?_eq_getElem (by omega)⟩
      refine sc_skip (nrm_k ?_)
      refine sc_seq ?_
      refine sc_block ?_
      refine sc_seq ?_
      refine sc_free [(25, .bool (decide ((i : Int) < (a2.length : Int)))), (24, .int .i64 (a2.length : Int)), (23, .slice A2 a2.length c2), (22, .pointer (some ⟨b2, 1, none⟩)), (21, .int .i64 (i : Int)), (5, .int .i64 (i : Int)), (2, .pointer (some ⟨b2, 0, none⟩)), (3, .pointer (some ⟨b3, 0, none⟩))] [28, 29, 30, 31, 32, 33, 34, 35, 36, 37, 38] [(Is (.pointer (some ⟨b2, 1, none⟩))), (Is (.slice A2 a2.length c2)), (Is (.int .i64 (i : Int))), (Is (.pointer (some (el A2 3 (i : Int) 0)))), (Is (.agg #[.int .i64 x.s, .int .i64 x.n, .bool x.cl])), (Is (.pointer (some ⟨b3, 1, none⟩))), (Is (.slice B2 q2.length d2)), (Is (.int .i64 (i : Int))), (Is (.pointer (some (el B2 3 (i : Int) 0)))), (Is (.agg #[.int .i64 y.s, .int .i64 y.n, .bool y.cl])), (Is (.bool (decide (x ≠ y))))] [] (by kernel_rfl) (Sub.refl _) (by kernel_rfl) (by kernel_rfl) (by kernel_rfl) rfl (by kernel_rfl) (ds_ext (Stays.spec (.is _ (.is _ (.is _ (.is _ (.is _ (.is _ (.is _ (.is _ (.is _ (.is _ (.is _ (.nil)))))))))))))) ⟨?_, ?_, ?_, ?_, ?_, ?_, ?_, ?_, ?_, ?_, ?_, trivial⟩ ?_
      · intro Q act_ wI hxI ha hp
        have xw_wI : Ext w wI := Ext.tr xw_w4 hxI
        replace hb2 := hb2.ext hxI
        replace hb3 := hb3.ext hxI
        exact h_evA (v := .pointer (some ⟨b2, 1, none⟩)) ha rfl (e_fieldB (sz := 1) Try.underlying55 rfl Try.sizeOf53 (by decide) rfl rfl) rfl rfl (Ext.rfl' _)
      · intro Q act_ wI hxI ha hp
        have xw_wI : Ext w wI := Ext.tr xw_w4 hxI
        replace hb2 := hb2.ext hxI
        replace hb3 := hb3.ext hxI
        have ha := ha.add (show act_.tmps.getD 28 undef = .pointer (some ⟨b2, 1, none⟩) from hp 0 (by kernel_rfl) (by decide))
        exact h_evA (v := .slice A2 a2.length c2) ha rfl (e_load rfl (load1 Try.isAgg53 (hb2.cell (j := 1) rfl))) rfl rfl (Ext.rfl' _)
      · intro Q act_ wI hxI ha hp
        have xw_wI : Ext w wI := Ext.tr xw_w4 hxI
        replace hb2 := hb2.ext hxI
        replace hb3 := hb3.ext hxI
        exact h_evA (v := .int .i64 (i : Int)) ha rfl (e_move rfl) rfl rfl (Ext.rfl' _)
      · intro Q act_ wI hxI ha hp
        have xw_wI : Ext w wI := Ext.tr xw_w4 hxI
        replace hb2 := hb2.ext hxI
        replace hb3 := hb3.ext hxI
        have ha := ha.add (show act_.tmps.getD 29 undef = .slice A2 a2.length c2 from hp 1 (by kernel_rfl) (by decide))
        have ha := ha.add (show act_.tmps.getD 30 undef = .int .i64 (i : Int) from hp 2 (by kernel_rfl) (by decide))
        exact h_evA (v := .pointer (some (el A2 3 (i : Int) 0))) ha rfl (e_idxEl (e := x) Try.underlying53 Try.sizeOf65 rfl rfl (ha2.1.ext xw_wI) hx (by omega) rfl) rfl rfl (Ext.rfl' _)
      · intro Q act_ wI hxI ha hp
        have xw_wI : Ext w wI := Ext.tr xw_w4 hxI
        replace hb2 := hb2.ext hxI
        replace hb3 := hb3.ext hxI
        have ha := ha.add (show act_.tmps.getD 31 undef = .pointer (some (el A2 3 (i : Int) 0)) from hp 3 (by kernel_rfl) (by decide))
        exact h_evA (v := .agg #[.int .i64 x.s, .int .i64 x.n, .bool x.cl]) ha rfl (e_ldElA (xs := a2) (enc := encX) (e := x) rfl (ha2.1.ext xw_wI) hx Try.isAgg65 Try.sizeOf65 rfl) rfl rfl (Ext.rfl' _)
      · intro Q act_ wI hxI ha hp
        have xw_wI : Ext w wI := Ext.tr xw_w4 hxI
        replace hb2 := hb2.ext hxI
        replace hb3 := hb3.ext hxI
        exact h_evA (v := .pointer (some ⟨b3, 1, none⟩)) ha rfl (e_fieldB (sz := 1) Try.underlying55 rfl Try.sizeOf53 (by decide) rfl rfl) rfl rfl (Ext.rfl' _)
      · intro Q act_ wI hxI ha hp
        have xw_wI : Ext w wI := Ext.tr xw_w4 hxI
        replace hb2 := hb2.ext hxI
        replace hb3 := hb3.ext hxI
        have ha := ha.add (show act_.tmps.getD 33 undef = .pointer (some ⟨b3, 1, none⟩) from hp 5 (by kernel_rfl) (by decide))
        exact h_evA (v := .slice B2 q2.length d2) ha rfl (e_load rfl (load1 Try.isAgg53 (hb3.cell (j := 1) rfl))) rfl rfl (Ext.rfl' _)
      · intro Q act_ wI hxI ha hp
        have xw_wI : Ext w wI := Ext.tr xw_w4 hxI
        replace hb2 := hb2.ext hxI
        replace hb3 := hb3.ext hxI
        exact h_evA (v := .int .i64 (i : Int)) ha rfl (e_move rfl) rfl rfl (Ext.rfl' _)
      · intro Q act_ wI hxI ha hp
        have xw_wI : Ext w wI := Ext.tr xw_w4 hxI
        replace hb2 := hb2.ext hxI
        replace hb3 := hb3.ext hxI
        have ha := ha.add (show act_.tmps.getD 34 undef = .slice B2 q2.length d2 from hp 6 (by kernel_rfl) (by decide))
        have ha := ha.add (show act_.tmps.getD 35 undef = .int .i64 (i : Int) from hp 7 (by kernel_rfl) (by decide))
        exact h_evA (v := .pointer (some (el B2 3 (i : Int) 0))) ha rfl (e_idxEl (e := y) Try.underlying53 Try.sizeOf65 rfl rfl (hq2.1.ext xw_wI) hy (by omega) rfl) rfl rfl (Ext.rfl' _)
      · intro Q act_ wI hxI ha hp
        have xw_wI : Ext w wI := Ext.tr xw_w4 hxI
        replace hb2 := hb2.ext hxI
        replace hb3 := hb3.ext hxI
        have ha := ha.add (show act_.tmps.getD 36 undef = .pointer (some (el B2 3 (i : Int) 0)) from hp 8 (by kernel_rfl) (by decide))
        exact h_evA (v := .agg #[.int .i64 y.s, .int .i64 y.n, .bool y.cl]) ha rfl (e_ldElA (xs := q2) (enc := encX) (e := y) rfl (hq2.1.ext xw_wI) hy Try.isAgg65 Try.sizeOf65 rfl) rfl rfl (Ext.rfl' _)
      · intro Q act_ wI hxI ha hp
        have xw_wI : Ext w wI := Ext.tr xw_w4 hxI
        replace hb2 := hb2.ext hxI
        replace hb3 := hb3.ext hxI
        have ha := ha.add (show act_.tmps.getD 32 undef = .agg #[.int .i64 x.s, .int .i64 x.n, .bool x.cl] from hp 4 (by kernel_rfl) (by decide))
        have ha := ha.add (show act_.tmps.getD 37 undef = .agg #[.int .i64 y.s, .int .i64 y.n, .bool y.cl] from hp 9 (by kernel_rfl) (by decide))
        exact h_evA (v := .bool (decide (x ≠ y))) ha rfl (e_bin rfl rfl (run_neq_ses _ _ x y _)) rfl rfl (Ext.rfl' _)
      intro vs_ w6 hx_w6 hvs act_ ha hv
      have xw_w6 : Ext w w6 := Ext.tr xw_w4 hx_w6
      replace hb2 := hb2.ext hx_w6
      replace hb3 := hb3.ext hx_w6
      have ha := ha.add ((hv 10 (by decide)).trans (show vs_ 10 = .bool (decide (x ≠ y)) from hvs 10 (by decide)))
      refine st_go ha ?_
      clear ha hv hvs
      refine st_nil (nrm_k ?_)
      refine sc_ifd rfl (fun c38 => ?_) (fun c38 => ?_)
      ·
        refine sc_seq ?_
        refine sc_reg ?_
        refine Go.XK.s (v := .bool false) (e_assign rfl) ?_
        refine sl_nil (nrm_k ?_)
        refine sc_retf rfl (ret1 Try.results33 (rvt rfl) ?_)
        exact ⟨congrArg Value.bool (by rw [decide_eq_false (same_no hx hy c38)]; simp), xw_w6⟩
      ·
        refine sc_skip (nrm_k ?_)
        refine sc_reg ?_
        refine Go.XK.s (v := .int .i64 (i : Int)) (e_move rfl) ?_
        refine Go.XK.s (v := .int .i64 ((i : Int) + 1)) (e_add rfl rfl (by omega)) ?_
        refine Go.XK.s (v := .int .i64 ((i : Int) + 1)) (e_assign rfl) ?_
        refine sl_nil ?_
        exact nrm_loopq rfl _ _ (by omega) ⟨i + 1, rfl, rfl, xw_w6, hb2, hb3, ⟨by omega, same_take hx (by rw [hy, Classical.not_not.1 c38]) hs⟩⟩ (.cons rfl (.cons rfl (.cons rfl (.nil))))
    ·
      refine sc_exit rfl (nrm_k ?_)
      refine sc_seq ?_
      refine sc_reg ?_
      refine Go.XK.s (v := .bool true) (e_assign rfl) ?_
      refine sl_nil (nrm_k ?_)
      refine sc_retf rfl (ret1 Try.results33 (rvt rfl) ?_)
      exact ⟨congrArg Value.bool (by rw [decide_eq_true hab, decide_eq_true (same_end hs hl (by omega))]; rfl), xw_w4⟩

/-- masterdisc/masterdisclaw52.PacketwriterSessions$1 (function 35) -/
theorem cl_c (x : Wr) (w : World) : CallR Try.prog 35 [.agg (encW x).toArray] w (fun v w' => v = .bool x.cl ∧ Ext w w') := by
  refine callR_of (n := 5) [(0, .agg (encW x).toArray)] Try.func35 rfl rfl (Nat.le_of_ble_eq_true rfl) rfl ?_
  refine sc_seq ?_
  refine sc_reg ?_
  refine s_box (cs := [.int .i64 x.p, .slice x.A x.bl.length x.c, .bool x.sy, .bool x.cl]) rfl rfl ?_
  intro b1 w1 hb1 he1 hs1 hx1
  have ge_b1 : w.heap.size ≤ b1 := by have h_ := (Below.size (Ext.rfl' w)); omega
  have xw_w1 : Ext w w1 := Ext.tr (Ext.rfl' w) hx1
  refine Go.XK.s (v := .bool false) (e_assign rfl) ?_
  refine sl_nil (nrm_k ?_)
  refine sc_seq ?_
  refine sc_reg ?_
  refine Go.XK.s (v := .pointer (some ⟨b1, 3, none⟩)) (e_fieldB (sz := 1) Try.underlying49 rfl Try.sizeOf4 (by decide) rfl rfl) ?_
  refine Go.XK.s (v := .bool x.cl) (e_load rfl (load1 Try.isAgg4 (hb1.cell (j := 3) rfl))) ?_
  refine Go.XK.s (v := .bool x.cl) (e_assign rfl) ?_
  refine sl_nil (nrm_k ?_)
  refine sc_retf rfl (ret1 Try.results35 (rvt rfl) ?_)
  exact ⟨rfl, xw_w1⟩

/-- slices.IndexFunc[[]masterdisc/api.Write,masterdisc/api.Write] (function 68) -/
theorem indexW_c (F : FuncId) (entG : Ent Try.prog F) (hF : ∀ (x : Wr) (w : World), CallR Try.prog F [.agg (encW x).toArray] w (fun v w' => v = .bool x.cl ∧ Ext w w')) (ws : List Wr) (Aw : Option Addr) (cw : Nat) (w : World) (hw : SlR w Aw cw 4 encW ws) (hin : Inn w ws) : CallR Try.prog 68 [.slice Aw ws.length cw, .func (.func F) #[] #[]] w (fun v w' => v = .int .i64 (idxC ws) ∧ Ext w w') := by
  have hmx0 := hw.lenle
  simp only [maxLen] at hmx0
  refine callR_of (n := 19) [(0, .slice Aw ws.length cw), (1, .func (.func F) #[] #[])] Try.func68 rfl rfl (Nat.le_of_ble_eq_true rfl) rfl ?_
  refine sc_seq ?_
  refine sc_reg ?_
  refine Go.XK.s (v := .int .i64 0) (e_assign rfl) ?_
  refine sl_nil (nrm_k ?_)
  refine sc_seq ?_
  refine sc_seq ?_
  refine sc_reg ?_
  refine Go.XK.s (v := .slice Aw ws.length cw) (e_move rfl) ?_
  refine Go.XK.s (v := .int .i64 (ws.length : Int)) (e_len Try.underlying24 rfl) ?_
  refine Go.XK.s (v := .int .i64 0) (e_move rfl) ?_
  refine sl_nil (nrm_k ?_)
  refine sc_block ?_
  refine sc_loop (fun m_ l_ w_ => ∃ (i : Nat), m_ = ws.length - i ∧ l_ = [(8, .int .i64 (i : Int)), (0, .slice Aw ws.length cw), (1, .func (.func F) #[] #[]), (7, .int .i64 (ws.length : Int))] ∧ Ext w w_ ∧ i ≤ ws.length ∧ (ws.take i).any (·.cl) = false) _ [(8, .int .i64 (0 : Int)), (0, .slice Aw ws.length cw), (1, .func (.func F) #[] #[]), (7, .int .i64 (ws.length : Int))] ⟨0, rfl, rfl, (Ext.rfl' w), ⟨by omega, rfl⟩⟩ (.cons rfl (.cons rfl (.cons rfl (.cons rfl (.nil))))) ?_
  rintro j2 _ w1 ⟨i, rfl, rfl, xw_w1, ⟨hi, hno⟩⟩
  refine sc_seq ?_
  refine sc_reg ?_
  refine Go.XK.s (v := .bool (decide ((i : Int) < (ws.length : Int)))) (e_lt rfl rfl) ?_
  refine sl_nil (nrm_k ?_)
  refine sc_seq ?_
  refine sc_ifd rfl (fun c9 => ?_) (fun c9 => ?_)
  ·
    obtain ⟨x, hx⟩ : ∃ x, ws[i]? = some x := ⟨_, List.getElem?_eq_getElem (by omega)⟩
    have hin_x := hin x (List.mem_of_getElem? hx)
    refine sc_skip (nrm_k ?_)
    refine sc_seq ?_
    refine sc_block ?_
    refine sc_seq ?_
    refine sc_reg ?_
    refine Go.XK.s (v := .int .i64 (i : Int)) (e_move rfl) ?_
    refine Go.XK.s (v := .int .i64 (i : Int)) (e_assign rfl) ?_
    refine sl_nil (nrm_k ?_)
    refine sc_seq ?_
    refine sc_reg ?_
    refine Go.XK.s (v := .func (.func F) #[] #[]) (e_move rfl) ?_
    refine Go.XK.s (v := .slice Aw ws.length cw) (e_move rfl) ?_
    refine Go.XK.s (v := .int .i64 (i : Int)) (e_move rfl) ?_
    refine Go.XK.s (v := .pointer (some (el Aw 4 (i : Int) 0))) (e_idxEl (e := x) Try.underlying24 Try.sizeOf49 rfl rfl (hw.1.ext xw_w1) hx (by omega) rfl) ?_
    refine Go.XK.s (v := .agg #[.int .i64 x.p, .slice x.A x.bl.length x.c, .bool x.sy, .bool x.cl]) (e_ldElA (xs := ws) (enc := encW) (e := x) rfl (hw.1.ext xw_w1) hx Try.isAgg49 Try.sizeOf49 rfl) ?_
    refine sl_call entG rfl rfl (hF x w1) (by decide) ?_
    rintro _ w3 ⟨rfl, hw3⟩
    have xw_w3 : Ext w w3 := Ext.tr xw_w1 hw3
    refine sl_nil (nrm_k ?_)
    refine sc_if rfl (fun c16 => ?_) (fun c16 => ?_)
    ·
      refine sc_seq ?_
      refine sc_reg ?_
      refine Go.XK.s (v := .int .i64 (i : Int)) (e_move rfl) ?_
      refine Go.XK.s (v := .int .i64 (i : Int)) (e_assign rfl) ?_
      refine sl_nil (nrm_k ?_)
      refine sc_retf rfl (ret1 Try.results68 (rvt rfl) ?_)
      exact ⟨congrArg (Value.int .i64) (idxC_at hx hno c16).symm, xw_w3⟩
    ·
      refine sc_skip (nrm_k ?_)
      refine sc_reg ?_
      refine Go.XK.s (v := .int .i64 ((i : Int) + 1)) (e_add rfl rfl (by omega)) ?_
      refine Go.XK.s (v := .int .i64 ((i : Int) + 1)) (e_move rfl) ?_
      refine sl_nil ?_
      exact nrm_loopq rfl _ _ (by omega) ⟨i + 1, rfl, rfl, xw_w3, ⟨by omega, anyC_take hx hno c16⟩⟩ (.cons rfl (.cons rfl (.cons rfl (.cons rfl (.nil)))))
  ·
    refine sc_exit rfl (nrm_k ?_)
    refine sc_seq ?_
    refine sc_reg ?_
    refine Go.XK.s (v := .int .i64 (-1)) (e_assign rfl) ?_
    refine sl_nil (nrm_k ?_)
    refine sc_retf rfl (ret1 Try.results68 (rvt rfl) ?_)
    exact ⟨congrArg (Value.int .i64) (idxC_no hno (by omega)).symm, xw_w1⟩

/-- slices.ContainsFunc[[]masterdisc/api.Write,masterdisc/api.Write] (function 34) -/
theorem containsW_c (ws : List Wr) (Aw : Option Addr) (cw : Nat) (w : World) (hw : SlR w Aw cw 4 encW ws) (hin : Inn w ws) : CallR Try.prog 34 [.slice Aw ws.length cw, .func (.func 35) #[] #[]] w (fun v w' => v = .bool (ws.any (·.cl)) ∧ Ext w w') := by
  refine callR_of (n := 9) [(0, .slice Aw ws.length cw), (1, .func (.func 35) #[] #[])] Try.func34 rfl rfl (Nat.le_of_ble_eq_true rfl) rfl ?_
  refine sc_seq ?_
  refine sc_reg ?_
  refine Go.XK.s (v := .bool false) (e_assign rfl) ?_
  refine sl_nil (nrm_k ?_)
  refine sc_seq ?_
  refine sc_reg ?_
  refine Go.XK.s (v := .slice Aw ws.length cw) (e_move rfl) ?_
  refine Go.XK.s (v := .func (.func 35) #[] #[]) (e_move rfl) ?_
  refine sl_call ent68 rfl rfl (indexW_c 35 ent35 cl_c _ _ _ w (hw.ext (Ext.rfl' w)) (hin.ext (Ext.rfl' w))) (by decide) ?_
  rintro _ w1 ⟨rfl, hw1⟩
  have xw_w1 : Ext w w1 := Ext.tr (Ext.rfl' w) hw1
  refine Go.XK.s (v := .bool (decide ((0 : Int) ≤ idxC ws))) (e_ge rfl rfl) ?_
  refine Go.XK.s (v := .bool (decide ((0 : Int) ≤ idxC ws))) (e_assign rfl) ?_
  refine sl_nil (nrm_k ?_)
  refine sc_retf rfl (ret1 Try.results34 (rvt rfl) ?_)
  exact ⟨congrArg Value.bool (idxC_nonneg ws), xw_w1⟩

end Go.Proofs.Ytfcjianiodiejaa
