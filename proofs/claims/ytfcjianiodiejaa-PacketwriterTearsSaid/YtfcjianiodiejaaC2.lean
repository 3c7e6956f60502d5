/- Chapter 52: C2. Printed by my program wip/tools/wk.py. -/
import Derived.Test.YtfcjianiodiejaaC1
set_option linter.unusedVariables false
set_option linter.unusedSimpArgs false
set_option maxRecDepth 4000
set_option maxHeartbeats 4000000
namespace Go.Proofs.Ytfcjianiodiejaa
open Go.XK Go.RowKit
theorem validR (im : Img) (ws : List Wr) : valid im ws = (!(!vImage im || decide ((1024 : Int) < (ws.length : Int))) && ws.all okW) := by
  rw [valid, vImage]
  have h : decide ((im.length : Int) ≤ 4096) = !decide ((4096 : Int) < (im.length : Int)) := by
    rw [← decide_not]; congr 1; simp
  rw [h]
  cases decide ((4096 : Int) < (im.length : Int)) <;> cases decide ((1024 : Int) < (ws.length : Int)) <;> cases im.all okE <;> simp
theorem okW_bad {x : Wr} (h : badW x = true) : okW x = false := by rw [okW, h]; rfl
theorem okW_any {x : Wr} (h : x.bl.any badB = true) : okW x = false := by rw [okW, h]; simp
theorem okW_ok {x : Wr} (h : badW x = false) (h2 : x.bl.any badB = false) : okW x = true := by rw [okW, h, h2]; rfl
def bigW (x : Wr) : Bool := !decide ((40 : Int) < (x.bl.length : Int))
def few (im : Img) (ws : List Wr) : Bool := !(decide ((600 : Int) < (im.length : Int)) || decide ((30 : Int) < (ws.length : Int))) && ws.all bigW
theorem few_spec {im : Img} {ws : List Wr} (h : few im ws = true) : im.length ≤ 600 ∧ ws.length ≤ 30 ∧ (stL ws).length ≤ 1230 := by
  simp only [few, Bool.and_eq_true, Bool.not_eq_true', Bool.or_eq_false_iff, decide_eq_false_iff_not] at h
  refine ⟨by omega, by omega, ?_⟩
  have key : ∀ ws : List Wr, ws.all bigW = true → (stL ws).length ≤ ws.length * 41 := by
    intro ws
    induction ws with
    | nil => intro _; simp [stL]
    | cons x ws ih =>
      intro h
      simp only [List.all_cons, Bool.and_eq_true, bigW, Bool.not_eq_true', decide_eq_false_iff_not] at h
      have h1 := ih h.2
      have h3 : (stW x).length ≤ 41 := by rw [stW, List.length_append, stB_length]; split <;> simp <;> omega
      simp only [stL, List.flatMap_cons, List.length_append, List.length_cons] at h1 ⊢
      omega
  have := key ws h.2
  omega
theorem stW_length (x : Wr) : (stW x).length = x.bl.length + (if x.cl then 1 else 0) := by
  rw [stW, List.length_append, stB_length]; split <;> simp
theorem stL_take_length {ws : List Wr} {i : Nat} {x : Wr} (h : ws[i]? = some x) : (stL (ws.take (i + 1))).length = (stL (ws.take i)).length + (x.bl.length + (if x.cl then 1 else 0)) := by
  rw [stL_take h, List.length_append, stW_length]
abbrev StpIn (L : List Stp) := { s : Stp // s ∈ L }
def raw {L : List Stp} (pre : List (StpIn L)) : List Stp := pre.map (·.1)
theorem raw_snoc {L : List Stp} (pre : List (StpIn L)) (s : StpIn L) : raw (pre ++ [s]) = raw pre ++ [s.1] := by simp [raw]
theorem raw_length {L : List Stp} (pre : List (StpIn L)) : (raw pre).length = pre.length := by simp [raw]

/-- masterdisc/packetwriter.Valid (function 17) -/
theorem valid_c (im : Img) (A : Option Addr) (c : Nat) (ws : List Wr) (Aw : Option Addr) (cw : Nat) (w : World) (hl : SlR w A c 1 encS im) (hw : SlR w Aw cw 4 encW ws) (hin : Inn w ws) : CallR Try.prog 17 [.slice A im.length c, .slice Aw ws.length cw] w (fun v w' => v = .bool (valid im ws) ∧ Ext w w') := by
  have hmx0 := hl.lenle
  simp only [maxLen] at hmx0
  have hmx1 := hw.lenle
  simp only [maxLen] at hmx1
  refine callR_of (n := 72) [(0, .slice A im.length c), (1, .slice Aw ws.length cw)] Try.func17 rfl rfl (Nat.le_of_ble_eq_true rfl) rfl ?_
  refine sc_seq ?_
  refine sc_reg ?_
  refine Go.XK.s (v := .bool false) (e_assign rfl) ?_
  refine sl_nil (nrm_k ?_)
  refine sc_seq ?_
  refine sc_seq ?_
  refine sc_reg ?_
  refine Go.XK.s (v := .slice A im.length c) (e_move rfl) ?_
  refine Go.XK.s (v := .int .i64 (im.length : Int)) (e_len Try.underlying23 rfl) ?_
  refine Go.XK.s (v := .bool (decide ((4096 : Int) < (im.length : Int)))) (e_gt rfl rfl) ?_
  refine Go.XK.s (v := .bool (decide ((4096 : Int) < (im.length : Int)))) (e_move rfl) ?_
  refine sl_merge 4 16 (.bool ((decide ((4096 : Int) < (im.length : Int))) || (decide ((1024 : Int) < (ws.length : Int))))) ?_ ?_
  · refine sl_case (t := 12) rfl (fun g1_3 => ?_) (fun g1_3 => ?_)
    ·
      refine sl_gskip rfl rfl g1_3 (by decide) ?_
      refine sl_gskip rfl rfl g1_3 (by decide) ?_
      refine sl_gskip rfl rfl g1_3 (by decide) ?_
      refine Go.XK.s (v := .bool true) (e_pickT rfl g1_3 rfl) ?_
      exact sl_nil (fun a ha => ⟨rfl, ha.sub (.cons (by rw [g1_3]; rfl) (sub_self_cons (sub_self_cons (sub_self_cons (sub_self_cons (Sub.refl _) rfl) rfl) rfl) rfl))⟩)
    ·
      refine sl_gev (v := .slice Aw ws.length cw) rfl rfl g1_3 (e_move rfl) rfl (by decide) ?_
      refine sl_gev (v := .int .i64 (ws.length : Int)) rfl rfl g1_3 (e_len Try.underlying24 rfl) rfl (by decide) ?_
      refine sl_gev (v := .bool (decide ((1024 : Int) < (ws.length : Int)))) rfl rfl g1_3 (e_gt rfl rfl) rfl (by decide) ?_
      refine Go.XK.s (v := .bool (decide ((1024 : Int) < (ws.length : Int)))) (e_pickF rfl g1_3 rfl) ?_
      exact sl_nil (fun a ha => ⟨rfl, ha.sub (.cons (by rw [g1_3]; rfl) (sub_self_cons (sub_self_cons (sub_self_cons (sub_self_cons (Sub.refl _) rfl) rfl) rfl) rfl))⟩)
  refine sl_nil (nrm_k ?_)
  refine sc_if rfl (fun c16 => ?_) (fun c16 => ?_)
  ·
    refine sc_seq ?_
    refine sc_reg ?_
    refine Go.XK.s (v := .bool false) (e_assign rfl) ?_
    refine sl_nil (nrm_k ?_)
    refine sc_retf rfl (ret1 Try.results17 (rvt rfl) ?_)
    exact ⟨congrArg Value.bool (by rw [valid, c16]; rfl), (Ext.rfl' w)⟩
  ·
    refine sc_skip (nrm_k ?_)
    refine sc_seq ?_
    refine sc_seq ?_
    refine sc_reg ?_
    refine Go.XK.s (v := .slice A im.length c) (e_move rfl) ?_
    refine Go.XK.s (v := .int .i64 (im.length : Int)) (e_len Try.underlying23 rfl) ?_
    refine Go.XK.s (v := .int .i64 0) (e_move rfl) ?_
    refine sl_nil (nrm_k ?_)
    refine sc_block ?_
    refine sc_loop (fun m_ l_ w_ => ∃ (i : Nat), m_ = im.length - i ∧ l_ = [(19, .int .i64 (i : Int)), (0, .slice A im.length c), (1, .slice Aw ws.length cw), (17, .slice A im.length c), (18, .int .i64 (im.length : Int))] ∧ Ext w w_ ∧ i ≤ im.length ∧ (im.take i).all okE = true) _ [(19, .int .i64 (0 : Int)), (0, .slice A im.length c), (1, .slice Aw ws.length cw), (17, .slice A im.length c), (18, .int .i64 (im.length : Int))] ⟨0, rfl, rfl, (Ext.rfl' w), ⟨by omega, rfl⟩⟩ (.cons rfl (.cons rfl (.cons rfl (.cons rfl (.cons rfl (.nil)))))) ?_
    rintro j2 _ w1 ⟨i, rfl, rfl, xw_w1, ⟨hi, hall⟩⟩
    refine sc_seq ?_
    refine sc_reg ?_
    refine Go.XK.s (v := .bool (decide ((i : Int) < (im.length : Int)))) (e_lt rfl rfl) ?_
    refine sl_nil (nrm_k ?_)
    refine sc_seq ?_
    refine sc_ifd rfl (fun c20 => ?_) (fun c20 => ?_)
    ·
      obtain ⟨x, hx⟩ : ∃ x, im[i]? = some x := ⟨_, List.getElem?_eq_getElem (by omega)⟩
      refine sc_skip (nrm_k ?_)
      refine sc_seq ?_
      refine sc_block ?_
      refine sc_seq ?_
      refine sc_reg ?_
      refine Go.XK.s (v := .pointer (some (el A 1 (i : Int) 0))) (e_idxEl (e := x) Try.underlying23 Try.sizeOf9 rfl rfl (hl.1.ext xw_w1) hx (by omega) rfl) ?_
      refine Go.XK.s (v := .string (B x)) (e_ldEl (xs := im) (enc := encS) (e := x) rfl (hl.1.ext xw_w1) hx Try.isAgg9 rfl) ?_
      refine Go.XK.s (v := .string (B x)) (e_assign rfl) ?_
      refine sl_nil (nrm_k ?_)
      refine sc_seq ?_
      refine sc_reg ?_
      refine Go.XK.s (v := .string (B x)) (e_move rfl) ?_
      refine Go.XK.s (v := .bool (decide (x ≠ []))) (e_sne rfl rfl) ?_
      refine Go.XK.s (v := .bool (decide (x ≠ []))) (e_move rfl) ?_
      refine sl_merge 3 28 (.bool ((decide (x ≠ [])) && (decide (x ≠ [33])))) ?_ ?_
      · refine sl_case (t := 25) rfl (fun g6_2 => ?_) (fun g6_2 => ?_)
        ·
          refine sl_gev (v := .string (B x)) rfl rfl g6_2 (e_move rfl) rfl (by decide) ?_
          refine sl_gev (v := .bool (decide (x ≠ [33]))) rfl rfl g6_2 (e_sne rfl rfl) rfl (by decide) ?_
          refine Go.XK.s (v := .bool (decide (x ≠ [33]))) (e_pickT rfl g6_2 rfl) ?_
          exact sl_nil (fun a ha => ⟨rfl, ha.sub (.cons (by rw [g6_2]; rfl) (sub_self_cons (sub_self_cons (sub_self_cons (Sub.refl _) rfl) rfl) rfl))⟩)
        ·
          refine sl_gskip rfl rfl g6_2 (by decide) ?_
          refine sl_gskip rfl rfl g6_2 (by decide) ?_
          refine Go.XK.s (v := .bool false) (e_pickF rfl g6_2 rfl) ?_
          exact sl_nil (fun a ha => ⟨rfl, ha.sub (.cons (by rw [g6_2]; rfl) (sub_self_cons (sub_self_cons (sub_self_cons (Sub.refl _) rfl) rfl) rfl))⟩)
      refine Go.XK.s (v := .bool ((decide (x ≠ [])) && (decide (x ≠ [33])))) (e_move rfl) ?_
      refine sl_merge 4 33 (.bool (((decide (x ≠ [])) && (decide (x ≠ [33]))) && (decide ((x.length : Int) ≠ 2048)))) ?_ ?_
      · refine sl_case (t := 29) rfl (fun g6_6 => ?_) (fun g6_6 => ?_)
        ·
          refine sl_gev (v := .string (B x)) rfl rfl g6_6 (e_move rfl) rfl (by decide) ?_
          refine sl_gev (v := .int .i64 (x.length : Int)) rfl rfl g6_6 (e_slen Try.underlying9 rfl) rfl (by decide) ?_
          refine sl_gev (v := .bool (decide ((x.length : Int) ≠ 2048))) rfl rfl g6_6 (e_ne rfl rfl) rfl (by decide) ?_
          refine Go.XK.s (v := .bool (decide ((x.length : Int) ≠ 2048))) (e_pickT rfl g6_6 rfl) ?_
          exact sl_nil (fun a ha => ⟨rfl, ha.sub (.cons (by rw [g6_6]; rfl) (sub_self_cons (sub_self_cons (sub_self_cons (sub_self_cons (Sub.refl _) rfl) rfl) rfl) rfl))⟩)
        ·
          refine sl_gskip rfl rfl g6_6 (by decide) ?_
          refine sl_gskip rfl rfl g6_6 (by decide) ?_
          refine sl_gskip rfl rfl g6_6 (by decide) ?_
          refine Go.XK.s (v := .bool false) (e_pickF rfl g6_6 rfl) ?_
          exact sl_nil (fun a ha => ⟨rfl, ha.sub (.cons (by rw [g6_6]; rfl) (sub_self_cons (sub_self_cons (sub_self_cons (sub_self_cons (Sub.refl _) rfl) rfl) rfl) rfl))⟩)
      refine sl_nil (nrm_k ?_)
      refine sc_if rfl (fun c33 => ?_) (fun c33 => ?_)
      ·
        refine sc_seq ?_
        refine sc_reg ?_
        refine Go.XK.s (v := .bool false) (e_assign rfl) ?_
        refine sl_nil (nrm_k ?_)
        refine sc_retf rfl (ret1 Try.results17 (rvt rfl) ?_)
        exact ⟨congrArg Value.bool (by rw [valid, all_no (p := okE) hx (okE_no c33), c16]; rfl), xw_w1⟩
      ·
        refine sc_skip (nrm_k ?_)
        refine sc_reg ?_
        refine Go.XK.s (v := .int .i64 ((i : Int) + 1)) (e_add rfl rfl (by omega)) ?_
        refine Go.XK.s (v := .int .i64 ((i : Int) + 1)) (e_move rfl) ?_
        refine sl_nil ?_
        exact nrm_loopq rfl _ _ (by omega) ⟨i + 1, rfl, rfl, xw_w1, ⟨by omega, all_take hx hall (okE_yes c33)⟩⟩ (.cons rfl (.cons rfl (.cons rfl (.cons rfl (.cons rfl (.nil))))))
    ·
      have halli : im.all okE = true := all_end hall (by omega)
      refine sc_exit rfl (nrm_k ?_)
      refine sc_seq ?_
      refine sc_seq ?_
      refine sc_reg ?_
      refine Go.XK.s (v := .slice Aw ws.length cw) (e_move rfl) ?_
      refine Go.XK.s (v := .int .i64 (ws.length : Int)) (e_len Try.underlying24 rfl) ?_
      refine Go.XK.s (v := .int .i64 0) (e_move rfl) ?_
      refine sl_nil (nrm_k ?_)
      refine sc_block ?_
      refine sc_loop (fun m_ l_ w_ => ∃ (i : Nat), m_ = ws.length - i ∧ l_ = [(37, .int .i64 (i : Int)), (35, .slice Aw ws.length cw), (36, .int .i64 (ws.length : Int))] ∧ Ext w w_ ∧ i ≤ ws.length ∧ (ws.take i).all okW = true) _ [(37, .int .i64 (0 : Int)), (35, .slice Aw ws.length cw), (36, .int .i64 (ws.length : Int))] ⟨0, rfl, rfl, xw_w1, ⟨by omega, rfl⟩⟩ (.cons rfl (.cons rfl (.cons rfl (.nil)))) ?_
      rintro j4 _ w3 ⟨i, rfl, rfl, xw_w3, ⟨hi, hallw⟩⟩
      refine sc_seq ?_
      refine sc_reg ?_
      refine Go.XK.s (v := .bool (decide ((i : Int) < (ws.length : Int)))) (e_lt rfl rfl) ?_
      refine sl_nil (nrm_k ?_)
      refine sc_seq ?_
      refine sc_ifd rfl (fun c38 => ?_) (fun c38 => ?_)
      ·
        obtain ⟨x, hx⟩ : ∃ x, ws[i]? = some x := ⟨_, List.getElem?_eq_getElem (by omega)⟩
        have hin_x := hin x (List.mem_of_getElem? hx)
        refine sc_skip (nrm_k ?_)
        refine sc_seq ?_
        refine sc_block ?_
        refine sc_seq ?_
        refine sc_reg ?_
        refine Go.XK.s (v := .pointer (some (el Aw 4 (i : Int) 0))) (e_idxEl (e := x) Try.underlying24 Try.sizeOf49 rfl rfl (hw.1.ext xw_w3) hx (by omega) rfl) ?_
        refine Go.XK.s (v := .agg #[.int .i64 x.p, .slice x.A x.bl.length x.c, .bool x.sy, .bool x.cl]) (e_ldElA (xs := ws) (enc := encW) (e := x) rfl (hw.1.ext xw_w3) hx Try.isAgg49 Try.sizeOf49 rfl) ?_
        refine s_alloc (cs := [.int .i64 0, .slice none 0 0, .bool false, .bool false]) Try.zeroValue49 rfl ?_
        intro b8 w5 hb8 he8 hs8 hx8
        have ge_b8 : w.heap.size ≤ b8 := by have h_ := (Below.size xw_w3); omega
        have xw_w5 : Ext w w5 := Ext.tr xw_w3 hx8
        refine su_blkV [.int .i64 x.p, .slice x.A x.bl.length x.c, .bool x.sy, .bool x.cl] [.int .i64 x.p, .slice x.A x.bl.length x.c, .bool x.sy, .bool x.cl] rfl rfl hb8 rfl Try.sizeOf49 (Nat.le_of_ble_eq_true rfl) rfl rfl ?_
        intro w6 hn_ hm_w6 hs_w6
        have ho_ := hb8
        replace hb8 := hn_
        clear hn_
        have xw_w6 : Ext w w6 := below_mut xw_w5 (Below.size xw_w5) hm_w6 ge_b8
        refine sl_nil (nrm_k ?_)
        refine sc_seq ?_
        refine sc_seq ?_
        refine sc_reg ?_
        refine Go.XK.s (v := .pointer (some ⟨b8, 0, none⟩)) (e_fieldB (sz := 1) Try.underlying49 rfl Try.sizeOf3 (by decide) rfl rfl) ?_
        refine Go.XK.s (v := .int .i64 x.p) (e_load rfl (load1 Try.isAgg3 (hb8.cell (j := 0) rfl))) ?_
        refine Go.XK.s (v := .bool (decide (x.p < 0))) (e_lt rfl rfl) ?_
        refine Go.XK.s (v := .bool (decide (x.p < 0))) (e_move rfl) ?_
        refine sl_merge 4 48 (.bool ((decide (x.p < 0)) || (decide ((4096 : Int) < x.p)))) ?_ ?_
        · refine sl_case (t := 44) rfl (fun g12_3 => ?_) (fun g12_3 => ?_)
          ·
            refine sl_gskip rfl rfl g12_3 (by decide) ?_
            refine sl_gskip rfl rfl g12_3 (by decide) ?_
            refine sl_gskip rfl rfl g12_3 (by decide) ?_
            refine Go.XK.s (v := .bool true) (e_pickT rfl g12_3 rfl) ?_
            exact sl_nil (fun a ha => ⟨rfl, ha.sub (.cons (by rw [g12_3]; rfl) (sub_self_cons (sub_self_cons (sub_self_cons (sub_self_cons (Sub.refl _) rfl) rfl) rfl) rfl))⟩)
          ·
            refine sl_gev (v := .pointer (some ⟨b8, 0, none⟩)) rfl rfl g12_3 (e_fieldB (sz := 1) Try.underlying49 rfl Try.sizeOf3 (by decide) rfl rfl) rfl (by decide) ?_
            refine sl_gev (v := .int .i64 x.p) rfl rfl g12_3 (e_load rfl (load1 Try.isAgg3 (hb8.cell (j := 0) rfl))) rfl (by decide) ?_
            refine sl_gev (v := .bool (decide ((4096 : Int) < x.p))) rfl rfl g12_3 (e_gt rfl rfl) rfl (by decide) ?_
            refine Go.XK.s (v := .bool (decide ((4096 : Int) < x.p))) (e_pickF rfl g12_3 rfl) ?_
            exact sl_nil (fun a ha => ⟨rfl, ha.sub (.cons (by rw [g12_3]; rfl) (sub_self_cons (sub_self_cons (sub_self_cons (sub_self_cons (Sub.refl _) rfl) rfl) rfl) rfl))⟩)
        refine Go.XK.s (v := .bool ((decide (x.p < 0)) || (decide ((4096 : Int) < x.p)))) (e_move rfl) ?_
        refine sl_merge 8 57 (.bool (((decide (x.p < 0)) || (decide ((4096 : Int) < x.p))) || (decide ((4096 : Int) - x.p < (x.bl.length : Int))))) ?_ ?_
        · refine sl_case (t := 49) rfl (fun g12_8 => ?_) (fun g12_8 => ?_)
          ·
            refine sl_gskip rfl rfl g12_8 (by decide) ?_
            refine sl_gskip rfl rfl g12_8 (by decide) ?_
            refine sl_gskip rfl rfl g12_8 (by decide) ?_
            refine sl_gskip rfl rfl g12_8 (by decide) ?_
            refine sl_gskip rfl rfl g12_8 (by decide) ?_
            refine sl_gskip rfl rfl g12_8 (by decide) ?_
            refine sl_gskip rfl rfl g12_8 (by decide) ?_
            refine Go.XK.s (v := .bool true) (e_pickT rfl g12_8 rfl) ?_
            exact sl_nil (fun a ha => ⟨rfl, ha.sub (.cons (by rw [g12_8]; rfl) (sub_self_cons (sub_self_cons (sub_self_cons (sub_self_cons (sub_self_cons (sub_self_cons (sub_self_cons (sub_self_cons (Sub.refl _) rfl) rfl) rfl) rfl) rfl) rfl) rfl) rfl))⟩)
          ·
            refine sl_gev (v := .pointer (some ⟨b8, 1, none⟩)) rfl rfl g12_8 (e_fieldB (sz := 1) Try.underlying49 rfl Try.sizeOf22 (by decide) rfl rfl) rfl (by decide) ?_
            refine sl_gev (v := .slice x.A x.bl.length x.c) rfl rfl g12_8 (e_load rfl (load1 Try.isAgg22 (hb8.cell (j := 1) rfl))) rfl (by decide) ?_
            refine sl_gev (v := .int .i64 (x.bl.length : Int)) rfl rfl g12_8 (e_len Try.underlying22 rfl) rfl (by decide) ?_
            refine sl_gev (v := .pointer (some ⟨b8, 0, none⟩)) rfl rfl g12_8 (e_fieldB (sz := 1) Try.underlying49 rfl Try.sizeOf3 (by decide) rfl rfl) rfl (by decide) ?_
            refine sl_gev (v := .int .i64 x.p) rfl rfl g12_8 (e_load rfl (load1 Try.isAgg3 (hb8.cell (j := 0) rfl))) rfl (by decide) ?_
            refine sl_gev (v := .int .i64 ((4096 : Int) - x.p)) rfl rfl g12_8 (e_sub rfl rfl (by simp only [Bool.or_eq_false_iff, decide_eq_false_iff_not] at g12_8; omega)) rfl (by decide) ?_
            refine sl_gev (v := .bool (decide ((4096 : Int) - x.p < (x.bl.length : Int)))) rfl rfl g12_8 (e_gt rfl rfl) rfl (by decide) ?_
            refine Go.XK.s (v := .bool (decide ((4096 : Int) - x.p < (x.bl.length : Int)))) (e_pickF rfl g12_8 rfl) ?_
            exact sl_nil (fun a ha => ⟨rfl, ha.sub (.cons (by rw [g12_8]; rfl) (sub_self_cons (sub_self_cons (sub_self_cons (sub_self_cons (sub_self_cons (sub_self_cons (sub_self_cons (sub_self_cons (Sub.refl _) rfl) rfl) rfl) rfl) rfl) rfl) rfl) rfl))⟩)
        refine Go.XK.s (v := .bool (((decide (x.p < 0)) || (decide ((4096 : Int) < x.p))) || (decide ((4096 : Int) - x.p < (x.bl.length : Int))))) (e_move rfl) ?_
        refine sl_merge 9 67 (.bool ((((decide (x.p < 0)) || (decide ((4096 : Int) < x.p))) || (decide ((4096 : Int) - x.p < (x.bl.length : Int)))) || (x.cl && (decide ((0 : Int) < (x.bl.length : Int)))))) ?_ ?_
        · refine sl_case (t := 58) rfl (fun g12_17 => ?_) (fun g12_17 => ?_)
          ·
            refine sl_gskip rfl rfl g12_17 (by decide) ?_
            refine sl_gskip rfl rfl g12_17 (by decide) ?_
            refine sl_gskip rfl rfl g12_17 (by decide) ?_
            refine sl_gskipU rfl rfl (by decide) ?_
            refine sl_gskipU rfl rfl (by decide) ?_
            refine sl_gskipU rfl rfl (by decide) ?_
            refine sl_gskipU rfl rfl (by decide) ?_
            refine sl_gskip rfl rfl g12_17 (by decide) ?_
            refine Go.XK.s (v := .bool true) (e_pickT rfl g12_17 rfl) ?_
            exact sl_nil (fun a ha => ⟨rfl, ha.sub (.cons (by rw [g12_17]; rfl) (sub_self_cons (sub_self_cons (sub_self_cons (sub_self_cons (sub_self_cons (sub_self_cons (sub_self_cons (sub_self_cons (sub_self_cons (Sub.refl _) rfl) rfl) rfl) rfl) rfl) rfl) rfl) rfl) rfl))⟩)
          ·
            refine sl_gev (v := .pointer (some ⟨b8, 3, none⟩)) rfl rfl g12_17 (e_fieldB (sz := 1) Try.underlying49 rfl Try.sizeOf4 (by decide) rfl rfl) rfl (by decide) ?_
            refine sl_gev (v := .bool x.cl) rfl rfl g12_17 (e_load rfl (load1 Try.isAgg4 (hb8.cell (j := 3) rfl))) rfl (by decide) ?_
            refine sl_gev (v := .bool x.cl) rfl rfl g12_17 (e_move rfl) rfl (by decide) ?_
            refine sl_merge 5 66 (.bool (x.cl && (decide ((0 : Int) < (x.bl.length : Int))))) ?_ ?_
            · refine sl_case (t := 61) rfl (fun g12_20 => ?_) (fun g12_20 => ?_)
              ·
                refine sl_gev (v := .pointer (some ⟨b8, 1, none⟩)) rfl rfl g12_20 (e_fieldB (sz := 1) Try.underlying49 rfl Try.sizeOf22 (by decide) rfl rfl) rfl (by decide) ?_
                refine sl_gev (v := .slice x.A x.bl.length x.c) rfl rfl g12_20 (e_load rfl (load1 Try.isAgg22 (hb8.cell (j := 1) rfl))) rfl (by decide) ?_
                refine sl_gev (v := .int .i64 (x.bl.length : Int)) rfl rfl g12_20 (e_len Try.underlying22 rfl) rfl (by decide) ?_
                refine sl_gev (v := .bool (decide ((0 : Int) < (x.bl.length : Int)))) rfl rfl g12_20 (e_gt rfl rfl) rfl (by decide) ?_
                refine sl_gev (v := .bool (decide ((0 : Int) < (x.bl.length : Int)))) rfl rfl g12_17 (e_pickT rfl g12_20 rfl) rfl (by decide) ?_
                exact sl_nil (fun a ha => ⟨rfl, ha.sub (.cons (by rw [g12_20]; rfl) (sub_self_cons (sub_self_cons (sub_self_cons (sub_self_cons (sub_self_cons (Sub.refl _) rfl) rfl) rfl) rfl) rfl))⟩)
              ·
                refine sl_gskip rfl rfl g12_20 (by decide) ?_
                refine sl_gskip rfl rfl g12_20 (by decide) ?_
                refine sl_gskip rfl rfl g12_20 (by decide) ?_
                refine sl_gskip rfl rfl g12_20 (by decide) ?_
                refine sl_gev (v := .bool false) rfl rfl g12_17 (e_pickF rfl g12_20 rfl) rfl (by decide) ?_
                exact sl_nil (fun a ha => ⟨rfl, ha.sub (.cons (by rw [g12_20]; rfl) (sub_self_cons (sub_self_cons (sub_self_cons (sub_self_cons (sub_self_cons (Sub.refl _) rfl) rfl) rfl) rfl) rfl))⟩)
            refine Go.XK.s (v := .bool (x.cl && (decide ((0 : Int) < (x.bl.length : Int))))) (e_pickF rfl g12_17 rfl) ?_
            exact sl_nil (fun a ha => ⟨rfl, ha.sub (.cons (by rw [g12_17]; rfl) (sub_self_cons (sub_self_cons (sub_self_cons (sub_self_cons (sub_self_cons (Sub.refl _) rfl) rfl) rfl) rfl) rfl))⟩)
        refine sl_nil (nrm_k ?_)
        refine sc_if rfl (fun c67 => ?_) (fun c67 => ?_)
        ·
          refine sc_seq ?_
          refine sc_reg ?_
          refine Go.XK.s (v := .bool false) (e_assign rfl) ?_
          refine sl_nil (nrm_k ?_)
          refine sc_retf rfl (ret1 Try.results17 (rvt rfl) ?_)
          exact ⟨congrArg Value.bool (by rw [valid, all_no (p := okW) hx (okW_bad c67), c16, halli]; rfl), xw_w6⟩
        ·
          refine sc_skip (nrm_k ?_)
          refine sc_seq ?_
          refine sc_reg ?_
          refine Go.XK.s (v := .pointer (some ⟨b8, 1, none⟩)) (e_fieldB (sz := 1) Try.underlying49 rfl Try.sizeOf22 (by decide) rfl rfl) ?_
          refine Go.XK.s (v := .slice x.A x.bl.length x.c) (e_load rfl (load1 Try.isAgg22 (hb8.cell (j := 1) rfl))) ?_
          refine sl_call ent60 rfl rfl (contains_c 61 ent61 bad61_c _ _ _ w6 (hin_x.ext xw_w6)) (by decide) ?_
          rintro _ w7 ⟨rfl, hw7⟩
          have xw_w7 : Ext w w7 := Ext.tr xw_w6 hw7
          replace hb8 := hb8.ext hw7
          refine sl_nil (nrm_k ?_)
          refine sc_if rfl (fun c70 => ?_) (fun c70 => ?_)
          ·
            refine sc_seq ?_
            refine sc_reg ?_
            refine Go.XK.s (v := .bool false) (e_assign rfl) ?_
            refine sl_nil (nrm_k ?_)
            refine sc_retf rfl (ret1 Try.results17 (rvt rfl) ?_)
            exact ⟨congrArg Value.bool (by rw [valid, all_no (p := okW) hx (okW_any c70), c16, halli]; rfl), xw_w7⟩
          ·
            refine sc_skip (nrm_k ?_)
            refine sc_reg ?_
            refine Go.XK.s (v := .int .i64 ((i : Int) + 1)) (e_add rfl rfl (by omega)) ?_
            refine Go.XK.s (v := .int .i64 ((i : Int) + 1)) (e_move rfl) ?_
            refine sl_nil ?_
            exact nrm_loopq rfl _ _ (by omega) ⟨i + 1, rfl, rfl, xw_w7, ⟨by omega, all_take (p := okW) hx hallw (okW_ok c67 c70)⟩⟩ (.cons rfl (.cons rfl (.cons rfl (.nil))))
      ·
        refine sc_exit rfl (nrm_k ?_)
        refine sc_seq ?_
        refine sc_reg ?_
        refine Go.XK.s (v := .bool true) (e_assign rfl) ?_
        refine sl_nil (nrm_k ?_)
        refine sc_retf rfl (ret1 Try.results17 (rvt rfl) ?_)
        exact ⟨congrArg Value.bool (by rw [valid, all_end (p := okW) hallw (by omega), c16, halli]; rfl), xw_w3⟩

/-- masterdisc/masterdiscref52.Valid (function 18) -/
theorem rvalid_c (im : Img) (A : Option Addr) (c : Nat) (ws : List Wr) (Aw : Option Addr) (cw : Nat) (w : World) (hl : SlR w A c 1 encS im) (hw : SlR w Aw cw 4 encW ws) (hin : Inn w ws) : CallR Try.prog 18 [.slice A im.length c, .slice Aw ws.length cw] w (fun v w' => v = .bool (valid im ws) ∧ Ext w w') := by
  have hmx0 := hl.lenle
  simp only [maxLen] at hmx0
  have hmx1 := hw.lenle
  simp only [maxLen] at hmx1
  refine callR_of (n := 67) [(0, .slice A im.length c), (1, .slice Aw ws.length cw)] Try.func18 rfl rfl (Nat.le_of_ble_eq_true rfl) rfl ?_
  refine sc_seq ?_
  refine sc_reg ?_
  refine Go.XK.s (v := .bool false) (e_assign rfl) ?_
  refine sl_nil (nrm_k ?_)
  refine sc_seq ?_
  refine sc_seq ?_
  refine sc_reg ?_
  refine Go.XK.s (v := .slice A im.length c) (e_move rfl) ?_
  refine sl_call ent62 rfl rfl (vimage_c _ _ _ w (hl.ext (Ext.rfl' w))) (by decide) ?_
  rintro _ w1 ⟨rfl, hw1⟩
  have xw_w1 : Ext w w1 := Ext.tr (Ext.rfl' w) hw1
  refine Go.XK.s (v := .bool (!(vImage im))) (e_not rfl) ?_
  refine Go.XK.s (v := .bool (!(vImage im))) (e_move rfl) ?_
  refine sl_merge 4 15 (.bool ((!(vImage im)) || (decide ((1024 : Int) < (ws.length : Int))))) ?_ ?_
  · refine sl_case (t := 11) rfl (fun g1_3 => ?_) (fun g1_3 => ?_)
    ·
      refine sl_gskip rfl rfl g1_3 (by decide) ?_
      refine sl_gskip rfl rfl g1_3 (by decide) ?_
      refine sl_gskip rfl rfl g1_3 (by decide) ?_
      refine Go.XK.s (v := .bool true) (e_pickT rfl g1_3 rfl) ?_
      exact sl_nil (fun a ha => ⟨rfl, ha.sub (.cons (by rw [g1_3]; rfl) (sub_self_cons (sub_self_cons (sub_self_cons (sub_self_cons (Sub.refl _) rfl) rfl) rfl) rfl))⟩)
    ·
      refine sl_gev (v := .slice Aw ws.length cw) rfl rfl g1_3 (e_move rfl) rfl (by decide) ?_
      refine sl_gev (v := .int .i64 (ws.length : Int)) rfl rfl g1_3 (e_len Try.underlying24 rfl) rfl (by decide) ?_
      refine sl_gev (v := .bool (decide ((1024 : Int) < (ws.length : Int)))) rfl rfl g1_3 (e_gt rfl rfl) rfl (by decide) ?_
      refine Go.XK.s (v := .bool (decide ((1024 : Int) < (ws.length : Int)))) (e_pickF rfl g1_3 rfl) ?_
      exact sl_nil (fun a ha => ⟨rfl, ha.sub (.cons (by rw [g1_3]; rfl) (sub_self_cons (sub_self_cons (sub_self_cons (sub_self_cons (Sub.refl _) rfl) rfl) rfl) rfl))⟩)
  refine sl_nil (nrm_k ?_)
  refine sc_if rfl (fun c15 => ?_) (fun c15 => ?_)
  ·
    refine sc_seq ?_
    refine sc_reg ?_
    refine Go.XK.s (v := .bool false) (e_assign rfl) ?_
    refine sl_nil (nrm_k ?_)
    refine sc_retf rfl (ret1 Try.results18 (rvt rfl) ?_)
    exact ⟨congrArg Value.bool (by rw [validR, c15]; rfl), xw_w1⟩
  ·
    refine sc_skip (nrm_k ?_)
    refine sc_seq ?_
    refine sc_seq ?_
    refine sc_reg ?_
    refine Go.XK.s (v := .int .i64 0) (e_assign rfl) ?_
    refine sl_nil (nrm_k ?_)
    refine sc_block ?_
    refine sc_loop (fun m_ l_ w_ => ∃ (i : Nat), m_ = ws.length - i ∧ l_ = [(5, .int .i64 (i : Int)), (0, .slice A im.length c), (1, .slice Aw ws.length cw)] ∧ Ext w w_ ∧ i ≤ ws.length ∧ (ws.take i).all okW = true) _ [(5, .int .i64 (0 : Int)), (0, .slice A im.length c), (1, .slice Aw ws.length cw)] ⟨0, rfl, rfl, xw_w1, ⟨by omega, rfl⟩⟩ (.cons rfl (.cons rfl (.cons rfl (.nil)))) ?_
    rintro j3 _ w2 ⟨i, rfl, rfl, xw_w2, ⟨hi, hallw⟩⟩
    refine sc_seq ?_
    refine sc_seq ?_
    refine sc_reg ?_
    refine Go.XK.s (v := .int .i64 (i : Int)) (e_move rfl) ?_
    refine Go.XK.s (v := .slice Aw ws.length cw) (e_move rfl) ?_
    refine Go.XK.s (v := .int .i64 (ws.length : Int)) (e_len Try.underlying24 rfl) ?_
    refine Go.XK.s (v := .bool (decide ((i : Int) < (ws.length : Int)))) (e_lt rfl rfl) ?_
    refine sl_nil (nrm_k ?_)
    refine sc_ifd rfl (fun c19 => ?_) (fun c19 => ?_)
    ·
      obtain ⟨x, hx⟩ : ∃ x, ws[i]? = some x := ⟨_, List.getElem?_eq_getElem (by omega)⟩
      have hin_x := hin x (List.mem_of_getElem? hx)
      have hmx2 := hin_x.lenle
      simp only [maxLen] at hmx2
      refine sc_skip (nrm_k ?_)
      refine sc_seq ?_
      refine sc_block ?_
      refine sc_seq ?_
      refine sc_reg ?_
      refine Go.XK.s (v := .slice Aw ws.length cw) (e_move rfl) ?_
      refine Go.XK.s (v := .int .i64 (i : Int)) (e_move rfl) ?_
      refine Go.XK.s (v := .pointer (some (el Aw 4 (i : Int) 0))) (e_idxEl (e := x) Try.underlying24 Try.sizeOf49 rfl rfl (hw.1.ext xw_w2) hx (by omega) rfl) ?_
      refine Go.XK.s (v := .agg #[.int .i64 x.p, .slice x.A x.bl.length x.c, .bool x.sy, .bool x.cl]) (e_ldElA (xs := ws) (enc := encW) (e := x) rfl (hw.1.ext xw_w2) hx Try.isAgg49 Try.sizeOf49 rfl) ?_
      refine s_alloc (cs := [.int .i64 0, .slice none 0 0, .bool false, .bool false]) Try.zeroValue49 rfl ?_
      intro b6 w4 hb6 he6 hs6 hx6
      have ge_b6 : w.heap.size ≤ b6 := by have h_ := (Below.size xw_w2); omega
      have xw_w4 : Ext w w4 := Ext.tr xw_w2 hx6
      refine su_blkV [.int .i64 x.p, .slice x.A x.bl.length x.c, .bool x.sy, .bool x.cl] [.int .i64 x.p, .slice x.A x.bl.length x.c, .bool x.sy, .bool x.cl] rfl rfl hb6 rfl Try.sizeOf49 (Nat.le_of_ble_eq_true rfl) rfl rfl ?_
      intro w5 hn_ hm_w5 hs_w5
      have ho_ := hb6
      replace hb6 := hn_
      clear hn_
      have xw_w5 : Ext w w5 := below_mut xw_w4 (Below.size xw_w4) hm_w5 ge_b6
      refine sl_nil (nrm_k ?_)
      refine sc_seq ?_
      refine sc_seq ?_
      refine sc_reg ?_
      refine Go.XK.s (v := .pointer (some ⟨b6, 0, none⟩)) (e_fieldB (sz := 1) Try.underlying49 rfl Try.sizeOf3 (by decide) rfl rfl) ?_
      refine Go.XK.s (v := .int .i64 x.p) (e_load rfl (load1 Try.isAgg3 (hb6.cell (j := 0) rfl))) ?_
      refine Go.XK.s (v := .bool (decide (x.p < 0))) (e_lt rfl rfl) ?_
      refine Go.XK.s (v := .bool (decide (x.p < 0))) (e_move rfl) ?_
      refine sl_merge 4 33 (.bool ((decide (x.p < 0)) || (decide ((4096 : Int) < x.p)))) ?_ ?_
      · refine sl_case (t := 29) rfl (fun g7_3 => ?_) (fun g7_3 => ?_)
        ·
          refine sl_gskip rfl rfl g7_3 (by decide) ?_
          refine sl_gskip rfl rfl g7_3 (by decide) ?_
          refine sl_gskip rfl rfl g7_3 (by decide) ?_
          refine Go.XK.s (v := .bool true) (e_pickT rfl g7_3 rfl) ?_
          exact sl_nil (fun a ha => ⟨rfl, ha.sub (.cons (by rw [g7_3]; rfl) (sub_self_cons (sub_self_cons (sub_self_cons (sub_self_cons (Sub.refl _) rfl) rfl) rfl) rfl))⟩)
        ·
          refine sl_gev (v := .pointer (some ⟨b6, 0, none⟩)) rfl rfl g7_3 (e_fieldB (sz := 1) Try.underlying49 rfl Try.sizeOf3 (by decide) rfl rfl) rfl (by decide) ?_
          refine sl_gev (v := .int .i64 x.p) rfl rfl g7_3 (e_load rfl (load1 Try.isAgg3 (hb6.cell (j := 0) rfl))) rfl (by decide) ?_
          refine sl_gev (v := .bool (decide ((4096 : Int) < x.p))) rfl rfl g7_3 (e_gt rfl rfl) rfl (by decide) ?_
          refine Go.XK.s (v := .bool (decide ((4096 : Int) < x.p))) (e_pickF rfl g7_3 rfl) ?_
          exact sl_nil (fun a ha => ⟨rfl, ha.sub (.cons (by rw [g7_3]; rfl) (sub_self_cons (sub_self_cons (sub_self_cons (sub_self_cons (Sub.refl _) rfl) rfl) rfl) rfl))⟩)
      refine Go.XK.s (v := .bool ((decide (x.p < 0)) || (decide ((4096 : Int) < x.p)))) (e_move rfl) ?_
      refine sl_merge 8 42 (.bool (((decide (x.p < 0)) || (decide ((4096 : Int) < x.p))) || (decide ((4096 : Int) - x.p < (x.bl.length : Int))))) ?_ ?_
      · refine sl_case (t := 34) rfl (fun g7_8 => ?_) (fun g7_8 => ?_)
        ·
          refine sl_gskip rfl rfl g7_8 (by decide) ?_
          refine sl_gskip rfl rfl g7_8 (by decide) ?_
          refine sl_gskip rfl rfl g7_8 (by decide) ?_
          refine sl_gskip rfl rfl g7_8 (by decide) ?_
          refine sl_gskip rfl rfl g7_8 (by decide) ?_
          refine sl_gskip rfl rfl g7_8 (by decide) ?_
          refine sl_gskip rfl rfl g7_8 (by decide) ?_
          refine Go.XK.s (v := .bool true) (e_pickT rfl g7_8 rfl) ?_
          exact sl_nil (fun a ha => ⟨rfl, ha.sub (.cons (by rw [g7_8]; rfl) (sub_self_cons (sub_self_cons (sub_self_cons (sub_self_cons (sub_self_cons (sub_self_cons (sub_self_cons (sub_self_cons (Sub.refl _) rfl) rfl) rfl) rfl) rfl) rfl) rfl) rfl))⟩)
        ·
          refine sl_gev (v := .pointer (some ⟨b6, 1, none⟩)) rfl rfl g7_8 (e_fieldB (sz := 1) Try.underlying49 rfl Try.sizeOf22 (by decide) rfl rfl) rfl (by decide) ?_
          refine sl_gev (v := .slice x.A x.bl.length x.c) rfl rfl g7_8 (e_load rfl (load1 Try.isAgg22 (hb6.cell (j := 1) rfl))) rfl (by decide) ?_
          refine sl_gev (v := .int .i64 (x.bl.length : Int)) rfl rfl g7_8 (e_len Try.underlying22 rfl) rfl (by decide) ?_
          refine sl_gev (v := .pointer (some ⟨b6, 0, none⟩)) rfl rfl g7_8 (e_fieldB (sz := 1) Try.underlying49 rfl Try.sizeOf3 (by decide) rfl rfl) rfl (by decide) ?_
          refine sl_gev (v := .int .i64 x.p) rfl rfl g7_8 (e_load rfl (load1 Try.isAgg3 (hb6.cell (j := 0) rfl))) rfl (by decide) ?_
          refine sl_gev (v := .int .i64 ((4096 : Int) - x.p)) rfl rfl g7_8 (e_sub rfl rfl (by simp only [Bool.or_eq_false_iff, decide_eq_false_iff_not] at g7_8; omega)) rfl (by decide) ?_
          refine sl_gev (v := .bool (decide ((4096 : Int) - x.p < (x.bl.length : Int)))) rfl rfl g7_8 (e_gt rfl rfl) rfl (by decide) ?_
          refine Go.XK.s (v := .bool (decide ((4096 : Int) - x.p < (x.bl.length : Int)))) (e_pickF rfl g7_8 rfl) ?_
          exact sl_nil (fun a ha => ⟨rfl, ha.sub (.cons (by rw [g7_8]; rfl) (sub_self_cons (sub_self_cons (sub_self_cons (sub_self_cons (sub_self_cons (sub_self_cons (sub_self_cons (sub_self_cons (Sub.refl _) rfl) rfl) rfl) rfl) rfl) rfl) rfl) rfl))⟩)
      refine Go.XK.s (v := .bool (((decide (x.p < 0)) || (decide ((4096 : Int) < x.p))) || (decide ((4096 : Int) - x.p < (x.bl.length : Int))))) (e_move rfl) ?_
      refine sl_merge 9 52 (.bool ((((decide (x.p < 0)) || (decide ((4096 : Int) < x.p))) || (decide ((4096 : Int) - x.p < (x.bl.length : Int)))) || (x.cl && (decide ((0 : Int) < (x.bl.length : Int)))))) ?_ ?_
      · refine sl_case (t := 43) rfl (fun g7_17 => ?_) (fun g7_17 => ?_)
        ·
          refine sl_gskip rfl rfl g7_17 (by decide) ?_
          refine sl_gskip rfl rfl g7_17 (by decide) ?_
          refine sl_gskip rfl rfl g7_17 (by decide) ?_
          refine sl_gskipU rfl rfl (by decide) ?_
          refine sl_gskipU rfl rfl (by decide) ?_
          refine sl_gskipU rfl rfl (by decide) ?_
          refine sl_gskipU rfl rfl (by decide) ?_
          refine sl_gskip rfl rfl g7_17 (by decide) ?_
          refine Go.XK.s (v := .bool true) (e_pickT rfl g7_17 rfl) ?_
          exact sl_nil (fun a ha => ⟨rfl, ha.sub (.cons (by rw [g7_17]; rfl) (sub_self_cons (sub_self_cons (sub_self_cons (sub_self_cons (sub_self_cons (sub_self_cons (sub_self_cons (sub_self_cons (sub_self_cons (Sub.refl _) rfl) rfl) rfl) rfl) rfl) rfl) rfl) rfl) rfl))⟩)
        ·
          refine sl_gev (v := .pointer (some ⟨b6, 3, none⟩)) rfl rfl g7_17 (e_fieldB (sz := 1) Try.underlying49 rfl Try.sizeOf4 (by decide) rfl rfl) rfl (by decide) ?_
          refine sl_gev (v := .bool x.cl) rfl rfl g7_17 (e_load rfl (load1 Try.isAgg4 (hb6.cell (j := 3) rfl))) rfl (by decide) ?_
          refine sl_gev (v := .bool x.cl) rfl rfl g7_17 (e_move rfl) rfl (by decide) ?_
          refine sl_merge 5 51 (.bool (x.cl && (decide ((0 : Int) < (x.bl.length : Int))))) ?_ ?_
          · refine sl_case (t := 46) rfl (fun g7_20 => ?_) (fun g7_20 => ?_)
            ·
              refine sl_gev (v := .pointer (some ⟨b6, 1, none⟩)) rfl rfl g7_20 (e_fieldB (sz := 1) Try.underlying49 rfl Try.sizeOf22 (by decide) rfl rfl) rfl (by decide) ?_
              refine sl_gev (v := .slice x.A x.bl.length x.c) rfl rfl g7_20 (e_load rfl (load1 Try.isAgg22 (hb6.cell (j := 1) rfl))) rfl (by decide) ?_
              refine sl_gev (v := .int .i64 (x.bl.length : Int)) rfl rfl g7_20 (e_len Try.underlying22 rfl) rfl (by decide) ?_
              refine sl_gev (v := .bool (decide ((0 : Int) < (x.bl.length : Int)))) rfl rfl g7_20 (e_gt rfl rfl) rfl (by decide) ?_
              refine sl_gev (v := .bool (decide ((0 : Int) < (x.bl.length : Int)))) rfl rfl g7_17 (e_pickT rfl g7_20 rfl) rfl (by decide) ?_
              exact sl_nil (fun a ha => ⟨rfl, ha.sub (.cons (by rw [g7_20]; rfl) (sub_self_cons (sub_self_cons (sub_self_cons (sub_self_cons (sub_self_cons (Sub.refl _) rfl) rfl) rfl) rfl) rfl))⟩)
            ·
              refine sl_gskip rfl rfl g7_20 (by decide) ?_
              refine sl_gskip rfl rfl g7_20 (by decide) ?_
              refine sl_gskip rfl rfl g7_20 (by decide) ?_
              refine sl_gskip rfl rfl g7_20 (by decide) ?_
              refine sl_gev (v := .bool false) rfl rfl g7_17 (e_pickF rfl g7_20 rfl) rfl (by decide) ?_
              exact sl_nil (fun a ha => ⟨rfl, ha.sub (.cons (by rw [g7_20]; rfl) (sub_self_cons (sub_self_cons (sub_self_cons (sub_self_cons (sub_self_cons (Sub.refl _) rfl) rfl) rfl) rfl) rfl))⟩)
          refine Go.XK.s (v := .bool (x.cl && (decide ((0 : Int) < (x.bl.length : Int))))) (e_pickF rfl g7_17 rfl) ?_
          exact sl_nil (fun a ha => ⟨rfl, ha.sub (.cons (by rw [g7_17]; rfl) (sub_self_cons (sub_self_cons (sub_self_cons (sub_self_cons (sub_self_cons (Sub.refl _) rfl) rfl) rfl) rfl) rfl))⟩)
      refine sl_nil (nrm_k ?_)
      refine sc_if rfl (fun c52 => ?_) (fun c52 => ?_)
      ·
        refine sc_seq ?_
        refine sc_reg ?_
        refine Go.XK.s (v := .bool false) (e_assign rfl) ?_
        refine sl_nil (nrm_k ?_)
        refine sc_retf rfl (ret1 Try.results18 (rvt rfl) ?_)
        exact ⟨congrArg Value.bool (by rw [validR, all_no (p := okW) hx (okW_bad c52), c15]; rfl), xw_w5⟩
      ·
        refine sc_skip (nrm_k ?_)
        refine sc_seq ?_
        refine sc_reg ?_
        refine Go.XK.s (v := .int .i64 0) (e_assign rfl) ?_
        refine sl_nil (nrm_k ?_)
        refine sc_block ?_
        refine sc_loop (fun m_ l_ w_ => ∃ (k : Nat), m_ = x.bl.length - k ∧ l_ = [(7, .int .i64 (k : Int)), (0, .slice A im.length c), (1, .slice Aw ws.length cw), (5, .int .i64 (i : Int)), (6, .pointer (some ⟨b6, 0, none⟩))] ∧ Ext w w_ ∧ Blk w_ b6 49 [.int .i64 x.p, .slice x.A x.bl.length x.c, .bool x.sy, .bool x.cl] ∧ k ≤ x.bl.length ∧ (x.bl.take k).any badB = false) _ [(7, .int .i64 (0 : Int)), (0, .slice A im.length c), (1, .slice Aw ws.length cw), (5, .int .i64 (i : Int)), (6, .pointer (some ⟨b6, 0, none⟩))] ⟨0, rfl, rfl, xw_w5, hb6, ⟨by omega, rfl⟩⟩ (.cons rfl (.cons rfl (.cons rfl (.cons rfl (.cons rfl (.nil)))))) ?_
        rintro j7 _ w6 ⟨k, rfl, rfl, xw_w6, hb6, ⟨hk, hno⟩⟩
        refine sc_seq ?_
        refine sc_seq ?_
        refine sc_reg ?_
        refine Go.XK.s (v := .int .i64 (k : Int)) (e_move rfl) ?_
        refine Go.XK.s (v := .pointer (some ⟨b6, 1, none⟩)) (e_fieldB (sz := 1) Try.underlying49 rfl Try.sizeOf22 (by decide) rfl rfl) ?_
        refine Go.XK.s (v := .slice x.A x.bl.length x.c) (e_load rfl (load1 Try.isAgg22 (hb6.cell (j := 1) rfl))) ?_
        refine Go.XK.s (v := .int .i64 (x.bl.length : Int)) (e_len Try.underlying22 rfl) ?_
        refine Go.XK.s (v := .bool (decide ((k : Int) < (x.bl.length : Int)))) (e_lt rfl rfl) ?_
        refine sl_nil (nrm_k ?_)
        refine sc_ifd rfl (fun c57 => ?_) (fun c57 => ?_)
        ·
          obtain ⟨y, hy⟩ : ∃ y, x.bl[k]? = some y := ⟨_, List.getElem?_eq_getElem (by omega)⟩
          refine sc_skip (nrm_k ?_)
          refine sc_seq ?_
          refine sc_block ?_
          refine sc_seq ?_
          refine sc_reg ?_
          refine Go.XK.s (v := .pointer (some ⟨b6, 1, none⟩)) (e_fieldB (sz := 1) Try.underlying49 rfl Try.sizeOf22 (by decide) rfl rfl) ?_
          refine Go.XK.s (v := .slice x.A x.bl.length x.c) (e_load rfl (load1 Try.isAgg22 (hb6.cell (j := 1) rfl))) ?_
          refine Go.XK.s (v := .int .i64 (k : Int)) (e_move rfl) ?_
          refine Go.XK.s (v := .pointer (some (el x.A 1 (k : Int) 0))) (e_idxEl (e := y) Try.underlying22 Try.sizeOf9 rfl rfl (hin_x.1.ext xw_w6) hy (by omega) rfl) ?_
          refine Go.XK.s (v := .string (B y)) (e_ldEl (xs := x.bl) (enc := encS) (e := y) rfl (hin_x.1.ext xw_w6) hy Try.isAgg9 rfl) ?_
          refine Go.XK.s (v := .int .i64 (y.length : Int)) (e_slen Try.underlying9 rfl) ?_
          refine Go.XK.s (v := .bool (decide ((y.length : Int) ≠ 2048))) (e_ne rfl rfl) ?_
          refine sl_nil (nrm_k ?_)
          refine sc_ifd rfl (fun c66 => ?_) (fun c66 => ?_)
          ·
            refine sc_seq ?_
            refine sc_reg ?_
            refine Go.XK.s (v := .bool false) (e_assign rfl) ?_
            refine sl_nil (nrm_k ?_)
            refine sc_retf rfl (ret1 Try.results18 (rvt rfl) ?_)
            exact ⟨congrArg Value.bool (by rw [validR, all_no (p := okW) hx (okW_any (any_at hy (decide_eq_true c66))), c15]; rfl), xw_w6⟩
          ·
            refine sc_skip (nrm_k ?_)
            refine sc_reg ?_
            refine Go.XK.s (v := .int .i64 (k : Int)) (e_move rfl) ?_
            refine Go.XK.s (v := .int .i64 ((k : Int) + 1)) (e_add rfl rfl (by omega)) ?_
            refine Go.XK.s (v := .int .i64 ((k : Int) + 1)) (e_assign rfl) ?_
            refine sl_nil ?_
            exact nrm_loopq rfl _ _ (by omega) ⟨k + 1, rfl, rfl, xw_w6, hb6, ⟨by omega, any_take hy hno (decide_eq_false c66)⟩⟩ (.cons rfl (.cons rfl (.cons rfl (.cons rfl (.cons rfl (.nil))))))
        ·
          have hany : x.bl.any badB = false := by
            rwa [List.take_of_length_le (by omega)] at hno
          refine sc_exit rfl (nrm_k ?_)
          refine sc_reg ?_
          refine Go.XK.s (v := .int .i64 (i : Int)) (e_move rfl) ?_
          refine Go.XK.s (v := .int .i64 ((i : Int) + 1)) (e_add rfl rfl (by omega)) ?_
          refine Go.XK.s (v := .int .i64 ((i : Int) + 1)) (e_assign rfl) ?_
          refine sl_nil ?_
          exact nrm_loopq rfl _ _ (by omega) ⟨i + 1, rfl, rfl, xw_w6, ⟨by omega, all_take (p := okW) hx hallw (okW_ok c52 hany)⟩⟩ (.cons rfl (.cons rfl (.cons rfl (.nil))))
    ·
      refine sc_exit rfl (nrm_k ?_)
      refine sc_seq ?_
      refine sc_reg ?_
      refine Go.XK.s (v := .bool true) (e_assign rfl) ?_
      refine sl_nil (nrm_k ?_)
      refine sc_retf rfl (ret1 Try.results18 (rvt rfl) ?_)
      exact ⟨congrArg Value.bool (by rw [validR, all_end (p := okW) hallw (by omega), c15]; rfl), xw_w2⟩

/-- masterdisc/masterdiscref52.Steps (function 13) -/
theorem rsteps_c (ws : List Wr) (Aw : Option Addr) (cw : Nat) (w : World) (hw : SlR w Aw cw 4 encW ws) (hin : Inn w ws) (hs : (stL ws).length ≤ 4611686018427387904) : CallR Try.prog 13 [.slice Aw ws.length cw] w (fun v w' => v = .int .i64 ((stL ws).length : Int) ∧ Ext w w') := by
  have hmx0 := hw.lenle
  simp only [maxLen] at hmx0
  refine callR_of (n := 27) [(0, .slice Aw ws.length cw)] Try.func13 rfl rfl (Nat.le_of_ble_eq_true rfl) rfl ?_
  refine sc_seq ?_
  refine sc_reg ?_
  refine Go.XK.s (v := .int .i64 0) (e_assign rfl) ?_
  refine sl_nil (nrm_k ?_)
  refine sc_seq ?_
  refine sc_reg ?_
  refine Go.XK.s (v := .int .i64 0) (e_assign rfl) ?_
  refine sl_nil (nrm_k ?_)
  refine sc_seq ?_
  refine sc_seq ?_
  refine sc_reg ?_
  refine Go.XK.s (v := .int .i64 0) (e_assign rfl) ?_
  refine sl_nil (nrm_k ?_)
  refine sc_block ?_
  refine sc_loop (fun m_ l_ w_ => ∃ (i : Nat) (z : Int), m_ = ws.length - i ∧ l_ = [(4, .int .i64 (i : Int)), (3, .int .i64 z), (0, .slice Aw ws.length cw)] ∧ Ext w w_ ∧ i ≤ ws.length ∧ z = ((stL (ws.take i)).length : Int)) _ [(4, .int .i64 (0 : Int)), (3, .int .i64 0), (0, .slice Aw ws.length cw)] ⟨0, 0, rfl, rfl, (Ext.rfl' w), ⟨by omega, rfl⟩⟩ (.cons rfl (.cons rfl (.cons rfl (.nil)))) ?_
  rintro j2 _ w1 ⟨i, z, rfl, rfl, xw_w1, ⟨hi, hz⟩⟩
  refine sc_seq ?_
  refine sc_seq ?_
  refine sc_reg ?_
  refine Go.XK.s (v := .int .i64 (i : Int)) (e_move rfl) ?_
  refine Go.XK.s (v := .slice Aw ws.length cw) (e_move rfl) ?_
  refine Go.XK.s (v := .int .i64 (ws.length : Int)) (e_len Try.underlying24 rfl) ?_
  refine Go.XK.s (v := .bool (decide ((i : Int) < (ws.length : Int)))) (e_lt rfl rfl) ?_
  refine sl_nil (nrm_k ?_)
  refine sc_ifd rfl (fun c8 => ?_) (fun c8 => ?_)
  ·
    obtain ⟨x, hx⟩ : ∃ x, ws[i]? = some x := ⟨_, List.getElem?_eq_getElem (by omega)⟩
    have hin_x := hin x (List.mem_of_getElem? hx)
    have hst := stL_take_length hx
    have hle := (stL_pre ws (i + 1)).length_le
    rw [hst] at hle
    refine sc_skip (nrm_k ?_)
    refine sc_seq ?_
    refine sc_block ?_
    refine sc_seq ?_
    refine sc_reg ?_
    refine Go.XK.s (v := .int .i64 z) (e_move rfl) ?_
    refine Go.XK.s (v := .slice Aw ws.length cw) (e_move rfl) ?_
    refine Go.XK.s (v := .int .i64 (i : Int)) (e_move rfl) ?_
    refine Go.XK.s (v := .pointer (some (el Aw 4 (i : Int) 0))) (e_idxEl (e := x) Try.underlying24 Try.sizeOf49 rfl rfl (hw.1.ext xw_w1) hx (by omega) rfl) ?_
    refine Go.XK.s (v := .pointer (some (el Aw 4 (i : Int) 1))) (e_fieldEl (fsz := 1) Try.underlying49 rfl Try.sizeOf22 (by decide) rfl rfl) ?_
    refine Go.XK.s (v := .slice x.A x.bl.length x.c) (e_ldEl (xs := ws) (enc := encW) (e := x) rfl (hw.1.ext xw_w1) hx Try.isAgg22 rfl) ?_
    refine Go.XK.s (v := .int .i64 (x.bl.length : Int)) (e_len Try.underlying22 rfl) ?_
    refine Go.XK.s (v := .int .i64 (z + (x.bl.length : Int))) (e_add rfl rfl (by omega)) ?_
    refine Go.XK.s (v := .int .i64 (z + (x.bl.length : Int))) (e_assign rfl) ?_
    refine sl_nil (nrm_k ?_)
    refine sc_seq ?_
    refine sc_reg ?_
    refine Go.XK.s (v := .slice Aw ws.length cw) (e_move rfl) ?_
    refine Go.XK.s (v := .int .i64 (i : Int)) (e_move rfl) ?_
    refine Go.XK.s (v := .pointer (some (el Aw 4 (i : Int) 0))) (e_idxEl (e := x) Try.underlying24 Try.sizeOf49 rfl rfl (hw.1.ext xw_w1) hx (by omega) rfl) ?_
    refine Go.XK.s (v := .pointer (some (el Aw 4 (i : Int) 3))) (e_fieldEl (fsz := 1) Try.underlying49 rfl Try.sizeOf4 (by decide) rfl rfl) ?_
    refine Go.XK.s (v := .bool x.cl) (e_ldEl (xs := ws) (enc := encW) (e := x) rfl (hw.1.ext xw_w1) hx Try.isAgg4 rfl) ?_
    refine sl_nil (nrm_k ?_)
    refine sc_if rfl (fun c23 => ?_) (fun c23 => ?_)
    ·
      rw [c23] at hle; simp at hle
      refine sc_reg ?_
      refine Go.XK.s (v := .int .i64 (z + (x.bl.length : Int))) (e_move rfl) ?_
      refine Go.XK.s (v := .int .i64 ((z + (x.bl.length : Int)) + 1)) (e_add rfl rfl (by omega)) ?_
      refine Go.XK.s (v := .int .i64 ((z + (x.bl.length : Int)) + 1)) (e_assign rfl) ?_
      refine sl_nil (nrm_k ?_)
      refine sc_reg ?_
      refine Go.XK.s (v := .int .i64 (i : Int)) (e_move rfl) ?_
      refine Go.XK.s (v := .int .i64 ((i : Int) + 1)) (e_add rfl rfl (by omega)) ?_
      refine Go.XK.s (v := .int .i64 ((i : Int) + 1)) (e_assign rfl) ?_
      refine sl_nil ?_
      exact nrm_loopq rfl _ _ (by omega) ⟨i + 1, (z + (x.bl.length : Int)) + 1, rfl, rfl, xw_w1, ⟨by omega, by rw [hst, c23, hz]; simp <;> omega⟩⟩ (.cons rfl (.cons rfl (.cons rfl (.nil))))
    ·
      refine sc_skip (nrm_k ?_)
      refine sc_reg ?_
      refine Go.XK.s (v := .int .i64 (i : Int)) (e_move rfl) ?_
      refine Go.XK.s (v := .int .i64 ((i : Int) + 1)) (e_add rfl rfl (by omega)) ?_
      refine Go.XK.s (v := .int .i64 ((i : Int) + 1)) (e_assign rfl) ?_
      refine sl_nil ?_
      exact nrm_loopq rfl _ _ (by omega) ⟨i + 1, z + (x.bl.length : Int), rfl, rfl, xw_w1, ⟨by omega, by rw [hst, c23, hz]; simp <;> omega⟩⟩ (.cons rfl (.cons rfl (.cons rfl (.nil))))
  ·
    have hz2 : z = ((stL ws).length : Int) := by rw [hz, List.take_of_length_le (by omega)]
    refine sc_exit rfl (nrm_k ?_)
    refine sc_seq ?_
    refine sc_reg ?_
    refine Go.XK.s (v := .int .i64 z) (e_move rfl) ?_
    refine Go.XK.s (v := .int .i64 z) (e_assign rfl) ?_
    refine sl_nil (nrm_k ?_)
    refine sc_retf rfl (ret1 Try.results13 (rvt rfl) ?_)
    exact ⟨congrArg (Value.int .i64) hz2, xw_w1⟩

/-- masterdisc/masterdiscref52.Few (function 12) -/
theorem few_c (im : Img) (A : Option Addr) (c : Nat) (ws : List Wr) (Aw : Option Addr) (cw : Nat) (w : World) (hl : SlR w A c 1 encS im) (hw : SlR w Aw cw 4 encW ws) (hin : Inn w ws) : CallR Try.prog 12 [.slice A im.length c, .slice Aw ws.length cw] w (fun v w' => v = .bool (few im ws) ∧ Ext w w') := by
  have hmx0 := hl.lenle
  simp only [maxLen] at hmx0
  have hmx1 := hw.lenle
  simp only [maxLen] at hmx1
  refine callR_of (n := 27) [(0, .slice A im.length c), (1, .slice Aw ws.length cw)] Try.func12 rfl rfl (Nat.le_of_ble_eq_true rfl) rfl ?_
  refine sc_seq ?_
  refine sc_reg ?_
  refine Go.XK.s (v := .bool false) (e_assign rfl) ?_
  refine sl_nil (nrm_k ?_)
  refine sc_seq ?_
  refine sc_seq ?_
  refine sc_reg ?_
  refine Go.XK.s (v := .slice A im.length c) (e_move rfl) ?_
  refine Go.XK.s (v := .int .i64 (im.length : Int)) (e_len Try.underlying23 rfl) ?_
  refine Go.XK.s (v := .bool (decide ((600 : Int) < (im.length : Int)))) (e_gt rfl rfl) ?_
  refine Go.XK.s (v := .bool (decide ((600 : Int) < (im.length : Int)))) (e_move rfl) ?_
  refine sl_merge 4 13 (.bool ((decide ((600 : Int) < (im.length : Int))) || (decide ((30 : Int) < (ws.length : Int))))) ?_ ?_
  · refine sl_case (t := 9) rfl (fun g1_3 => ?_) (fun g1_3 => ?_)
    ·
      refine sl_gskip rfl rfl g1_3 (by decide) ?_
      refine sl_gskip rfl rfl g1_3 (by decide) ?_
      refine sl_gskip rfl rfl g1_3 (by decide) ?_
      refine Go.XK.s (v := .bool true) (e_pickT rfl g1_3 rfl) ?_
      exact sl_nil (fun a ha => ⟨rfl, ha.sub (.cons (by rw [g1_3]; rfl) (sub_self_cons (sub_self_cons (sub_self_cons (sub_self_cons (Sub.refl _) rfl) rfl) rfl) rfl))⟩)
    ·
      refine sl_gev (v := .slice Aw ws.length cw) rfl rfl g1_3 (e_move rfl) rfl (by decide) ?_
      refine sl_gev (v := .int .i64 (ws.length : Int)) rfl rfl g1_3 (e_len Try.underlying24 rfl) rfl (by decide) ?_
      refine sl_gev (v := .bool (decide ((30 : Int) < (ws.length : Int)))) rfl rfl g1_3 (e_gt rfl rfl) rfl (by decide) ?_
      refine Go.XK.s (v := .bool (decide ((30 : Int) < (ws.length : Int)))) (e_pickF rfl g1_3 rfl) ?_
      exact sl_nil (fun a ha => ⟨rfl, ha.sub (.cons (by rw [g1_3]; rfl) (sub_self_cons (sub_self_cons (sub_self_cons (sub_self_cons (Sub.refl _) rfl) rfl) rfl) rfl))⟩)
  refine sl_nil (nrm_k ?_)
  refine sc_if rfl (fun c13 => ?_) (fun c13 => ?_)
  ·
    refine sc_seq ?_
    refine sc_reg ?_
    refine Go.XK.s (v := .bool false) (e_assign rfl) ?_
    refine sl_nil (nrm_k ?_)
    refine sc_retf rfl (ret1 Try.results12 (rvt rfl) ?_)
    exact ⟨congrArg Value.bool (by rw [few, c13]; rfl), (Ext.rfl' w)⟩
  ·
    refine sc_skip (nrm_k ?_)
    refine sc_seq ?_
    refine sc_seq ?_
    refine sc_reg ?_
    refine Go.XK.s (v := .int .i64 0) (e_assign rfl) ?_
    refine sl_nil (nrm_k ?_)
    refine sc_block ?_
    refine sc_loop (fun m_ l_ w_ => ∃ (i : Nat), m_ = ws.length - i ∧ l_ = [(5, .int .i64 (i : Int)), (0, .slice A im.length c), (1, .slice Aw ws.length cw)] ∧ Ext w w_ ∧ i ≤ ws.length ∧ (ws.take i).all bigW = true) _ [(5, .int .i64 (0 : Int)), (0, .slice A im.length c), (1, .slice Aw ws.length cw)] ⟨0, rfl, rfl, (Ext.rfl' w), ⟨by omega, rfl⟩⟩ (.cons rfl (.cons rfl (.cons rfl (.nil)))) ?_
    rintro j2 _ w1 ⟨i, rfl, rfl, xw_w1, ⟨hi, hall⟩⟩
    refine sc_seq ?_
    refine sc_seq ?_
    refine sc_reg ?_
    refine Go.XK.s (v := .int .i64 (i : Int)) (e_move rfl) ?_
    refine Go.XK.s (v := .slice Aw ws.length cw) (e_move rfl) ?_
    refine Go.XK.s (v := .int .i64 (ws.length : Int)) (e_len Try.underlying24 rfl) ?_
    refine Go.XK.s (v := .bool (decide ((i : Int) < (ws.length : Int)))) (e_lt rfl rfl) ?_
    refine sl_nil (nrm_k ?_)
    refine sc_ifd rfl (fun c17 => ?_) (fun c17 => ?_)
    ·
      obtain ⟨x, hx⟩ : ∃ x, ws[i]? = some x := ⟨_, List.getElem?_eq_getElem (by omega)⟩
      have hin_x := hin x (List.mem_of_getElem? hx)
      refine sc_skip (nrm_k ?_)
      refine sc_seq ?_
      refine sc_block ?_
      refine sc_seq ?_
      refine sc_reg ?_
      refine Go.XK.s (v := .slice Aw ws.length cw) (e_move rfl) ?_
      refine Go.XK.s (v := .int .i64 (i : Int)) (e_move rfl) ?_
      refine Go.XK.s (v := .pointer (some (el Aw 4 (i : Int) 0))) (e_idxEl (e := x) Try.underlying24 Try.sizeOf49 rfl rfl (hw.1.ext xw_w1) hx (by omega) rfl) ?_
      refine Go.XK.s (v := .pointer (some (el Aw 4 (i : Int) 1))) (e_fieldEl (fsz := 1) Try.underlying49 rfl Try.sizeOf22 (by decide) rfl rfl) ?_
      refine Go.XK.s (v := .slice x.A x.bl.length x.c) (e_ldEl (xs := ws) (enc := encW) (e := x) rfl (hw.1.ext xw_w1) hx Try.isAgg22 rfl) ?_
      refine Go.XK.s (v := .int .i64 (x.bl.length : Int)) (e_len Try.underlying22 rfl) ?_
      refine Go.XK.s (v := .bool (decide ((40 : Int) < (x.bl.length : Int)))) (e_gt rfl rfl) ?_
      refine sl_nil (nrm_k ?_)
      refine sc_ifd rfl (fun c26 => ?_) (fun c26 => ?_)
      ·
        refine sc_seq ?_
        refine sc_reg ?_
        refine Go.XK.s (v := .bool false) (e_assign rfl) ?_
        refine sl_nil (nrm_k ?_)
        refine sc_retf rfl (ret1 Try.results12 (rvt rfl) ?_)
        exact ⟨congrArg Value.bool (by rw [few, c13, all_no (p := bigW) hx (by rw [bigW, decide_eq_true c26]; rfl)]; rfl), xw_w1⟩
      ·
        refine sc_skip (nrm_k ?_)
        refine sc_reg ?_
        refine Go.XK.s (v := .int .i64 (i : Int)) (e_move rfl) ?_
        refine Go.XK.s (v := .int .i64 ((i : Int) + 1)) (e_add rfl rfl (by omega)) ?_
        refine Go.XK.s (v := .int .i64 ((i : Int) + 1)) (e_assign rfl) ?_
        refine sl_nil ?_
        exact nrm_loopq rfl _ _ (by omega) ⟨i + 1, rfl, rfl, xw_w1, ⟨by omega, all_take (p := bigW) hx hall (by rw [bigW, decide_eq_false c26]; rfl)⟩⟩ (.cons rfl (.cons rfl (.cons rfl (.nil))))
    ·
      refine sc_exit rfl (nrm_k ?_)
      refine sc_seq ?_
      refine sc_reg ?_
      refine Go.XK.s (v := .bool true) (e_assign rfl) ?_
      refine sl_nil (nrm_k ?_)
      refine sc_retf rfl (ret1 Try.results12 (rvt rfl) ?_)
      exact ⟨congrArg Value.bool (by rw [few, c13, all_end (p := bigW) hall (by omega)]; rfl), xw_w1⟩

/-- slices.Clone[masterdisc/api.Image,string] (function 57) -/
theorem clone_c (im : Img) (A : Option Addr) (c : Nat) (w : World) (hl : SlR w A c 1 encS im) (him : im.length ≤ 1000000) : CallR Try.prog 57 [.slice A im.length c] w (fun v w' => Go.XK.Own w' w.heap.size 9 1 encS v im ∧ Ext w w') := by
  refine callR_of (n := 8) [(0, .slice A im.length c)] Try.func57 rfl rfl (Nat.le_of_ble_eq_true rfl) rfl ?_
  refine sc_seq ?_
  refine sc_reg ?_
  refine Go.XK.s (v := .slice none 0 0) (e_assign rfl) ?_
  refine sl_nil (nrm_k ?_)
  refine sc_seq ?_
  refine sc_seq ?_
  refine sc_reg ?_
  refine Go.XK.s (v := .slice A im.length c) (e_move rfl) ?_
  refine Go.XK.s (v := .bool (decide (A = none))) (e_sleqnil Try.underlying23 rfl rfl) ?_
  refine sl_nil (nrm_k ?_)
  refine sc_ifd rfl (fun c4 => ?_) (fun c4 => ?_)
  ·
    refine sc_seq ?_
    refine sc_reg ?_
    refine Go.XK.s (v := .slice none 0 0) (e_assign rfl) ?_
    refine sl_nil (nrm_k ?_)
    refine sc_retf rfl (ret1 Try.results57 (rvt rfl) ?_)
    obtain ⟨rfl, rfl⟩ := hl.none_ c4
    exact ⟨Go.XK.Own.nil _ _ _ _ _, (Ext.rfl' w)⟩
  ·
    refine sc_skip (nrm_k ?_)
    refine sc_seq ?_
    refine sc_reg ?_
    refine s_bslice (vs := []) (e := 9) rfl [] (by kernel_rfl) ?_
    intro b5 w1 hb5 he5 hs5 hx5
    have ge_b5 : w.heap.size ≤ b5 := by have h_ := (Below.size (Ext.rfl' w)); omega
    have xw_w1 : Ext w w1 := Ext.tr (Ext.rfl' w) hx5
    have ho5 : Go.XK.Own w1 w.heap.size 9 1 encS (.slice (some ⟨b5, 0, none⟩) 0 0) [] := Go.XK.Own.ofBlk (xs := []) hb5 ge_b5 (fun _ => rfl) (by simp)
    refine Go.XK.s (v := .slice A im.length c) (e_move rfl) ?_
    refine s_appendRd (w0 := w) (z := .string (B [])) (kk := 1) (bytes := 16) rfl rfl Try.underlying23 (by kernel_rfl) rfl (by decide) (fun _ => rfl) one_encS im ho5 xw_w1 (hl.ext xw_w1) rfl (by simp only [maxLen, List.length_nil]; omega) (by simp only [maxLen, List.length_nil]; omega) ?_
    intro v7 w2 ho7 xw_w2 hg7 hat7
    rw [List.nil_append] at ho7
    refine Go.XK.s (v := v7) (e_assign rfl) ?_
    refine sl_nil (nrm_k ?_)
    refine sc_retf rfl (ret1 Try.results57 (rvt rfl) ?_)
    exact ⟨ho7, xw_w2⟩

/-- masterdisc/packetwriter.put (function 59) -/
theorem put_c (w0 : World) (v : Value) (im : Img) (p : Int) (b : List UInt8) (w : World) (hx0 : Ext w0 w) (ho : Go.XK.Own w w0.heap.size 9 1 encS v im) (hp : 0 ≤ p ∧ p < 1000000) (him : im.length ≤ 1000000) : CallR Try.prog 59 [v, .int .i64 p, .string (B b)] w (fun v' w' => Go.XK.Own w' w0.heap.size 9 1 encS v' (putI im p b) ∧ Gr w w' v v' ∧ Ext w0 w') := by
  have hgr : Gr w w v v := Gr.rfl' w v
  refine callR_of (n := 19) [(0, v), (1, .int .i64 p), (2, .string (B b))] Try.func59 rfl rfl (Nat.le_of_ble_eq_true rfl) rfl ?_
  refine sc_seq ?_
  refine sc_reg ?_
  refine Go.XK.s (v := .slice none 0 0) (e_assign rfl) ?_
  refine sl_nil (nrm_k ?_)
  refine sc_seq ?_
  refine sc_block ?_
  refine sc_loop (fun m_ l_ w_ => ∃ (v_ : Value) (xs_ : Img), m_ = p.toNat + 1 - xs_.length ∧ l_ = [(0, v_), (1, .int .i64 p), (2, .string (B b))] ∧ Ext w0 w_ ∧ Go.XK.Own w_ w0.heap.size 9 1 encS v_ xs_ ∧ Gr w w_ v v_ ∧ ∃ kk : Nat, xs_ = im ++ List.replicate kk [] ∧ (xs_.length : Int) ≤ max (im.length : Int) (p + 1)) _ [(0, v), (1, .int .i64 p), (2, .string (B b))] ⟨v, im, rfl, rfl, hx0, ho, ⟨hgr, 0, by simp, by omega⟩⟩ (.cons rfl (.cons rfl (.cons rfl (.nil)))) ?_
  rintro j2 _ w1 ⟨v_, xs_, rfl, rfl, xw0_w1, ho, ⟨hgr, kk, hxs, hlen⟩⟩
  refine sc_seq ?_
  refine sc_seq ?_
  refine sc_reg ?_
  refine Go.XK.s (v := v_) (e_move rfl) ?_
  refine Go.XK.s (v := .int .i64 (xs_.length : Int)) (e_lenOwn Try.underlying23 rfl ho (fun _ => rfl)) ?_
  refine Go.XK.s (v := .int .i64 p) (e_move rfl) ?_
  refine Go.XK.s (v := .bool (decide ((xs_.length : Int) ≤ p))) (e_le rfl rfl) ?_
  refine sl_nil (nrm_k ?_)
  refine sc_ifd rfl (fun c10 => ?_) (fun c10 => ?_)
  ·
    refine sc_skip (nrm_k ?_)
    refine sc_block ?_
    refine sc_reg ?_
    refine Go.XK.s (v := v_) (e_move rfl) ?_
    refine s_bslice (vs := [(0, .string (B []))]) (e := 9) rfl [.string (B [])] (by kernel_rfl) ?_
    intro b12 w3 hb12 he12 hs12 hx12
    have no_b12_ho : Value.ownBlock v_ ≠ some b12 := fun h_ => by have h2_ := (Go.XK.Own.lt ho _ h_).2; omega
    have gew0_b12 : w0.heap.size ≤ b12 := by have h_ := (Below.size xw0_w1); omega
    have xw0_w3 : Ext w0 w3 := Ext.tr xw0_w1 hx12
    replace hgr := Gr.tr hgr (Gr.ofExt hx12)
    replace ho := ho.ext hx12
    refine s_appendLit2 (w0 := w0) (z := .string (B [])) (kk := 1) (bytes := 16) rfl rfl Try.underlying23 (by kernel_rfl) rfl (by decide) (fun _ => rfl) one_encS [[]] ho xw0_w3 hb12 rfl rfl (by first | (simp only [maxLen]; omega) | omega) (by first | (simp only [maxLen]; omega) | omega) ?_
    intro v13 w4 ho13 xw_w4 hg13 hat13
    replace hgr := Gr.tr hgr (Gr.of hg13 hat13)
    replace hb12 := hb12.grown hg13 no_b12_ho
    refine Go.XK.s (v := v13) (e_assign rfl) ?_
    refine sl_nil ?_
    exact nrm_loopq rfl _ _ (by (rw [List.length_append]; simp; omega)) ⟨v13, xs_ ++ [[]], rfl, rfl, xw_w4, ho13, ⟨hgr, kk + 1, by rw [hxs, List.append_assoc, List.replicate_succ'], by rw [List.length_append]; simp; omega⟩⟩ (.cons rfl (.cons rfl (.cons rfl (.nil))))
  ·
    obtain ⟨y, hy⟩ : ∃ y, xs_[p.toNat]? = some y := ⟨_, List.getElem?_eq_getElem (by omega)⟩
    refine sc_exit rfl (nrm_k ?_)
    refine sc_seq ?_
    refine sc_reg ?_
    refine Go.XK.s (v := v_) (e_move rfl) ?_
    refine Go.XK.s (v := .int .i64 p) (e_move rfl) ?_
    refine Go.XK.s (v := .string (B b)) (e_move rfl) ?_
    refine Go.XK.s (v := .pointer (some (el (ownA v_) 1 p 0))) (e_idxOwn (x0 := y) Try.underlying23 Try.sizeOf9 rfl rfl ho (fun _ => rfl) hy (by omega)) ?_
    refine su_ownSet (w0 := w0) (x0 := y) (v := v_) b rfl rfl ho xw0_w1 (fun _ => rfl) hy (by decide) rfl rfl Try.sizeOf9 rfl ?_
    intro w5 hn_ xw_w5 hg_w5
    have ho_ := ho
    replace hgr := Gr.tr hgr (Gr.mk' hg_w5)
    replace ho := hn_
    clear hn_ ho_
    refine sl_nil (nrm_k ?_)
    refine sc_seq ?_
    refine sc_reg ?_
    refine Go.XK.s (v := v_) (e_move rfl) ?_
    refine Go.XK.s (v := v_) (e_assign rfl) ?_
    refine sl_nil (nrm_k ?_)
    refine sc_retf rfl (ret1 Try.results59 (rvt rfl) ?_)
    have hpe : xs_.set p.toNat b = putI im p b := by
      have hll : xs_.length = im.length + kk := by rw [hxs]; simp
      rw [putI, hxs, show p.toNat + 1 - im.length = kk from by omega]
    rw [hpe] at ho
    exact ⟨ho, hgr, xw_w5⟩

/-- masterdisc/packetwriter.steps (function 58) -/
theorem steps_c (ws : List Wr) (Aw : Option Addr) (cw : Nat) (w : World) : CallR Try.prog 58 [.slice Aw ws.length cw] w (fun v w' => ∃ b : Nat, v = .func (.func 78) #[] #[.pointer (some ⟨b, 0, none⟩)] ∧ Blk w' b 24 [.slice Aw ws.length cw] ∧ w.heap.size ≤ b ∧ Ext w w') := by
  refine callR_of (n := 4) [(0, .slice Aw ws.length cw)] Try.func58 rfl rfl (Nat.le_of_ble_eq_true rfl) rfl ?_
  refine sc_seq ?_
  refine sc_reg ?_
  refine s_box (cs := [.slice Aw ws.length cw]) rfl rfl ?_
  intro b1 w1 hb1 he1 hs1 hx1
  have ge_b1 : w.heap.size ≤ b1 := by have h_ := (Below.size (Ext.rfl' w)); omega
  have xw_w1 : Ext w w1 := Ext.tr (Ext.rfl' w) hx1
  refine Go.XK.s (v := .nilFunc) (e_assign rfl) ?_
  refine sl_nil (nrm_k ?_)
  refine sc_seq ?_
  refine sc_reg ?_
  refine Go.XK.s (v := .func (.func 78) #[] #[.pointer (some ⟨b1, 0, none⟩)]) (e_makeFunc (vs := [.pointer (some ⟨b1, 0, none⟩)]) rfl) ?_
  refine Go.XK.s (v := .func (.func 78) #[] #[.pointer (some ⟨b1, 0, none⟩)]) (e_assign rfl) ?_
  refine sl_nil (nrm_k ?_)
  refine sc_retf rfl (ret1 Try.results58 (rvt rfl) ?_)
  exact ⟨b1, rfl, hb1, ge_b1, xw_w1⟩

end Go.Proofs.Ytfcjianiodiejaa
