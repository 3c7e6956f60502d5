/- Chapter 24: C7. Printed by my program wip/tools/wk.py. -/
import Derived.Test.YtnbclhbpjlpcoaaC6
set_option linter.unusedVariables false
set_option linter.unusedSimpArgs false
set_option maxRecDepth 4000
set_option maxHeartbeats 4000000
namespace Go.Proofs.Ytnbclhbpjlpcoaa
open Go.XK Go.RowKit
/-- masterdisc/susp.Groups (function 18) -/
theorem groups_c (l : List En) (A : Option Addr) (c : Nat) (room : Int) (w : World) (hl : SlR w A c 3 encE l) (hsl : ∀ x ∈ l, x.g.length ≤ 9223372036854775807) : CallR Try.prog 18 [.slice A l.length c, .int .i64 room] w (fun v w' => ∃ v1 gs, v = .tuple #[v1, .int .i64 (grpR l room).2] ∧ gs.map (·.l) = (grpR l room).1 ∧ Go.XK.Own w' w.heap.size 22 1 encG v1 gs ∧ OwG w' w.heap.size gs ∧ Ext w w') := by
  have hmx0 := hl.lenle
  simp only [maxLen] at hmx0
  refine callR_of (n := 79) [(0, .slice A l.length c), (1, .int .i64 room)] Try.func18 rfl rfl (Nat.le_of_ble_eq_true rfl) rfl ?_
  refine sc_seq ?_
  refine sc_reg ?_
  refine Go.XK.s (v := .slice none 0 0) (e_assign rfl) ?_
  refine Go.XK.s (v := .int .i64 0) (e_assign rfl) ?_
  refine sl_nil (nrm_k ?_)
  refine sc_seq ?_
  refine sc_seq ?_
  refine sc_reg ?_
  refine Go.XK.s (v := .slice A l.length c) (e_move rfl) ?_
  refine sl_call ent44 rfl rfl (check_c _ _ _ w (hl.ext (Ext.rfl' w)) hsl) (by decide) ?_
  rintro _ w1 ⟨rfl, hw1⟩
  have xw_w1 : Ext w w1 := Ext.tr (Ext.rfl' w) hw1
  refine Go.XK.s (v := .int .i64 (chkR l)) (e_assign rfl) ?_
  refine sl_nil (nrm_k ?_)
  refine sc_seq ?_
  refine sc_reg ?_
  refine Go.XK.s (v := .int .i64 (chkR l)) (e_move rfl) ?_
  refine Go.XK.s (v := .bool (decide (chkR l ≠ 0))) (e_ne rfl rfl) ?_
  refine sl_nil (nrm_k ?_)
  refine sc_ifd rfl (fun c14 => ?_) (fun c14 => ?_)
  ·
    refine sc_seq ?_
    refine sc_reg ?_
    refine Go.XK.s (v := .int .i64 (chkR l)) (e_move rfl) ?_
    refine Go.XK.s (v := .slice none 0 0) (e_assign rfl) ?_
    refine Go.XK.s (v := .int .i64 (chkR l)) (e_assign rfl) ?_
    refine sl_nil (nrm_k ?_)
    refine sc_retf rfl (ret2 Try.results18 (rvt rfl) (rvt rfl) ?_)
    exact ⟨.slice none 0 0, [], by rw [grpR_1 c14], by rw [grpR_1 c14]; rfl, Go.XK.Own.nil _ _ _ _ _, OwG.nil _ _, xw_w1⟩
  ·
    have hc0 : chkR l = 0 := Classical.not_not.1 c14
    have hok := chkR_zero hc0
    obtain ⟨hx255, hszl⟩ := ok_sz hok
    refine sc_skip (nrm_k ?_)
    refine sc_seq ?_
    refine sc_seq ?_
    refine sc_reg ?_
    refine Go.XK.s (v := .slice A l.length c) (e_move rfl) ?_
    refine Go.XK.s (v := .int .i64 (l.length : Int)) (e_len Try.underlying22 rfl) ?_
    refine Go.XK.s (v := .int .i64 0) (e_move rfl) ?_
    refine sl_nil (nrm_k ?_)
    refine sc_block ?_
    refine sc_loop (fun m_ l_ w_ => ∃ (i : Nat), m_ = l.length - i ∧ l_ = [(18, .int .i64 (i : Int)), (0, .slice A l.length c), (1, .int .i64 room), (16, .slice A l.length c), (17, .int .i64 (l.length : Int))] ∧ Ext w w_ ∧ i ≤ l.length ∧ (l.take i).any linkB = false) _ [(18, .int .i64 (0 : Int)), (0, .slice A l.length c), (1, .int .i64 room), (16, .slice A l.length c), (17, .int .i64 (l.length : Int))] ⟨0, rfl, rfl, xw_w1, ⟨by omega, rfl⟩⟩ (.cons rfl (.cons rfl (.cons rfl (.cons rfl (.cons rfl (.nil)))))) ?_
    rintro j3 _ w2 ⟨i, rfl, rfl, xw_w2, ⟨hi, hln⟩⟩
    refine sc_seq ?_
    refine sc_reg ?_
    refine Go.XK.s (v := .bool (decide ((i : Int) < (l.length : Int)))) (e_lt rfl rfl) ?_
    refine sl_nil (nrm_k ?_)
    refine sc_seq ?_
    refine sc_ifd rfl (fun c19 => ?_) (fun c19 => ?_)
    ·
      obtain ⟨x, hx⟩ : ∃ x, l[i]? = some x := ⟨_, List.getElem?_eq_getElem (by omega)⟩
      refine sc_skip (nrm_k ?_)
      refine sc_seq ?_
      refine sc_block ?_
      refine sc_seq ?_
      refine sc_reg ?_
      refine Go.XK.s (v := .pointer (some (el A 3 (i : Int) 0))) (e_idxEl (e := x) Try.underlying22 Try.sizeOf41 rfl rfl (hl.1.ext xw_w2) hx (by omega) rfl) ?_
      refine Go.XK.s (v := .agg #[.string (B x.g), .int .i64 x.v, .string (B x.d)]) (e_ldElA (xs := l) (enc := encE) (e := x) rfl (hl.1.ext xw_w2) hx Try.isAgg41 Try.sizeOf41 rfl) ?_
      refine s_alloc (cs := [.string (B []), .int .i64 0, .string (B [])]) Try.zeroValue41 rfl ?_
      intro b8 w4 hb8 he8 hs8 hx8
      have ge_b8 : w.heap.size ≤ b8 := by have h_ := (Below.size xw_w2); omega
      have xw_w4 : Ext w w4 := Ext.tr xw_w2 hx8
      refine su_blkV [.string (B x.g), .int .i64 x.v, .string (B x.d)] [.string (B x.g), .int .i64 x.v, .string (B x.d)] rfl rfl hb8 rfl Try.sizeOf41 (Nat.le_of_ble_eq_true rfl) rfl rfl ?_
      intro w5 hn_ hm_w5 hs_w5
      have ho_ := hb8
      replace hb8 := hn_
      clear hn_
      have xw_w5 : Ext w w5 := below_mut xw_w4 (Below.size xw_w4) hm_w5 ge_b8
      refine sl_nil (nrm_k ?_)
      refine sc_seq ?_
      refine sc_reg ?_
      refine Go.XK.s (v := .pointer (some ⟨b8, 0, none⟩)) (e_fieldB (sz := 1) Try.underlying41 rfl Try.sizeOf9 (by decide) rfl rfl) ?_
      refine Go.XK.s (v := .string (B x.g)) (e_load rfl (load1 Try.isAgg9 (hb8.cell (j := 0) rfl))) ?_
      refine Go.XK.s (v := .bool (decide (x.g = [67, 69]))) (e_seq rfl rfl) ?_
      refine Go.XK.s (v := .bool (decide (x.g = [67, 69]))) (e_move rfl) ?_
      refine sl_merge 4 29 (.bool ((decide (x.g = [67, 69])) || (decide (x.g = [83, 84])))) ?_ ?_
      · refine sl_case (t := 25) rfl (fun g7_3 => ?_) (fun g7_3 => ?_)
        ·
          refine sl_gskip rfl rfl g7_3 (by decide) ?_
          refine sl_gskip rfl rfl g7_3 (by decide) ?_
          refine sl_gskip rfl rfl g7_3 (by decide) ?_
          refine Go.XK.s (v := .bool true) (e_pickT rfl g7_3 rfl) ?_
          exact sl_nil (fun a ha => ⟨rfl, ha.sub (.cons (by rw [g7_3]; rfl) (sub_self_cons (sub_self_cons (sub_self_cons (sub_self_cons (Sub.refl _) rfl) rfl) rfl) rfl))⟩)
        ·
          refine sl_gev (v := .pointer (some ⟨b8, 0, none⟩)) rfl rfl g7_3 (e_fieldB (sz := 1) Try.underlying41 rfl Try.sizeOf9 (by decide) rfl rfl) rfl (by decide) ?_
          refine sl_gev (v := .string (B x.g)) rfl rfl g7_3 (e_load rfl (load1 Try.isAgg9 (hb8.cell (j := 0) rfl))) rfl (by decide) ?_
          refine sl_gev (v := .bool (decide (x.g = [83, 84]))) rfl rfl g7_3 (e_seq rfl rfl) rfl (by decide) ?_
          refine Go.XK.s (v := .bool (decide (x.g = [83, 84]))) (e_pickF rfl g7_3 rfl) ?_
          exact sl_nil (fun a ha => ⟨rfl, ha.sub (.cons (by rw [g7_3]; rfl) (sub_self_cons (sub_self_cons (sub_self_cons (sub_self_cons (Sub.refl _) rfl) rfl) rfl) rfl))⟩)
      refine sl_nil (nrm_k ?_)
      refine sc_if rfl (fun c29 => ?_) (fun c29 => ?_)
      ·
        refine sc_seq ?_
        refine sc_reg ?_
        refine Go.XK.s (v := .slice none 0 0) (e_assign rfl) ?_
        refine Go.XK.s (v := .int .i64 1) (e_assign rfl) ?_
        refine sl_nil (nrm_k ?_)
        refine sc_retf rfl (ret2 Try.results18 (rvt rfl) (rvt rfl) ?_)
        exact ⟨.slice none 0 0, [], by rw [grpR_2 hc0 (any_yes hx c29)], by rw [grpR_2 hc0 (any_yes hx c29)]; rfl, Go.XK.Own.nil _ _ _ _ _, OwG.nil _ _, xw_w5⟩
      ·
        refine sc_skip (nrm_k ?_)
        refine sc_reg ?_
        refine Go.XK.s (v := .int .i64 ((i : Int) + 1)) (e_add rfl rfl (by omega)) ?_
        refine Go.XK.s (v := .int .i64 ((i : Int) + 1)) (e_move rfl) ?_
        refine sl_nil ?_
        exact nrm_loopq rfl _ _ (by omega) ⟨i + 1, rfl, rfl, xw_w5, ⟨by omega, any_no hx hln c29⟩⟩ (.cons rfl (.cons rfl (.cons rfl (.cons rfl (.cons rfl (.nil))))))
    ·
      have hany := any_end hln (by omega)
      refine sc_exit rfl (nrm_k ?_)
      refine sc_seq ?_
      refine sc_seq ?_
      refine sc_reg ?_
      refine Go.XK.s (v := .int .i64 room) (e_move rfl) ?_
      refine Go.XK.s (v := .bool (decide (room < 0))) (e_lt rfl rfl) ?_
      refine Go.XK.s (v := .bool (decide (room < 0))) (e_move rfl) ?_
      refine sl_merge 3 36 (.bool ((decide (room < 0)) || (decide ((254 : Int) < room)))) ?_ ?_
      · refine sl_case (t := 33) rfl (fun g10_2 => ?_) (fun g10_2 => ?_)
        ·
          refine sl_gskip rfl rfl g10_2 (by decide) ?_
          refine sl_gskip rfl rfl g10_2 (by decide) ?_
          refine Go.XK.s (v := .bool true) (e_pickT rfl g10_2 rfl) ?_
          exact sl_nil (fun a ha => ⟨rfl, ha.sub (.cons (by rw [g10_2]; rfl) (sub_self_cons (sub_self_cons (sub_self_cons (Sub.refl _) rfl) rfl) rfl))⟩)
        ·
          refine sl_gev (v := .int .i64 room) rfl rfl g10_2 (e_move rfl) rfl (by decide) ?_
          refine sl_gev (v := .bool (decide ((254 : Int) < room))) rfl rfl g10_2 (e_gt rfl rfl) rfl (by decide) ?_
          refine Go.XK.s (v := .bool (decide ((254 : Int) < room))) (e_pickF rfl g10_2 rfl) ?_
          exact sl_nil (fun a ha => ⟨rfl, ha.sub (.cons (by rw [g10_2]; rfl) (sub_self_cons (sub_self_cons (sub_self_cons (Sub.refl _) rfl) rfl) rfl))⟩)
      refine sl_nil (nrm_k ?_)
      refine sc_if rfl (fun c36 => ?_) (fun c36 => ?_)
      ·
        refine sc_seq ?_
        refine sc_reg ?_
        refine Go.XK.s (v := .slice none 0 0) (e_assign rfl) ?_
        refine Go.XK.s (v := .int .i64 2) (e_assign rfl) ?_
        refine sl_nil (nrm_k ?_)
        refine sc_retf rfl (ret2 Try.results18 (rvt rfl) (rvt rfl) ?_)
        exact ⟨.slice none 0 0, [], by rw [grpR_3 hc0 hany c36], by rw [grpR_3 hc0 hany c36]; rfl, Go.XK.Own.nil _ _ _ _ _, OwG.nil _ _, xw_w2⟩
      ·
        have h36 := c36
        simp only [Bool.or_eq_false_iff, decide_eq_false_iff_not] at h36
        refine sc_skip (nrm_k ?_)
        refine sc_seq ?_
        refine sc_seq ?_
        refine sc_reg ?_
        refine Go.XK.s (v := .slice A l.length c) (e_move rfl) ?_
        refine sl_call ent15 rfl rfl (size_b _ _ _ w2 (hl.ext xw_w2) (by first | omega | (have h_ := szL_take_le l2 (n + 1); omega))) (by decide) ?_
        rintro _ w6 ⟨rfl, hw6⟩
        have xw_w6 : Ext w w6 := Ext.tr xw_w2 hw6
        refine Go.XK.s (v := .int .i64 room) (e_move rfl) ?_
        refine Go.XK.s (v := .bool (decide (room < (szL l : Int)))) (e_gt rfl rfl) ?_
        refine Go.XK.s (v := .bool (decide (room < (szL l : Int)))) (e_move rfl) ?_
        refine sl_merge 3 44 (.bool ((decide (room < (szL l : Int))) && (decide (room < 28)))) ?_ ?_
        · refine sl_case (t := 41) rfl (fun g12_4 => ?_) (fun g12_4 => ?_)
          ·
            refine sl_gev (v := .int .i64 room) rfl rfl g12_4 (e_move rfl) rfl (by decide) ?_
            refine sl_gev (v := .bool (decide (room < 28))) rfl rfl g12_4 (e_lt rfl rfl) rfl (by decide) ?_
            refine Go.XK.s (v := .bool (decide (room < 28))) (e_pickT rfl g12_4 rfl) ?_
            exact sl_nil (fun a ha => ⟨rfl, ha.sub (.cons (by rw [g12_4]; rfl) (sub_self_cons (sub_self_cons (sub_self_cons (Sub.refl _) rfl) rfl) rfl))⟩)
          ·
            refine sl_gskip rfl rfl g12_4 (by decide) ?_
            refine sl_gskip rfl rfl g12_4 (by decide) ?_
            refine Go.XK.s (v := .bool false) (e_pickF rfl g12_4 rfl) ?_
            exact sl_nil (fun a ha => ⟨rfl, ha.sub (.cons (by rw [g12_4]; rfl) (sub_self_cons (sub_self_cons (sub_self_cons (Sub.refl _) rfl) rfl) rfl))⟩)
        refine sl_nil (nrm_k ?_)
        refine sc_if rfl (fun c44 => ?_) (fun c44 => ?_)
        ·
          refine sc_seq ?_
          refine sc_reg ?_
          refine Go.XK.s (v := .slice none 0 0) (e_assign rfl) ?_
          refine Go.XK.s (v := .int .i64 12) (e_assign rfl) ?_
          refine sl_nil (nrm_k ?_)
          refine sc_retf rfl (ret2 Try.results18 (rvt rfl) (rvt rfl) ?_)
          exact ⟨.slice none 0 0, [], by rw [grpR_4 hc0 hany c36 c44], by rw [grpR_4 hc0 hany c36 c44]; rfl, Go.XK.Own.nil _ _ _ _ _, OwG.nil _ _, xw_w6⟩
        ·
          have hG := grpR_5 hc0 hany c36 c44
          have hrm0 : 28 ≤ room ∨ (szL l : Int) ≤ room := by
            simp only [Bool.and_eq_false_iff, decide_eq_false_iff_not] at c44
            omega
          refine sc_skip (nrm_k ?_)
          refine sc_seq ?_
          refine sc_reg ?_
          refine Go.XK.s (v := .slice none 0 0) (e_assign rfl) ?_
          refine sl_nil (nrm_k ?_)
          refine sc_seq ?_
          refine sc_block ?_
          refine sc_loop (fun m_ l_ w_ => ∃ (l2 : List En) (A2 : Option Addr) (c2 : Nat) (rm : Int) (q : Nat) (gs : List Gp) (v_ : Value), m_ = l2.length + (1 - q) ∧ l_ = [(0, .slice A2 l2.length c2), (1, .int .i64 rm), (9, v_)] ∧ Ext w w_ ∧ Go.XK.Own w_ w.heap.size 22 1 encG v_ gs ∧ OwG w_ w.heap.size gs ∧ ((28 ≤ rm ∨ (szL l2 : Int) ≤ rm) ∧ rm ≤ 2048 ∧ (∀ x ∈ l2, szE x ≤ 255) ∧ szL l2 ≤ 261120 ∧ (rm = 2048 ∧ q = 1 ∨ rm ≠ 2048 ∧ q = 0) ∧ gs.length + l2.length ≤ l.length + q) ∧ SlR w A2 c2 3 encE l2 ∧ gs.map (·.l) ++ grp l2 rm = grp l room) _ [(0, .slice A l.length c), (1, .int .i64 room), (9, (.slice none 0 0))] ⟨l, A, c, room, 0, [], .slice none 0 0, rfl, rfl, xw_w6, (Go.XK.Own.nil _ _ _ _ _), (OwG.nil _ _), ⟨⟨by omega, by omega, hx255, hszl, by omega, by simp⟩, hl, rfl⟩⟩ (.cons rfl (.cons rfl (.cons rfl (.nil)))) ?_
          rintro j8 _ w7 ⟨l2, A2, c2, rm, q, gs, v_, rfl, rfl, xw_w7, hoG, hog, ⟨⟨hrm, hrm2, hx2, hsz2, hq, hgl⟩, hl2, hT⟩⟩
          refine sc_seq ?_
          refine sc_seq ?_
          refine sc_reg ?_
          refine Go.XK.s (v := .slice A2 l2.length c2) (e_move rfl) ?_
          refine sl_call ent15 rfl rfl (size_b _ _ _ w7 (hl2.ext xw_w7) (by first | omega | (have h_ := szL_take_le l2 (n + 1); omega))) (by decide) ?_
          rintro _ w9 ⟨rfl, hw9⟩
          have xw_w9 : Ext w w9 := Ext.tr xw_w7 hw9
          replace hoG := hoG.ext hw9
          replace hog := hog.ext hw9
          refine Go.XK.s (v := .int .i64 rm) (e_move rfl) ?_
          refine Go.XK.s (v := .bool (decide (rm < (szL l2 : Int)))) (e_gt rfl rfl) ?_
          refine sl_nil (nrm_k ?_)
          refine sc_ifd rfl (fun c48 => ?_) (fun c48 => ?_)
          ·
            refine sc_skip (nrm_k ?_)
            refine sc_block ?_
            refine sc_seq ?_
            refine sc_reg ?_
            refine Go.XK.s (v := .int .i64 0) (e_assign rfl) ?_
            refine sl_nil (nrm_k ?_)
            refine sc_seq ?_
            refine sc_block ?_
            refine sc_loop (fun m_ l_ w_ => ∃ (n : Nat), m_ = l2.length - n ∧ l_ = [(10, .int .i64 (n : Int)), (0, .slice A2 l2.length c2), (1, .int .i64 rm), (9, v_)] ∧ Ext w w_ ∧ Go.XK.Own w_ w.heap.size 22 1 encG v_ gs ∧ OwG w_ w.heap.size gs ∧ (n ≤ l2.length ∧ (szL (l2.take n) : Int) ≤ rm - 28) ∧ frontN l2 (rm - 28) = n + frontN (l2.drop n) (rm - 28 - szL (l2.take n))) _ [(10, .int .i64 (0 : Int)), (0, .slice A2 l2.length c2), (1, .int .i64 rm), (9, v_)] ⟨0, rfl, rfl, xw_w9, hoG, hog, ⟨⟨by omega, by simp [szL]; omega⟩, by simp [szL]⟩⟩ (.cons rfl (.cons rfl (.cons rfl (.cons rfl (.nil))))) ?_
            rintro j11 _ w10 ⟨n, rfl, rfl, xw_w10, hoG, hog, ⟨⟨hn, hfit⟩, hf⟩⟩
            have hnl0 := fits_lt hfit c48
            obtain ⟨x, hx⟩ : ∃ x, l2[n]? = some x := ⟨_, List.getElem?_eq_getElem (by omega)⟩
            refine sc_seq ?_
            refine sc_seq ?_
            refine sc_reg ?_
            refine Go.XK.s (v := .slice A2 l2.length c2) (e_move rfl) ?_
            refine Go.XK.s (v := .int .i64 (n : Int)) (e_move rfl) ?_
            refine Go.XK.s (v := .int .i64 ((n : Int) + 1)) (e_add rfl rfl (by omega)) ?_
            refine s_slS 0 (n + 1) (l2.take (n + 1)) Try.underlying22 Try.sizeOf41 rfl hl2 rfl Bd.no (Bd.at_ rfl (by omega)) (by omega) (by omega) (by first | rfl | simp) ?_
            intro As52 cs52 hs52
            refine sl_call ent15 rfl rfl (size_b _ _ _ w10 (hs52.ext xw_w10) (by first | omega | (have h_ := szL_take_le l2 (n + 1); omega))) (by decide) ?_
            rintro _ w12 ⟨rfl, hw12⟩
            have xw_w12 : Ext w w12 := Ext.tr xw_w10 hw12
            replace hoG := hoG.ext hw12
            replace hog := hog.ext hw12
            refine Go.XK.s (v := .int .i64 rm) (e_move rfl) ?_
            refine Go.XK.s (v := .int .i64 (rm - 28)) (e_sub rfl rfl (by omega)) ?_
            refine Go.XK.s (v := .bool (decide ((szL (l2.take (n + 1)) : Int) ≤ rm - 28))) (e_le rfl rfl) ?_
            refine sl_nil (nrm_k ?_)
            refine sc_ifd rfl (fun c56 => ?_) (fun c56 => ?_)
            ·
              refine sc_skip (nrm_k ?_)
              refine sc_block ?_
              refine sc_reg ?_
              refine Go.XK.s (v := .int .i64 (n : Int)) (e_move rfl) ?_
              refine Go.XK.s (v := .int .i64 ((n : Int) + 1)) (e_add rfl rfl (by omega)) ?_
              refine Go.XK.s (v := .int .i64 ((n : Int) + 1)) (e_assign rfl) ?_
              refine sl_nil ?_
              exact nrm_loopq rfl _ _ (by omega) ⟨n + 1, rfl, rfl, xw_w12, hoG, hog, ⟨⟨by omega, c56⟩, front_step hx hf c56⟩⟩ (.cons rfl (.cons rfl (.cons rfl (.cons rfl (.nil)))))
            ·
              have hfn := front_stop hx hf c56
              have hnl := front_le l2 (rm - 28)
              have hnp : n = 0 → rm ≠ 2048 := fun h0 e_ => by
                have hne : l2 ≠ [] := fun e2 => by rw [e2] at c48; simp [szL] at c48; omega
                have h_ := front_pos (r := rm - 28) hne (fun x_ hx_ => by have := hx2 x_ hx_; omega)
                omega
              refine sc_exit rfl (nrm_k ?_)
              refine sc_seq ?_
              refine sc_reg ?_
              refine Go.XK.s (v := v_) (e_move rfl) ?_
              have hlt_ := OwG.lt hog
              refine s_bslice (vs := []) (e := 41) rfl [] (by kernel_rfl) ?_
              intro b60 w13 hb60 he60 hs60 hx60
              have no_b60_hoG : Value.ownBlock v_ ≠ some b60 := fun h_ => by have h2_ := (Go.XK.Own.lt hoG _ h_).2; omega
              have ge_b60 : w.heap.size ≤ b60 := by have h_ := (Below.size xw_w12); omega
              have xw_w13 : Ext w w13 := Ext.tr xw_w12 hx60
              replace hoG := hoG.ext hx60
              replace hog := hog.ext hx60
              have ho60 : Go.XK.Own w13 w.heap.size 41 3 encE (.slice (some ⟨b60, 0, none⟩) 0 0) [] := Go.XK.Own.ofBlk (xs := []) hb60 ge_b60 (fun _ => rfl) (by simp)
              refine Go.XK.s (v := .slice A2 l2.length c2) (e_move rfl) ?_
              refine Go.XK.s (v := .int .i64 (n : Int)) (e_move rfl) ?_
              refine s_slS 0 n (l2.take n) Try.underlying22 Try.sizeOf41 rfl hl2 rfl Bd.no (Bd.at_ rfl (by omega)) (by omega) (by omega) (by first | rfl | simp) ?_
              intro As63 cs63 hs63
              refine s_appendRd (w0 := w) (z := .agg #[.string (B []), .int .i64 0, .string (B [])]) (kk := 3) (bytes := 40) rfl rfl Try.underlying22 (by kernel_rfl) rfl (by decide) (fun _ => rfl) one_encE (l2.take n) ho60 xw_w13 (hs63.ext xw_w13) rfl (by first | omega | (simp only [maxLen]; omega) | (simp; omega) | (simp only [maxLen]; simp; omega)) (by first | omega | (simp only [maxLen]; omega) | (simp; omega) | (simp only [maxLen]; simp; omega)) ?_
              intro v64 w14 ho64 xw_w14 hg64 hat64
              rw [List.nil_append] at ho64
              replace hoG := Go.XK.Own.other hoG ho60 hg64 (by decide)
              replace hog := OwG.fresh hog (fun g_ hg_ k_ hk_ => he60 ▸ hlt_ g_ hg_ k_ hk_) hg64 rfl
              obtain ⟨AJ, cJ, eJ_, hlcJ, hcmJ, _⟩ := Go.XK.Own.shape ho64 (fun _ => rfl)
              subst eJ_
              refine s_bslice (vs := [(0, .slice AJ (l2.take n).length cJ)]) (e := 22) rfl [.slice AJ (l2.take n).length cJ] (by kernel_rfl) ?_
              intro b65 w15 hb65 he65 hs65 hx65
              have no_b65_hoG : Value.ownBlock v_ ≠ some b65 := fun h_ => by have h2_ := (Go.XK.Own.lt hoG _ h_).2; omega
              have no_b65_ho64 : Value.ownBlock (.slice AJ ((l2.take n).length) cJ) ≠ some b65 := fun h_ => by have h2_ := (Go.XK.Own.lt ho64 _ h_).2; omega
              have ge_b65 : w.heap.size ≤ b65 := by have h_ := (Below.size xw_w14); omega
              have xw_w15 : Ext w w15 := Ext.tr xw_w14 hx65
              replace hoG := hoG.ext hx65
              replace hog := hog.ext hx65
              replace ho64 := ho64.ext hx65
              refine s_appendLit2 (w0 := w) (z := .slice none 0 0) (kk := 1) (bytes := 24) rfl rfl Try.underlying33 (by kernel_rfl) rfl (by decide) (fun _ => rfl) one_encG [(⟨l2.take n, AJ, cJ⟩ : Gp)] hoG xw_w15 hb65 rfl rfl (by first | omega | (simp only [maxLen]; omega) | (simp; omega) | (simp only [maxLen]; simp; omega)) (by first | omega | (simp only [maxLen]; omega) | (simp; omega) | (simp only [maxLen]; simp; omega)) ?_
              intro v66 w16 ho66 xw_w16 hg66 hat66
              replace hb65 := hb65.grown hg66 no_b65_hoG
              replace hog := OwG.other hog hoG hg66 (by decide)
              replace ho64 := Go.XK.Own.other ho64 hoG hg66 (by decide)
              replace hog := OwG.snoc hog (g := (⟨l2.take n, AJ, cJ⟩ : Gp)) ho64
              refine Go.XK.s (v := v66) (e_assign rfl) ?_
              refine sl_nil (nrm_k ?_)
              refine sc_reg ?_
              refine Go.XK.s (v := .slice A2 l2.length c2) (e_move rfl) ?_
              refine Go.XK.s (v := .int .i64 (n : Int)) (e_move rfl) ?_
              refine s_slS n l2.length (l2.drop n) Try.underlying22 Try.sizeOf41 rfl hl2 rfl (Bd.at_ rfl (by omega)) Bd.no (by omega) (by omega) (by first | rfl | simp) ?_
              intro As69 cs69 hs69
              refine Go.XK.s (v := .slice As69 (l2.drop n).length cs69) (e_assign rfl) ?_
              refine Go.XK.s (v := .int .i64 2048) (e_assign rfl) ?_
              refine sl_nil ?_
              exact nrm_loopq rfl _ _ (by (rw [List.length_drop]; omega)) ⟨l2.drop n, As69, cs69, 2048, 1, gs ++ [(⟨l2.take n, AJ, cJ⟩ : Gp)], v66, rfl, rfl, xw_w16, ho66, hog, ⟨⟨.inl (by omega), by omega, fun x_ hx_ => hx2 x_ (List.mem_of_mem_drop hx_), by have h_ := szL_drop_le l2 n; omega, by omega, by rw [List.length_append, List.length_drop, List.length_singleton]; omega⟩, hs69, grp_next (T := l2) hx2 c48 hfn hT⟩⟩ (.cons rfl (.cons rfl (.cons rfl (.nil))))
          ·
            rw [grp_end c48] at hT
            have hTl : (grp l room).length = gs.length + 1 := by rw [← hT]; simp
            refine sc_exit rfl (nrm_k ?_)
            refine sc_seq ?_
            refine sc_seq ?_
            refine sc_reg ?_
            refine Go.XK.s (v := v_) (e_move rfl) ?_
            refine Go.XK.s (v := .int .i64 (gs.length : Int)) (e_lenOwn Try.underlying33 rfl hoG (fun _ => rfl)) ?_
            refine Go.XK.s (v := .bool (decide ((64 : Int) ≤ (gs.length : Int)))) (e_ge rfl rfl) ?_
            refine sl_nil (nrm_k ?_)
            refine sc_ifd rfl (fun c72 => ?_) (fun c72 => ?_)
            ·
              refine sc_seq ?_
              refine sc_reg ?_
              refine Go.XK.s (v := .slice none 0 0) (e_assign rfl) ?_
              refine Go.XK.s (v := .int .i64 7) (e_assign rfl) ?_
              refine sl_nil (nrm_k ?_)
              refine sc_retf rfl (ret2 Try.results18 (rvt rfl) (rvt rfl) ?_)
              exact ⟨.slice none 0 0, [], by rw [hG.trans (if_pos (by rw [hTl]; omega))], by rw [hG.trans (if_pos (by rw [hTl]; omega))]; rfl, Go.XK.Own.nil _ _ _ _ _, OwG.nil _ _, xw_w9⟩
            ·
              refine sc_skip (nrm_k ?_)
              refine sc_seq ?_
              refine sc_reg ?_
              refine Go.XK.s (v := v_) (e_move rfl) ?_
              have hlt_ := OwG.lt hog
              refine s_bslice (vs := []) (e := 41) rfl [] (by kernel_rfl) ?_
              intro b74 w17 hb74 he74 hs74 hx74
              have no_b74_hoG : Value.ownBlock v_ ≠ some b74 := fun h_ => by have h2_ := (Go.XK.Own.lt hoG _ h_).2; omega
              have ge_b74 : w.heap.size ≤ b74 := by have h_ := (Below.size xw_w9); omega
              have xw_w17 : Ext w w17 := Ext.tr xw_w9 hx74
              replace hoG := hoG.ext hx74
              replace hog := hog.ext hx74
              have ho74 : Go.XK.Own w17 w.heap.size 41 3 encE (.slice (some ⟨b74, 0, none⟩) 0 0) [] := Go.XK.Own.ofBlk (xs := []) hb74 ge_b74 (fun _ => rfl) (by simp)
              refine Go.XK.s (v := .slice A2 l2.length c2) (e_move rfl) ?_
              refine s_appendRd (w0 := w) (z := .agg #[.string (B []), .int .i64 0, .string (B [])]) (kk := 3) (bytes := 40) rfl rfl Try.underlying22 (by kernel_rfl) rfl (by decide) (fun _ => rfl) one_encE l2 ho74 xw_w17 (hl2.ext xw_w17) rfl (by first | omega | (simp only [maxLen]; omega) | (simp; omega) | (simp only [maxLen]; simp; omega)) (by first | omega | (simp only [maxLen]; omega) | (simp; omega) | (simp only [maxLen]; simp; omega)) ?_
              intro v76 w18 ho76 xw_w18 hg76 hat76
              rw [List.nil_append] at ho76
              replace hoG := Go.XK.Own.other hoG ho74 hg76 (by decide)
              replace hog := OwG.fresh hog (fun g_ hg_ k_ hk_ => he74 ▸ hlt_ g_ hg_ k_ hk_) hg76 rfl
              obtain ⟨AK, cK, eK_, hlcK, hcmK, _⟩ := Go.XK.Own.shape ho76 (fun _ => rfl)
              subst eK_
              refine s_bslice (vs := [(0, .slice AK l2.length cK)]) (e := 22) rfl [.slice AK l2.length cK] (by kernel_rfl) ?_
              intro b77 w19 hb77 he77 hs77 hx77
              have no_b77_hoG : Value.ownBlock v_ ≠ some b77 := fun h_ => by have h2_ := (Go.XK.Own.lt hoG _ h_).2; omega
              have no_b77_ho76 : Value.ownBlock (.slice AK l2.length cK) ≠ some b77 := fun h_ => by have h2_ := (Go.XK.Own.lt ho76 _ h_).2; omega
              have ge_b77 : w.heap.size ≤ b77 := by have h_ := (Below.size xw_w18); omega
              have xw_w19 : Ext w w19 := Ext.tr xw_w18 hx77
              replace hoG := hoG.ext hx77
              replace hog := hog.ext hx77
              replace ho76 := ho76.ext hx77
              refine s_appendLit2 (w0 := w) (z := .slice none 0 0) (kk := 1) (bytes := 24) rfl rfl Try.underlying33 (by kernel_rfl) rfl (by decide) (fun _ => rfl) one_encG [(⟨l2, AK, cK⟩ : Gp)] hoG xw_w19 hb77 rfl rfl (by first | omega | (simp only [maxLen]; omega) | (simp; omega) | (simp only [maxLen]; simp; omega)) (by first | omega | (simp only [maxLen]; omega) | (simp; omega) | (simp only [maxLen]; simp; omega)) ?_
              intro v78 w20 ho78 xw_w20 hg78 hat78
              replace hb77 := hb77.grown hg78 no_b77_hoG
              replace hog := OwG.other hog hoG hg78 (by decide)
              replace ho76 := Go.XK.Own.other ho76 hoG hg78 (by decide)
              replace hog := OwG.snoc hog (g := (⟨l2, AK, cK⟩ : Gp)) ho76
              refine Go.XK.s (v := v78) (e_assign rfl) ?_
              refine Go.XK.s (v := .int .i64 0) (e_assign rfl) ?_
              refine sl_nil (nrm_k ?_)
              refine sc_retf rfl (ret2 Try.results18 (rvt rfl) (rvt rfl) ?_)
              have hG2 := hG.trans (if_neg (show ¬ (64 : Int) < ((grp l room).length : Int) by rw [hTl]; omega))
              exact ⟨_, gs ++ [(⟨l2, AK, cK⟩ : Gp)], by rw [hG2], by rw [hG2, ← hT]; simp, ho78, hog, xw_w20⟩

/-- masterdisc/masterdiscref24.Groups (function 19) -/
theorem rgroups_c (l : List En) (A : Option Addr) (c : Nat) (room : Int) (w : World) (hl : SlR w A c 3 encE l) : CallR Try.prog 19 [.slice A l.length c, .int .i64 room] w (fun v w' => ∃ v1 gs, v = .tuple #[v1, .int .i64 (grpR l room).2] ∧ gs.map (·.l) = (grpR l room).1 ∧ Go.XK.Own w' w.heap.size 22 1 encG v1 gs ∧ OwG w' w.heap.size gs ∧ Ext w w') := by
  have hmx0 := hl.lenle
  simp only [maxLen] at hmx0
  refine callR_of (n := 78) [(0, .slice A l.length c), (1, .int .i64 room)] Try.func19 rfl rfl (Nat.le_of_ble_eq_true rfl) rfl ?_
  refine sc_seq ?_
  refine sc_reg ?_
  refine Go.XK.s (v := .slice none 0 0) (e_assign rfl) ?_
  refine Go.XK.s (v := .int .i64 0) (e_assign rfl) ?_
  refine sl_nil (nrm_k ?_)
  refine sc_seq ?_
  refine sc_seq ?_
  refine sc_reg ?_
  refine Go.XK.s (v := .slice A l.length c) (e_move rfl) ?_
  refine sl_call ent48 rfl rfl (rcheck_c _ _ _ w (hl.ext (Ext.rfl' w))) (by decide) ?_
  rintro _ w1 ⟨rfl, hw1⟩
  have xw_w1 : Ext w w1 := Ext.tr (Ext.rfl' w) hw1
  refine Go.XK.s (v := .int .i64 (chkR l)) (e_assign rfl) ?_
  refine sl_nil (nrm_k ?_)
  refine sc_seq ?_
  refine sc_reg ?_
  refine Go.XK.s (v := .int .i64 (chkR l)) (e_move rfl) ?_
  refine Go.XK.s (v := .bool (decide (chkR l ≠ 0))) (e_ne rfl rfl) ?_
  refine sl_nil (nrm_k ?_)
  refine sc_ifd rfl (fun c13 => ?_) (fun c13 => ?_)
  ·
    refine sc_seq ?_
    refine sc_reg ?_
    refine Go.XK.s (v := .int .i64 (chkR l)) (e_move rfl) ?_
    refine Go.XK.s (v := .slice none 0 0) (e_assign rfl) ?_
    refine Go.XK.s (v := .int .i64 (chkR l)) (e_assign rfl) ?_
    refine sl_nil (nrm_k ?_)
    refine sc_retf rfl (ret2 Try.results19 (rvt rfl) (rvt rfl) ?_)
    exact ⟨.slice none 0 0, [], by rw [grpR_1 c13], by rw [grpR_1 c13]; rfl, Go.XK.Own.nil _ _ _ _ _, OwG.nil _ _, xw_w1⟩
  ·
    have hc0 : chkR l = 0 := Classical.not_not.1 c13
    have hok := chkR_zero hc0
    obtain ⟨hx255, hszl⟩ := ok_sz hok
    refine sc_skip (nrm_k ?_)
    refine sc_seq ?_
    refine sc_seq ?_
    refine sc_reg ?_
    refine Go.XK.s (v := .int .i64 0) (e_assign rfl) ?_
    refine sl_nil (nrm_k ?_)
    refine sc_block ?_
    refine sc_loop (fun m_ l_ w_ => ∃ (i : Nat), m_ = l.length - i ∧ l_ = [(7, .int .i64 (i : Int)), (0, .slice A l.length c), (1, .int .i64 room)] ∧ Ext w w_ ∧ i ≤ l.length ∧ (l.take i).any linkB = false) _ [(7, .int .i64 (0 : Int)), (0, .slice A l.length c), (1, .int .i64 room)] ⟨0, rfl, rfl, xw_w1, ⟨by omega, rfl⟩⟩ (.cons rfl (.cons rfl (.cons rfl (.nil)))) ?_
    rintro j3 _ w2 ⟨i, rfl, rfl, xw_w2, ⟨hi, hln⟩⟩
    refine sc_seq ?_
    refine sc_seq ?_
    refine sc_reg ?_
    refine Go.XK.s (v := .int .i64 (i : Int)) (e_move rfl) ?_
    refine Go.XK.s (v := .slice A l.length c) (e_move rfl) ?_
    refine Go.XK.s (v := .int .i64 (l.length : Int)) (e_len Try.underlying22 rfl) ?_
    refine Go.XK.s (v := .bool (decide ((i : Int) < (l.length : Int)))) (e_lt rfl rfl) ?_
    refine sl_nil (nrm_k ?_)
    refine sc_ifd rfl (fun c18 => ?_) (fun c18 => ?_)
    ·
      obtain ⟨x, hx⟩ : ∃ x, l[i]? = some x := ⟨_, List.getElem?_eq_getElem (by omega)⟩
      refine sc_skip (nrm_k ?_)
      refine sc_seq ?_
      refine sc_block ?_
      refine sc_seq ?_
      refine sc_reg ?_
      refine Go.XK.s (v := .slice A l.length c) (e_move rfl) ?_
      refine Go.XK.s (v := .int .i64 (i : Int)) (e_move rfl) ?_
      refine Go.XK.s (v := .pointer (some (el A 3 (i : Int) 0))) (e_idxEl (e := x) Try.underlying22 Try.sizeOf41 rfl rfl (hl.1.ext xw_w2) hx (by omega) rfl) ?_
      refine Go.XK.s (v := .pointer (some (el A 3 (i : Int) 0))) (e_fieldEl (fsz := 1) Try.underlying41 rfl Try.sizeOf9 (by decide) rfl rfl) ?_
      refine Go.XK.s (v := .string (B x.g)) (e_ldEl (xs := l) (enc := encE) (e := x) rfl (hl.1.ext xw_w2) hx Try.isAgg9 rfl) ?_
      refine Go.XK.s (v := .bool (decide (x.g = [67, 69]))) (e_seq rfl rfl) ?_
      refine Go.XK.s (v := .bool (decide (x.g = [67, 69]))) (e_move rfl) ?_
      refine sl_merge 7 34 (.bool ((decide (x.g = [67, 69])) || (decide (x.g = [83, 84])))) ?_ ?_
      · refine sl_case (t := 27) rfl (fun g7_6 => ?_) (fun g7_6 => ?_)
        ·
          refine sl_gskip rfl rfl g7_6 (by decide) ?_
          refine sl_gskip rfl rfl g7_6 (by decide) ?_
          refine sl_gskip rfl rfl g7_6 (by decide) ?_
          refine sl_gskip rfl rfl g7_6 (by decide) ?_
          refine sl_gskip rfl rfl g7_6 (by decide) ?_
          refine sl_gskip rfl rfl g7_6 (by decide) ?_
          refine Go.XK.s (v := .bool true) (e_pickT rfl g7_6 rfl) ?_
          exact sl_nil (fun a ha => ⟨rfl, ha.sub (.cons (by rw [g7_6]; rfl) (sub_self_cons (sub_self_cons (sub_self_cons (sub_self_cons (sub_self_cons (sub_self_cons (sub_self_cons (Sub.refl _) rfl) rfl) rfl) rfl) rfl) rfl) rfl))⟩)
        ·
          refine sl_gev (v := .slice A l.length c) rfl rfl g7_6 (e_move rfl) rfl (by decide) ?_
          refine sl_gev (v := .int .i64 (i : Int)) rfl rfl g7_6 (e_move rfl) rfl (by decide) ?_
          refine sl_gev (v := .pointer (some (el A 3 (i : Int) 0))) rfl rfl g7_6 (e_idxEl (e := x) Try.underlying22 Try.sizeOf41 rfl rfl (hl.1.ext xw_w2) hx (by omega) rfl) rfl (by decide) ?_
          refine sl_gev (v := .pointer (some (el A 3 (i : Int) 0))) rfl rfl g7_6 (e_fieldEl (fsz := 1) Try.underlying41 rfl Try.sizeOf9 (by decide) rfl rfl) rfl (by decide) ?_
          refine sl_gev (v := .string (B x.g)) rfl rfl g7_6 (e_ldEl (xs := l) (enc := encE) (e := x) rfl (hl.1.ext xw_w2) hx Try.isAgg9 rfl) rfl (by decide) ?_
          refine sl_gev (v := .bool (decide (x.g = [83, 84]))) rfl rfl g7_6 (e_seq rfl rfl) rfl (by decide) ?_
          refine Go.XK.s (v := .bool (decide (x.g = [83, 84]))) (e_pickF rfl g7_6 rfl) ?_
          exact sl_nil (fun a ha => ⟨rfl, ha.sub (.cons (by rw [g7_6]; rfl) (sub_self_cons (sub_self_cons (sub_self_cons (sub_self_cons (sub_self_cons (sub_self_cons (sub_self_cons (Sub.refl _) rfl) rfl) rfl) rfl) rfl) rfl) rfl))⟩)
      refine sl_nil (nrm_k ?_)
      refine sc_if rfl (fun c34 => ?_) (fun c34 => ?_)
      ·
        refine sc_seq ?_
        refine sc_reg ?_
        refine Go.XK.s (v := .slice none 0 0) (e_assign rfl) ?_
        refine Go.XK.s (v := .int .i64 1) (e_assign rfl) ?_
        refine sl_nil (nrm_k ?_)
        refine sc_retf rfl (ret2 Try.results19 (rvt rfl) (rvt rfl) ?_)
        exact ⟨.slice none 0 0, [], by rw [grpR_2 hc0 (any_yes hx c34)], by rw [grpR_2 hc0 (any_yes hx c34)]; rfl, Go.XK.Own.nil _ _ _ _ _, OwG.nil _ _, xw_w2⟩
      ·
        refine sc_skip (nrm_k ?_)
        refine sc_reg ?_
        refine Go.XK.s (v := .int .i64 (i : Int)) (e_move rfl) ?_
        refine Go.XK.s (v := .int .i64 ((i : Int) + 1)) (e_add rfl rfl (by omega)) ?_
        refine Go.XK.s (v := .int .i64 ((i : Int) + 1)) (e_assign rfl) ?_
        refine sl_nil ?_
        exact nrm_loopq rfl _ _ (by omega) ⟨i + 1, rfl, rfl, xw_w2, ⟨by omega, any_no hx hln c34⟩⟩ (.cons rfl (.cons rfl (.cons rfl (.nil))))
    ·
      have hany := any_end hln (by omega)
      refine sc_exit rfl (nrm_k ?_)
      refine sc_seq ?_
      refine sc_seq ?_
      refine sc_reg ?_
      refine Go.XK.s (v := .int .i64 room) (e_move rfl) ?_
      refine Go.XK.s (v := .bool (decide (room < 0))) (e_lt rfl rfl) ?_
      refine Go.XK.s (v := .bool (decide (room < 0))) (e_move rfl) ?_
      refine sl_merge 3 40 (.bool ((decide (room < 0)) || (decide ((254 : Int) < room)))) ?_ ?_
      · refine sl_case (t := 37) rfl (fun g9_2 => ?_) (fun g9_2 => ?_)
        ·
          refine sl_gskip rfl rfl g9_2 (by decide) ?_
          refine sl_gskip rfl rfl g9_2 (by decide) ?_
          refine Go.XK.s (v := .bool true) (e_pickT rfl g9_2 rfl) ?_
          exact sl_nil (fun a ha => ⟨rfl, ha.sub (.cons (by rw [g9_2]; rfl) (sub_self_cons (sub_self_cons (sub_self_cons (Sub.refl _) rfl) rfl) rfl))⟩)
        ·
          refine sl_gev (v := .int .i64 room) rfl rfl g9_2 (e_move rfl) rfl (by decide) ?_
          refine sl_gev (v := .bool (decide ((254 : Int) < room))) rfl rfl g9_2 (e_gt rfl rfl) rfl (by decide) ?_
          refine Go.XK.s (v := .bool (decide ((254 : Int) < room))) (e_pickF rfl g9_2 rfl) ?_
          exact sl_nil (fun a ha => ⟨rfl, ha.sub (.cons (by rw [g9_2]; rfl) (sub_self_cons (sub_self_cons (sub_self_cons (Sub.refl _) rfl) rfl) rfl))⟩)
      refine sl_nil (nrm_k ?_)
      refine sc_if rfl (fun c40 => ?_) (fun c40 => ?_)
      ·
        refine sc_seq ?_
        refine sc_reg ?_
        refine Go.XK.s (v := .slice none 0 0) (e_assign rfl) ?_
        refine Go.XK.s (v := .int .i64 2) (e_assign rfl) ?_
        refine sl_nil (nrm_k ?_)
        refine sc_retf rfl (ret2 Try.results19 (rvt rfl) (rvt rfl) ?_)
        exact ⟨.slice none 0 0, [], by rw [grpR_3 hc0 hany c40], by rw [grpR_3 hc0 hany c40]; rfl, Go.XK.Own.nil _ _ _ _ _, OwG.nil _ _, xw_w2⟩
      ·
        have h36 := c40
        simp only [Bool.or_eq_false_iff, decide_eq_false_iff_not] at h36
        refine sc_skip (nrm_k ?_)
        refine sc_seq ?_
        refine sc_seq ?_
        refine sc_reg ?_
        refine Go.XK.s (v := .slice A l.length c) (e_move rfl) ?_
        refine sl_call ent16 rfl rfl (rsize_b _ _ _ w2 (hl.ext xw_w2) (by omega)) (by decide) ?_
        rintro _ w4 ⟨rfl, hw4⟩
        have xw_w4 : Ext w w4 := Ext.tr xw_w2 hw4
        refine Go.XK.s (v := .int .i64 room) (e_move rfl) ?_
        refine Go.XK.s (v := .bool (decide (room < (szL l : Int)))) (e_gt rfl rfl) ?_
        refine Go.XK.s (v := .bool (decide (room < (szL l : Int)))) (e_move rfl) ?_
        refine sl_merge 3 48 (.bool ((decide (room < (szL l : Int))) && (decide (room < 28)))) ?_ ?_
        · refine sl_case (t := 45) rfl (fun g11_4 => ?_) (fun g11_4 => ?_)
          ·
            refine sl_gev (v := .int .i64 room) rfl rfl g11_4 (e_move rfl) rfl (by decide) ?_
            refine sl_gev (v := .bool (decide (room < 28))) rfl rfl g11_4 (e_lt rfl rfl) rfl (by decide) ?_
            refine Go.XK.s (v := .bool (decide (room < 28))) (e_pickT rfl g11_4 rfl) ?_
            exact sl_nil (fun a ha => ⟨rfl, ha.sub (.cons (by rw [g11_4]; rfl) (sub_self_cons (sub_self_cons (sub_self_cons (Sub.refl _) rfl) rfl) rfl))⟩)
          ·
            refine sl_gskip rfl rfl g11_4 (by decide) ?_
            refine sl_gskip rfl rfl g11_4 (by decide) ?_
            refine Go.XK.s (v := .bool false) (e_pickF rfl g11_4 rfl) ?_
            exact sl_nil (fun a ha => ⟨rfl, ha.sub (.cons (by rw [g11_4]; rfl) (sub_self_cons (sub_self_cons (sub_self_cons (Sub.refl _) rfl) rfl) rfl))⟩)
        refine sl_nil (nrm_k ?_)
        refine sc_if rfl (fun c48 => ?_) (fun c48 => ?_)
        ·
          refine sc_seq ?_
          refine sc_reg ?_
          refine Go.XK.s (v := .slice none 0 0) (e_assign rfl) ?_
          refine Go.XK.s (v := .int .i64 12) (e_assign rfl) ?_
          refine sl_nil (nrm_k ?_)
          refine sc_retf rfl (ret2 Try.results19 (rvt rfl) (rvt rfl) ?_)
          exact ⟨.slice none 0 0, [], by rw [grpR_4 hc0 hany c40 c48], by rw [grpR_4 hc0 hany c40 c48]; rfl, Go.XK.Own.nil _ _ _ _ _, OwG.nil _ _, xw_w4⟩
        ·
          have hG := grpR_5 hc0 hany c40 c48
          have hrm0 : 28 ≤ room ∨ (szL l : Int) ≤ room := by
            simp only [Bool.and_eq_false_iff, decide_eq_false_iff_not] at c48
            omega
          refine sc_skip (nrm_k ?_)
          refine sc_seq ?_
          refine sc_reg ?_
          refine Go.XK.s (v := .slice none 0 0) (e_assign rfl) ?_
          refine sl_nil (nrm_k ?_)
          refine sc_seq ?_
          refine sc_block ?_
          refine sc_loop (fun m_ l_ w_ => ∃ (l2 : List En) (A2 : Option Addr) (c2 : Nat) (rm : Int) (q : Nat) (gs : List Gp) (v_ : Value), m_ = l2.length + (1 - q) ∧ l_ = [(0, .slice A2 l2.length c2), (1, .int .i64 rm), (8, v_)] ∧ Ext w w_ ∧ Go.XK.Own w_ w.heap.size 22 1 encG v_ gs ∧ OwG w_ w.heap.size gs ∧ ((28 ≤ rm ∨ (szL l2 : Int) ≤ rm) ∧ rm ≤ 2048 ∧ (∀ x ∈ l2, szE x ≤ 255) ∧ szL l2 ≤ 261120 ∧ (rm = 2048 ∧ q = 1 ∨ rm ≠ 2048 ∧ q = 0) ∧ gs.length + l2.length ≤ l.length + q) ∧ SlR w A2 c2 3 encE l2 ∧ gs.map (·.l) ++ grp l2 rm = grp l room) _ [(0, .slice A l.length c), (1, .int .i64 room), (8, (.slice none 0 0))] ⟨l, A, c, room, 0, [], .slice none 0 0, rfl, rfl, xw_w4, (Go.XK.Own.nil _ _ _ _ _), (OwG.nil _ _), ⟨⟨by omega, by omega, hx255, hszl, by omega, by simp⟩, hl, rfl⟩⟩ (.cons rfl (.cons rfl (.cons rfl (.nil)))) ?_
          rintro j6 _ w5 ⟨l2, A2, c2, rm, q, gs, v_, rfl, rfl, xw_w5, hoG, hog, ⟨⟨hrm, hrm2, hx2, hsz2, hq, hgl⟩, hl2, hT⟩⟩
          refine sc_seq ?_
          refine sc_seq ?_
          refine sc_reg ?_
          refine Go.XK.s (v := .slice A2 l2.length c2) (e_move rfl) ?_
          refine sl_call ent16 rfl rfl (rsize_b _ _ _ w5 (hl2.ext xw_w5) (by omega)) (by decide) ?_
          rintro _ w7 ⟨rfl, hw7⟩
          have xw_w7 : Ext w w7 := Ext.tr xw_w5 hw7
          replace hoG := hoG.ext hw7
          replace hog := hog.ext hw7
          refine Go.XK.s (v := .int .i64 rm) (e_move rfl) ?_
          refine Go.XK.s (v := .bool (decide (rm < (szL l2 : Int)))) (e_gt rfl rfl) ?_
          refine sl_nil (nrm_k ?_)
          refine sc_ifd rfl (fun c52 => ?_) (fun c52 => ?_)
          ·
            refine sc_skip (nrm_k ?_)
            refine sc_block ?_
            refine sc_seq ?_
            refine sc_reg ?_
            refine Go.XK.s (v := .slice A2 l2.length c2) (e_move rfl) ?_
            refine Go.XK.s (v := .int .i64 rm) (e_move rfl) ?_
            refine Go.XK.s (v := .int .i64 (rm - 28)) (e_sub rfl rfl (by omega)) ?_
            refine sl_call ent51 rfl rfl (front_c _ _ _ (rm - 28) w7 (hl2.ext xw_w7) (by omega)) (by decide) ?_
            rintro _ w8 ⟨rfl, hw8⟩
            have xw_w8 : Ext w w8 := Ext.tr xw_w7 hw8
            replace hoG := hoG.ext hw8
            replace hog := hog.ext hw8
            refine Go.XK.s (v := .int .i64 (frontN l2 (rm - 28) : Int)) (e_assign rfl) ?_
            refine sl_nil (nrm_k ?_)
            refine sc_seq ?_
            obtain ⟨n, hfn⟩ : ∃ n, frontN l2 (rm - 28) = n := ⟨_, rfl⟩
            have hnl := front_le l2 (rm - 28)
            have hnp : n = 0 → rm ≠ 2048 := fun h0 e_ => by
              have hne : l2 ≠ [] := fun e2 => by rw [e2] at c52; simp [szL] at c52; omega
              have h_ := front_pos (r := rm - 28) hne (fun x_ hx_ => by have := hx2 x_ hx_; omega)
              omega
            refine sc_reg ?_
            refine Go.XK.s (v := v_) (e_move rfl) ?_
            have hlt_ := OwG.lt hog
            refine s_bslice (vs := []) (e := 41) rfl [] (by kernel_rfl) ?_
            intro b58 w9 hb58 he58 hs58 hx58
            have no_b58_hoG : Value.ownBlock v_ ≠ some b58 := fun h_ => by have h2_ := (Go.XK.Own.lt hoG _ h_).2; omega
            have ge_b58 : w.heap.size ≤ b58 := by have h_ := (Below.size xw_w8); omega
            have xw_w9 : Ext w w9 := Ext.tr xw_w8 hx58
            replace hoG := hoG.ext hx58
            replace hog := hog.ext hx58
            have ho58 : Go.XK.Own w9 w.heap.size 41 3 encE (.slice (some ⟨b58, 0, none⟩) 0 0) [] := Go.XK.Own.ofBlk (xs := []) hb58 ge_b58 (fun _ => rfl) (by simp)
            refine Go.XK.s (v := .slice A2 l2.length c2) (e_move rfl) ?_
            refine Go.XK.s (v := .int .i64 (frontN l2 (rm - 28) : Int)) (e_move rfl) ?_
            refine s_slS 0 n (l2.take n) Try.underlying22 Try.sizeOf41 rfl hl2 rfl Bd.no (Bd.at_ rfl (by rw [hfn])) (by omega) (by omega) (by first | rfl | simp) ?_
            intro As61 cs61 hs61
            refine s_appendRd (w0 := w) (z := .agg #[.string (B []), .int .i64 0, .string (B [])]) (kk := 3) (bytes := 40) rfl rfl Try.underlying22 (by kernel_rfl) rfl (by decide) (fun _ => rfl) one_encE (l2.take n) ho58 xw_w9 (hs61.ext xw_w9) rfl (by first | omega | (simp only [maxLen]; omega) | (simp; omega) | (simp only [maxLen]; simp; omega)) (by first | omega | (simp only [maxLen]; omega) | (simp; omega) | (simp only [maxLen]; simp; omega)) ?_
            intro v62 w10 ho62 xw_w10 hg62 hat62
            rw [List.nil_append] at ho62
            replace hoG := Go.XK.Own.other hoG ho58 hg62 (by decide)
            replace hog := OwG.fresh hog (fun g_ hg_ k_ hk_ => he58 ▸ hlt_ g_ hg_ k_ hk_) hg62 rfl
            obtain ⟨AJ, cJ, eJ_, hlcJ, hcmJ, _⟩ := Go.XK.Own.shape ho62 (fun _ => rfl)
            subst eJ_
            refine s_bslice (vs := [(0, .slice AJ (l2.take n).length cJ)]) (e := 22) rfl [.slice AJ (l2.take n).length cJ] (by kernel_rfl) ?_
            intro b63 w11 hb63 he63 hs63 hx63
            have no_b63_hoG : Value.ownBlock v_ ≠ some b63 := fun h_ => by have h2_ := (Go.XK.Own.lt hoG _ h_).2; omega
            have no_b63_ho62 : Value.ownBlock (.slice AJ ((l2.take n).length) cJ) ≠ some b63 := fun h_ => by have h2_ := (Go.XK.Own.lt ho62 _ h_).2; omega
            have ge_b63 : w.heap.size ≤ b63 := by have h_ := (Below.size xw_w10); omega
            have xw_w11 : Ext w w11 := Ext.tr xw_w10 hx63
            replace hoG := hoG.ext hx63
            replace hog := hog.ext hx63
            replace ho62 := ho62.ext hx63
            refine s_appendLit2 (w0 := w) (z := .slice none 0 0) (kk := 1) (bytes := 24) rfl rfl Try.underlying33 (by kernel_rfl) rfl (by decide) (fun _ => rfl) one_encG [(⟨l2.take n, AJ, cJ⟩ : Gp)] hoG xw_w11 hb63 rfl rfl (by first | omega | (simp only [maxLen]; omega) | (simp; omega) | (simp only [maxLen]; simp; omega)) (by first | omega | (simp only [maxLen]; omega) | (simp; omega) | (simp only [maxLen]; simp; omega)) ?_
            intro v64 w12 ho64 xw_w12 hg64 hat64
            replace hb63 := hb63.grown hg64 no_b63_hoG
            replace hog := OwG.other hog hoG hg64 (by decide)
            replace ho62 := Go.XK.Own.other ho62 hoG hg64 (by decide)
            replace hog := OwG.snoc hog (g := (⟨l2.take n, AJ, cJ⟩ : Gp)) ho62
            refine Go.XK.s (v := v64) (e_assign rfl) ?_
            refine sl_nil (nrm_k ?_)
            refine sc_seq ?_
            refine sc_reg ?_
            refine Go.XK.s (v := .slice A2 l2.length c2) (e_move rfl) ?_
            refine Go.XK.s (v := .int .i64 (frontN l2 (rm - 28) : Int)) (e_move rfl) ?_
            refine s_slS n l2.length (l2.drop n) Try.underlying22 Try.sizeOf41 rfl hl2 rfl (Bd.at_ rfl (by rw [hfn])) Bd.no (by omega) (by omega) (by first | rfl | simp) ?_
            intro As67 cs67 hs67
            refine Go.XK.s (v := .slice As67 (l2.drop n).length cs67) (e_assign rfl) ?_
            refine sl_nil (nrm_k ?_)
            refine sc_reg ?_
            refine Go.XK.s (v := .int .i64 2048) (e_assign rfl) ?_
            refine sl_nil ?_
            exact nrm_loopq rfl _ _ (by (rw [List.length_drop]; omega)) ⟨l2.drop n, As67, cs67, 2048, 1, gs ++ [(⟨l2.take n, AJ, cJ⟩ : Gp)], v64, rfl, rfl, xw_w12, ho64, hog, ⟨⟨.inl (by omega), by omega, fun x_ hx_ => hx2 x_ (List.mem_of_mem_drop hx_), by have h_ := szL_drop_le l2 n; omega, by omega, by rw [List.length_append, List.length_drop, List.length_singleton]; omega⟩, hs67, grp_next (T := l2) hx2 c52 hfn hT⟩⟩ (.cons rfl (.cons rfl (.cons rfl (.nil))))
          ·
            rw [grp_end c52] at hT
            have hTl : (grp l room).length = gs.length + 1 := by rw [← hT]; simp
            refine sc_exit rfl (nrm_k ?_)
            refine sc_seq ?_
            refine sc_reg ?_
            refine Go.XK.s (v := v_) (e_move rfl) ?_
            have hlt_ := OwG.lt hog
            refine s_bslice (vs := []) (e := 41) rfl [] (by kernel_rfl) ?_
            intro b69 w13 hb69 he69 hs69 hx69
            have no_b69_hoG : Value.ownBlock v_ ≠ some b69 := fun h_ => by have h2_ := (Go.XK.Own.lt hoG _ h_).2; omega
            have ge_b69 : w.heap.size ≤ b69 := by have h_ := (Below.size xw_w7); omega
            have xw_w13 : Ext w w13 := Ext.tr xw_w7 hx69
            replace hoG := hoG.ext hx69
            replace hog := hog.ext hx69
            have ho69 : Go.XK.Own w13 w.heap.size 41 3 encE (.slice (some ⟨b69, 0, none⟩) 0 0) [] := Go.XK.Own.ofBlk (xs := []) hb69 ge_b69 (fun _ => rfl) (by simp)
            refine Go.XK.s (v := .slice A2 l2.length c2) (e_move rfl) ?_
            refine s_appendRd (w0 := w) (z := .agg #[.string (B []), .int .i64 0, .string (B [])]) (kk := 3) (bytes := 40) rfl rfl Try.underlying22 (by kernel_rfl) rfl (by decide) (fun _ => rfl) one_encE l2 ho69 xw_w13 (hl2.ext xw_w13) rfl (by first | omega | (simp only [maxLen]; omega) | (simp; omega) | (simp only [maxLen]; simp; omega)) (by first | omega | (simp only [maxLen]; omega) | (simp; omega) | (simp only [maxLen]; simp; omega)) ?_
            intro v71 w14 ho71 xw_w14 hg71 hat71
            rw [List.nil_append] at ho71
            replace hoG := Go.XK.Own.other hoG ho69 hg71 (by decide)
            replace hog := OwG.fresh hog (fun g_ hg_ k_ hk_ => he69 ▸ hlt_ g_ hg_ k_ hk_) hg71 rfl
            obtain ⟨AK, cK, eK_, hlcK, hcmK, _⟩ := Go.XK.Own.shape ho71 (fun _ => rfl)
            subst eK_
            refine s_bslice (vs := [(0, .slice AK l2.length cK)]) (e := 22) rfl [.slice AK l2.length cK] (by kernel_rfl) ?_
            intro b72 w15 hb72 he72 hs72 hx72
            have no_b72_hoG : Value.ownBlock v_ ≠ some b72 := fun h_ => by have h2_ := (Go.XK.Own.lt hoG _ h_).2; omega
            have no_b72_ho71 : Value.ownBlock (.slice AK l2.length cK) ≠ some b72 := fun h_ => by have h2_ := (Go.XK.Own.lt ho71 _ h_).2; omega
            have ge_b72 : w.heap.size ≤ b72 := by have h_ := (Below.size xw_w14); omega
            have xw_w15 : Ext w w15 := Ext.tr xw_w14 hx72
            replace hoG := hoG.ext hx72
            replace hog := hog.ext hx72
            replace ho71 := ho71.ext hx72
            refine s_appendLit2 (w0 := w) (z := .slice none 0 0) (kk := 1) (bytes := 24) rfl rfl Try.underlying33 (by kernel_rfl) rfl (by decide) (fun _ => rfl) one_encG [(⟨l2, AK, cK⟩ : Gp)] hoG xw_w15 hb72 rfl rfl (by first | omega | (simp only [maxLen]; omega) | (simp; omega) | (simp only [maxLen]; simp; omega)) (by first | omega | (simp only [maxLen]; omega) | (simp; omega) | (simp only [maxLen]; simp; omega)) ?_
            intro v73 w16 ho73 xw_w16 hg73 hat73
            replace hb72 := hb72.grown hg73 no_b72_hoG
            replace hog := OwG.other hog hoG hg73 (by decide)
            replace ho71 := Go.XK.Own.other ho71 hoG hg73 (by decide)
            replace hog := OwG.snoc hog (g := (⟨l2, AK, cK⟩ : Gp)) ho71
            refine Go.XK.s (v := v73) (e_assign rfl) ?_
            refine sl_nil (nrm_k ?_)
            refine sc_seq ?_
            refine sc_seq ?_
            refine sc_reg ?_
            refine Go.XK.s (v := v73) (e_move rfl) ?_
            refine Go.XK.s (v := .int .i64 ((gs ++ [(⟨l2, AK, cK⟩ : Gp)]).length : Int)) (e_lenOwn Try.underlying33 rfl ho73 (fun _ => rfl)) ?_
            refine Go.XK.s (v := .bool (decide ((64 : Int) < ((gs ++ [(⟨l2, AK, cK⟩ : Gp)]).length : Int)))) (e_gt rfl rfl) ?_
            refine sl_nil (nrm_k ?_)
            refine sc_ifd rfl (fun c76 => ?_) (fun c76 => ?_)
            ·
              refine sc_seq ?_
              refine sc_reg ?_
              refine Go.XK.s (v := .slice none 0 0) (e_assign rfl) ?_
              refine Go.XK.s (v := .int .i64 7) (e_assign rfl) ?_
              refine sl_nil (nrm_k ?_)
              refine sc_retf rfl (ret2 Try.results19 (rvt rfl) (rvt rfl) ?_)
              exact ⟨.slice none 0 0, [], by rw [hG.trans (if_pos (by rw [hTl]; simp at c76; omega))], by rw [hG.trans (if_pos (by rw [hTl]; simp at c76; omega))]; rfl, Go.XK.Own.nil _ _ _ _ _, OwG.nil _ _, xw_w16⟩
            ·
              refine sc_skip (nrm_k ?_)
              refine sc_seq ?_
              refine sc_reg ?_
              refine Go.XK.s (v := v73) (e_move rfl) ?_
              refine Go.XK.s (v := v73) (e_assign rfl) ?_
              refine Go.XK.s (v := .int .i64 0) (e_assign rfl) ?_
              refine sl_nil (nrm_k ?_)
              refine sc_retf rfl (ret2 Try.results19 (rvt rfl) (rvt rfl) ?_)
              have hG2 := hG.trans (if_neg (show ¬ (64 : Int) < ((grp l room).length : Int) by rw [hTl]; simp at c76; omega))
              exact ⟨_, gs ++ [(⟨l2, AK, cK⟩ : Gp)], by rw [hG2], by rw [hG2, ← hT]; simp, ho73, hog, xw_w16⟩

end Go.Proofs.Ytnbclhbpjlpcoaa
