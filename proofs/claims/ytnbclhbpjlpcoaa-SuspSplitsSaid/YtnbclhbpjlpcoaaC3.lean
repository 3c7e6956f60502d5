/- Chapter 24: C3. Printed by my program wip/tools/wk.py. -/
import Derived.Test.YtnbclhbpjlpcoaaC2
set_option linter.unusedVariables false
set_option linter.unusedSimpArgs false
set_option maxRecDepth 4000
set_option maxHeartbeats 4000000
namespace Go.Proofs.Ytnbclhbpjlpcoaa
open Go.XK Go.RowKit
theorem chkR_zero {l : List En} (h : chkR l = 0) : l.length ≤ 1024 ∧ ∀ x ∈ l, badE x = 0 := by
  unfold chkR at h
  split at h
  · cases h
  · exact ⟨by omega, chk_all h⟩
theorem enc_len {l : List En} (h : l.length ≤ 1024 ∧ ∀ x ∈ l, badE x = 0) (i : Nat) : (encL (l.take i)).length ≤ 516096 := by
  have h1 := encL_bound (l := l.take i) (m := 251) fun x hx => by
    have h2 := badE_spec (h.2 x (List.mem_of_mem_take hx))
    have h3 := sig_len h2.1
    omega
  have h4 : (l.take i).length * (2 * 251 + 2) ≤ 1024 * (2 * 251 + 2) := Nat.mul_le_mul_right _ (by simp; omega)
  omega
theorem encR_no {l : List En} (h : chkR l ≠ 0) : encR l = ([], chkR l) := by rw [encR, if_pos h]
theorem encR_ok {l : List En} (h : chkR l = 0) : encR l = (encL l, 0) := by rw [encR, if_neg (by simp [h])]
theorem stop_no {s : List UInt8} (h : ((decide (4 ≤ (s.length : Int)) && decide (at_ s 0 ≠ 0)) && decide (s.take 2 ≠ [83, 84])) = true) : stopB s = false := by
  simp only [Bool.and_eq_true, decide_eq_true_eq] at h
  simp only [stopB, Bool.or_eq_false_iff, decide_eq_false_iff_not]
  exact ⟨⟨by omega, h.1.2⟩, h.2⟩
theorem stop_yes {s : List UInt8} (h : ((decide (4 ≤ (s.length : Int)) && decide (at_ s 0 ≠ 0)) && decide (s.take 2 ≠ [83, 84])) = false) : stopB s = true := by
  cases hb : stopB s with
  | true => rfl
  | false =>
    simp only [stopB, Bool.or_eq_false_iff, decide_eq_false_iff_not] at hb
    rw [decide_eq_true (by omega), decide_eq_true hb.1.2, decide_eq_true hb.2] at h
    cases h
theorem stop_yes1 {s : List UInt8} (h : (decide (4 ≤ (s.length : Int)) && decide (at_ s 0 ≠ 0)) = false) : stopB s = true := stop_yes (by rw [h]; rfl)
theorem stop_yes2 {s : List UInt8} (h : s.take 2 = [83, 84]) : stopB s = true := by rw [stopB, decide_eq_true h, Bool.or_true]
theorem stop_no2 {s : List UInt8} (h : (decide (4 ≤ (s.length : Int)) && decide (at_ s 0 ≠ 0)) = true) (h2 : ¬ s.take 2 = [83, 84]) : stopB s = false := stop_no (by rw [h, decide_eq_true h2]; rfl)
theorem stop_len {s : List UInt8} (h : stopB s = false) : 4 ≤ s.length := by
  simp only [stopB, Bool.or_eq_false_iff, decide_eq_false_iff_not] at h; omega
theorem dec_step {s : List UInt8} {out : List En} {T : Option (List En)} (h : stopB s = false) (hb : badH s = false) (hT : (decL s.length s).map (out ++ ·) = T) : (decL (s.drop (lenH s).toNat).length (s.drop (lenH s).toNat)).map ((out ++ [hdE s]) ++ ·) = T := by
  rw [← hT, dec_next h hb, Option.map_map]
  congr 1
  funext z
  simp
theorem dec_endT {s : List UInt8} {out : List En} {T : Option (List En)} (h : stopB s = true) (hT : (decL s.length s).map (out ++ ·) = T) : T = some out := by rw [← hT, dec_stop h]; simp
theorem dec_badT {s : List UInt8} {out : List En} {T : Option (List En)} (h : stopB s = false) (hb : badH s = true) (hT : (decL s.length s).map (out ++ ·) = T) : T = none := by rw [← hT, dec_bad h hb]; rfl

/-- masterdisc/susp.Encode (function 11) -/
theorem encode_c (l : List En) (A : Option Addr) (c : Nat) (w : World) (hl : SlR w A c 3 encE l) (hsl : ∀ x ∈ l, x.g.length ≤ 9223372036854775807) : CallR Try.prog 11 [.slice A l.length c] w (fun v w' => v = .tuple #[.string (B ((encR l).1)), .int .i64 ((encR l).2)] ∧ Ext w w') := by
  have hmx0 := hl.lenle
  simp only [maxLen] at hmx0
  refine callR_of (n := 37) [(0, .slice A l.length c)] Try.func11 rfl rfl (Nat.le_of_ble_eq_true rfl) rfl ?_
  refine sc_seq ?_
  refine sc_reg ?_
  refine Go.XK.s (v := .string (B [])) (e_assign rfl) ?_
  refine Go.XK.s (v := .int .i64 0) (e_assign rfl) ?_
  refine sl_nil (nrm_k ?_)
  refine sc_seq ?_
  refine sc_seq ?_
  refine sc_reg ?_
  refine Go.XK.s (v := .slice A l.length c) (e_move rfl) ?_
  refine sl_call ent44 rfl rfl (check_c _ _ _ w (hl.ext (Ext.rfl' w)) hsl) (by decide) ?_
  rintro _ w1 ⟨rfl, hw1⟩
  have xw_w1 : Ext w w1 := Ext.tr (Ext.rfl' w) hw1
  refine Go.XK.s (v := .int .i64 (chkR l)) (e_assign rfl) ?_
  refine sl_nil (nrm_k ?_)
  refine sc_seq ?_
  refine sc_reg ?_
  refine Go.XK.s (v := .int .i64 (chkR l)) (e_move rfl) ?_
  refine Go.XK.s (v := .bool (decide (chkR l ≠ 0))) (e_ne rfl rfl) ?_
  refine sl_nil (nrm_k ?_)
  refine sc_ifd rfl (fun c11 => ?_) (fun c11 => ?_)
  ·
    refine sc_seq ?_
    refine sc_reg ?_
    refine Go.XK.s (v := .int .i64 (chkR l)) (e_move rfl) ?_
    refine Go.XK.s (v := .string (B [])) (e_assign rfl) ?_
    refine Go.XK.s (v := .int .i64 (chkR l)) (e_assign rfl) ?_
    refine sl_nil (nrm_k ?_)
    refine sc_retf rfl (ret2 Try.results11 (rvt rfl) (rvt rfl) ?_)
    exact ⟨by rw [encR_no c11], xw_w1⟩
  ·
    have hc0 : chkR l = 0 := Classical.not_not.1 c11
    have hok := chkR_zero hc0
    refine sc_skip (nrm_k ?_)
    refine sc_seq ?_
    refine sc_reg ?_
    refine s_alloc (cs := [.pointer none, .slice none 0 0]) Try.zeroValue72 rfl ?_
    intro b5 w2 hb5 he5 hs5 hx5
    have ge_b5 : w.heap.size ≤ b5 := by have h_ := (Below.size xw_w1); omega
    have xw_w2 : Ext w w2 := Ext.tr xw_w1 hx5
    have HB := Bld.new (w0 := w) hb5 ge_b5
    refine sl_nil (nrm_k ?_)
    refine sc_seq ?_
    refine sc_seq ?_
    refine sc_reg ?_
    refine Go.XK.s (v := .slice A l.length c) (e_move rfl) ?_
    refine Go.XK.s (v := .int .i64 (l.length : Int)) (e_len Try.underlying22 rfl) ?_
    refine Go.XK.s (v := .int .i64 0) (e_move rfl) ?_
    refine sl_nil (nrm_k ?_)
    refine sc_block ?_
    refine sc_loop (fun m_ l_ w_ => ∃ (i : Nat), m_ = l.length - i ∧ l_ = [(15, .int .i64 (i : Int)), (13, .slice A l.length c), (14, .int .i64 (l.length : Int)), (5, .pointer (some ⟨b5, 0, none⟩))] ∧ Ext w w_ ∧ Bld w b5 (encL (l.take i)) w_ ∧ i ≤ l.length) _ [(15, .int .i64 (0 : Int)), (13, .slice A l.length c), (14, .int .i64 (l.length : Int)), (5, .pointer (some ⟨b5, 0, none⟩))] ⟨0, rfl, rfl, xw_w2, HB, (by omega)⟩ (.cons rfl (.cons rfl (.cons rfl (.cons rfl (.nil))))) ?_
    rintro j4 _ w3 ⟨i, rfl, rfl, xw_w3, HB, hi⟩
    refine sc_seq ?_
    refine sc_reg ?_
    refine Go.XK.s (v := .bool (decide ((i : Int) < (l.length : Int)))) (e_lt rfl rfl) ?_
    refine sl_nil (nrm_k ?_)
    refine sc_seq ?_
    refine sc_ifd rfl (fun c16 => ?_) (fun c16 => ?_)
    ·
      obtain ⟨x, hx⟩ : ∃ x, l[i]? = some x := ⟨_, List.getElem?_eq_getElem (by omega)⟩
      have hxk := badE_spec (hok.2 x (List.mem_of_getElem? hx))
      have hxs := sig_len hxk.1
      have hel := enc_len hok i
      refine sc_skip (nrm_k ?_)
      refine sc_seq ?_
      refine sc_block ?_
      refine sc_seq ?_
      refine sc_reg ?_
      refine Go.XK.s (v := .pointer (some (el A 3 (i : Int) 0))) (e_idxEl (e := x) Try.underlying22 Try.sizeOf41 rfl rfl (hl.1.ext xw_w3) hx (by omega) rfl) ?_
      refine Go.XK.s (v := .agg #[.string (B x.g), .int .i64 x.v, .string (B x.d)]) (e_ldElA (xs := l) (enc := encE) (e := x) rfl (hl.1.ext xw_w3) hx Try.isAgg41 Try.sizeOf41 rfl) ?_
      refine s_alloc (cs := [.string (B []), .int .i64 0, .string (B [])]) Try.zeroValue41 rfl ?_
      intro b7 w5 hb7 he7 hs7 hx7
      have ne_b7_b5 : b7 ≠ b5 := by have h_ := HB.lt; omega
      have ge_b7 : w.heap.size ≤ b7 := by have h_ := (Below.size xw_w3); omega
      have xw_w5 : Ext w w5 := Ext.tr xw_w3 hx7
      replace HB := HB.ext hx7
      refine su_blkV [.string (B x.g), .int .i64 x.v, .string (B x.d)] [.string (B x.g), .int .i64 x.v, .string (B x.d)] rfl rfl hb7 rfl Try.sizeOf41 (Nat.le_of_ble_eq_true rfl) rfl rfl ?_
      intro w6 hn_ hm_w6 hs_w6
      have ho_ := hb7
      replace hb7 := hn_
      clear hn_
      replace HB := HB.mut hm_w6 ho_ ne_b7_b5 (by decide)
      have xw_w6 : Ext w w6 := below_mut xw_w5 (Below.size xw_w5) hm_w6 ge_b7
      refine sl_nil (nrm_k ?_)
      refine sc_seq ?_
      refine sc_reg ?_
      refine Go.XK.s (v := .pointer (some ⟨b7, 0, none⟩)) (e_fieldB (sz := 1) Try.underlying41 rfl Try.sizeOf9 (by decide) rfl rfl) ?_
      refine Go.XK.s (v := .string (B x.g)) (e_load rfl (load1 Try.isAgg9 (hb7.cell (j := 0) rfl))) ?_
      refine sl_call ent45 rfl rfl (wstr_c w b5 (encL (l.take i)) x.g w6 HB xw_w6 (by first | omega | (simp; omega))) (by decide) ?_
      rintro _ w7 ⟨rfl, HB, hw7, Khw7⟩
      replace hb7 := Blk.others hb7 Khw7 ne_b7_b5 (by decide)
      refine sl_nil (nrm_k ?_)
      refine sc_seq ?_
      refine sc_reg ?_
      refine Go.XK.s (v := .pointer (some ⟨b7, 2, none⟩)) (e_fieldB (sz := 1) Try.underlying41 rfl Try.sizeOf9 (by decide) rfl rfl) ?_
      refine Go.XK.s (v := .string (B x.d)) (e_load rfl (load1 Try.isAgg9 (hb7.cell (j := 2) rfl))) ?_
      refine Go.XK.s (v := .int .i64 (x.d.length : Int)) (e_slen Try.underlying9 rfl) ?_
      refine Go.XK.s (v := .int .i64 ((4 : Int) + (x.d.length : Int))) (e_add rfl rfl (by omega)) ?_
      refine Go.XK.s (v := .int .u8 ((u8of ((4 : Int) + (x.d.length : Int))).toNat)) (e_intu8 Try.underlying3 Try.underlying5 rfl) ?_
      refine Go.XK.s (v := .pointer (some ⟨b7, 1, none⟩)) (e_fieldB (sz := 1) Try.underlying41 rfl Try.sizeOf3 (by decide) rfl rfl) ?_
      refine Go.XK.s (v := .int .i64 x.v) (e_load rfl (load1 Try.isAgg3 (hb7.cell (j := 1) rfl))) ?_
      refine Go.XK.s (v := .int .u8 ((u8of x.v).toNat)) (e_intu8 Try.underlying3 Try.underlying5 rfl) ?_
      refine s_bslice (vs := [(0, .int .u8 ((u8of ((4 : Int) + (x.d.length : Int))).toNat)), (1, .int .u8 ((u8of x.v).toNat))]) (e := 5) rfl [.int .u8 ((u8of ((4 : Int) + (x.d.length : Int))).toNat), .int .u8 ((u8of x.v).toNat)] (by kernel_rfl) ?_
      intro b30 w8 hb30 he30 hs30 hx30
      have ne_b30_b7 : b30 ≠ b7 := by have h_ := hb7.lt; omega
      have ne_b30_b5 : b30 ≠ b5 := by have h_ := HB.lt; omega
      have ge_b30 : w.heap.size ≤ b30 := by have h_ := (Below.size hw7); omega
      have xw_w8 : Ext w w8 := Ext.tr hw7 hx30
      replace hb7 := hb7.ext hx30
      replace HB := HB.ext hx30
      refine sl_call ent46 rfl rfl (write_c w b5 b30 ((encL (l.take i)) ++ x.g) [u8of ((4 : Int) + (x.d.length : Int)), u8of x.v] w8 HB xw_w8 hb30 ne_b30_b5 (by first | omega | (simp; omega))) (by decide) ?_
      rintro _ w9 ⟨rfl, HB, hw9, Khw9⟩
      replace hb7 := Blk.others hb7 Khw9 ne_b7_b5 (by decide)
      refine sl_nil (nrm_k ?_)
      refine sc_reg ?_
      refine Go.XK.s (v := .pointer (some ⟨b7, 2, none⟩)) (e_fieldB (sz := 1) Try.underlying41 rfl Try.sizeOf9 (by decide) rfl rfl) ?_
      refine Go.XK.s (v := .string (B x.d)) (e_load rfl (load1 Try.isAgg9 (hb7.cell (j := 2) rfl))) ?_
      refine sl_call ent45 rfl rfl (wstr_c w b5 (((encL (l.take i)) ++ x.g) ++ [u8of ((4 : Int) + (x.d.length : Int)), u8of x.v]) x.d w9 HB hw9 (by first | omega | (simp; omega))) (by decide) ?_
      rintro _ w10 ⟨rfl, HB, hw10, Khw10⟩
      replace hb7 := Blk.others hb7 Khw10 ne_b7_b5 (by decide)
      refine sl_nil (nrm_k ?_)
      refine sc_reg ?_
      refine Go.XK.s (v := .int .i64 ((i : Int) + 1)) (e_add rfl rfl (by omega)) ?_
      refine Go.XK.s (v := .int .i64 ((i : Int) + 1)) (e_move rfl) ?_
      refine sl_nil ?_
      exact nrm_loopq rfl _ _ (by omega) ⟨i + 1, rfl, rfl, hw10, (by rw [encL_take hx, encE1]; have h_ := HB; simp only [List.append_assoc] at h_ ⊢; exact h_), (by omega)⟩ (.cons rfl (.cons rfl (.cons rfl (.cons rfl (.nil)))))
    ·
      refine sc_exit rfl (nrm_k ?_)
      refine sc_seq ?_
      refine sc_reg ?_
      refine sl_call ent47 rfl rfl (bstr_c w b5 (encL (l.take i)) w3 HB xw_w3) (by decide) ?_
      rintro _ w11 ⟨rfl, hw11⟩
      refine Go.XK.s (v := .string (B (encL (l.take i)))) (e_assign rfl) ?_
      refine Go.XK.s (v := .int .i64 0) (e_assign rfl) ?_
      refine sl_nil (nrm_k ?_)
      refine sc_retf rfl (ret2 Try.results11 (rvt rfl) (rvt rfl) ?_)
      exact ⟨by rw [encR_ok hc0, List.take_of_length_le (by omega)], hw11⟩

/-- masterdisc/masterdiscref24.Encode (function 12) -/
theorem rencode_c (l : List En) (A : Option Addr) (c : Nat) (w : World) (hl : SlR w A c 3 encE l) : CallR Try.prog 12 [.slice A l.length c] w (fun v w' => v = .tuple #[.string (B ((encR l).1)), .int .i64 ((encR l).2)] ∧ Ext w w') := by
  have hmx0 := hl.lenle
  simp only [maxLen] at hmx0
  refine callR_of (n := 49) [(0, .slice A l.length c)] Try.func12 rfl rfl (Nat.le_of_ble_eq_true rfl) rfl ?_
  refine sc_seq ?_
  refine sc_reg ?_
  refine Go.XK.s (v := .string (B [])) (e_assign rfl) ?_
  refine Go.XK.s (v := .int .i64 0) (e_assign rfl) ?_
  refine sl_nil (nrm_k ?_)
  refine sc_seq ?_
  refine sc_seq ?_
  refine sc_reg ?_
  refine Go.XK.s (v := .slice A l.length c) (e_move rfl) ?_
  refine sl_call ent48 rfl rfl (rcheck_c _ _ _ w (hl.ext (Ext.rfl' w))) (by decide) ?_
  rintro _ w1 ⟨rfl, hw1⟩
  have xw_w1 : Ext w w1 := Ext.tr (Ext.rfl' w) hw1
  refine Go.XK.s (v := .int .i64 (chkR l)) (e_assign rfl) ?_
  refine sl_nil (nrm_k ?_)
  refine sc_seq ?_
  refine sc_reg ?_
  refine Go.XK.s (v := .int .i64 (chkR l)) (e_move rfl) ?_
  refine Go.XK.s (v := .bool (decide (chkR l ≠ 0))) (e_ne rfl rfl) ?_
  refine sl_nil (nrm_k ?_)
  refine sc_ifd rfl (fun c10 => ?_) (fun c10 => ?_)
  ·
    refine sc_seq ?_
    refine sc_reg ?_
    refine Go.XK.s (v := .int .i64 (chkR l)) (e_move rfl) ?_
    refine Go.XK.s (v := .string (B [])) (e_assign rfl) ?_
    refine Go.XK.s (v := .int .i64 (chkR l)) (e_assign rfl) ?_
    refine sl_nil (nrm_k ?_)
    refine sc_retf rfl (ret2 Try.results12 (rvt rfl) (rvt rfl) ?_)
    exact ⟨by rw [encR_no c10], xw_w1⟩
  ·
    have hc0 : chkR l = 0 := Classical.not_not.1 c10
    have hok := chkR_zero hc0
    refine sc_skip (nrm_k ?_)
    refine sc_seq ?_
    refine sc_reg ?_
    refine Go.XK.s (v := .string (B [])) (e_assign rfl) ?_
    refine sl_nil (nrm_k ?_)
    refine sc_seq ?_
    refine sc_seq ?_
    refine sc_reg ?_
    refine Go.XK.s (v := .int .i64 0) (e_assign rfl) ?_
    refine sl_nil (nrm_k ?_)
    refine sc_block ?_
    refine sc_loop (fun m_ l_ w_ => ∃ (i : Nat) (acc : List UInt8), m_ = l.length - i ∧ l_ = [(6, .int .i64 (i : Int)), (5, .string (B acc)), (0, .slice A l.length c)] ∧ Ext w w_ ∧ i ≤ l.length ∧ acc = encL (l.take i)) _ [(6, .int .i64 (0 : Int)), (5, .string (B [])), (0, .slice A l.length c)] ⟨0, [], rfl, rfl, xw_w1, ⟨by omega, rfl⟩⟩ (.cons rfl (.cons rfl (.cons rfl (.nil)))) ?_
    rintro j3 _ w2 ⟨i, acc, rfl, rfl, xw_w2, ⟨hi, hacc⟩⟩
    refine sc_seq ?_
    refine sc_seq ?_
    refine sc_reg ?_
    refine Go.XK.s (v := .int .i64 (i : Int)) (e_move rfl) ?_
    refine Go.XK.s (v := .slice A l.length c) (e_move rfl) ?_
    refine Go.XK.s (v := .int .i64 (l.length : Int)) (e_len Try.underlying22 rfl) ?_
    refine Go.XK.s (v := .bool (decide ((i : Int) < (l.length : Int)))) (e_lt rfl rfl) ?_
    refine sl_nil (nrm_k ?_)
    refine sc_ifd rfl (fun c15 => ?_) (fun c15 => ?_)
    ·
      obtain ⟨x, hx⟩ : ∃ x, l[i]? = some x := ⟨_, List.getElem?_eq_getElem (by omega)⟩
      have hxk := badE_spec (hok.2 x (List.mem_of_getElem? hx))
      have hxs := sig_len hxk.1
      have hel := enc_len hok i
      rw [← hacc] at hel
      refine sc_skip (nrm_k ?_)
      refine sc_seq ?_
      refine sc_block ?_
      refine sc_free [(15, .bool (decide ((i : Int) < (l.length : Int)))), (14, .int .i64 (l.length : Int)), (13, .slice A l.length c), (12, .int .i64 (i : Int)), (6, .int .i64 (i : Int)), (5, .string (B acc)), (0, .slice A l.length c)] [18, 19, 20, 21, 22, 23, 24, 25, 26, 27, 28, 29, 30, 31, 32, 33, 34, 35, 36, 37, 38, 39, 40, 41, 42, 43, 44, 45, 46, 47] [(Is (.string (B acc))), (Is (.slice A l.length c)), (Is (.int .i64 (i : Int))), (Is (.pointer (some (el A 3 (i : Int) 0)))), (Is (.pointer (some (el A 3 (i : Int) 0)))), (Is (.string (B x.g))), (Is (.string (B (acc ++ x.g)))), (Is (.slice A l.length c)), (Is (.int .i64 (i : Int))), (Is (.pointer (some (el A 3 (i : Int) 0)))), (Is (.pointer (some (el A 3 (i : Int) 2)))), (Is (.string (B x.d))), (Is (.int .i64 (x.d.length : Int))), (Is (.int .i64 ((4 : Int) + (x.d.length : Int)))), (Is (.int .u8 ((u8of ((4 : Int) + (x.d.length : Int))).toNat))), (Is (.slice A l.length c)), (Is (.int .i64 (i : Int))), (Is (.pointer (some (el A 3 (i : Int) 0)))), (Is (.pointer (some (el A 3 (i : Int) 1)))), (Is (.int .i64 x.v)), (Is (.int .u8 ((u8of x.v).toNat))), (fun VV WV => ∃ b_, VV = Value.slice (some ⟨b_, 0, none⟩) 2 2 ∧ Blk WV b_ 5 [.int .u8 ((u8of ((4 : Int) + (x.d.length : Int))).toNat), .int .u8 ((u8of x.v).toNat)]), (Is (.string (B [u8of ((4 : Int) + (x.d.length : Int)), u8of x.v]))), (Is (.string (B ((acc ++ x.g) ++ [u8of ((4 : Int) + (x.d.length : Int)), u8of x.v])))), (Is (.slice A l.length c)), (Is (.int .i64 (i : Int))), (Is (.pointer (some (el A 3 (i : Int) 0)))), (Is (.pointer (some (el A 3 (i : Int) 2)))), (Is (.string (B x.d))), (Is (.string (B (((acc ++ x.g) ++ [u8of ((4 : Int) + (x.d.length : Int)), u8of x.v]) ++ x.d))))] [30] (by kernel_rfl) (Sub.refl _) (by kernel_rfl) (by kernel_rfl) (by kernel_rfl) rfl (by kernel_rfl) (ds_ext (Stays.spec (.is _ (.is _ (.is _ (.is _ (.is _ (.is _ (.is _ (.is _ (.is _ (.is _ (.is _ (.is _ (.is _ (.is _ (.is _ (.is _ (.is _ (.is _ (.is _ (.is _ (.is _ (.any (fun _ _ _ ⟨b_, e_, h_⟩ hx_ => ⟨b_, e_, h_.ext hx_⟩) (.is _ (.is _ (.is _ (.is _ (.is _ (.is _ (.is _ (.is _ (.nil))))))))))))))))))))))))))))))))) ⟨?_, ?_, ?_, ?_, ?_, ?_, ?_, ?_, ?_, ?_, ?_, ?_, ?_, ?_, ?_, ?_, ?_, ?_, ?_, ?_, ?_, ?_, ?_, ?_, ?_, ?_, ?_, ?_, ?_, ?_, trivial⟩ ?_
      · intro Q act_ wI hxI ha hp
        have xw_wI : Ext w wI := Ext.tr xw_w2 hxI
        exact h_evA (v := .string (B acc)) ha rfl (e_move rfl) rfl rfl (Ext.rfl' _)
      · intro Q act_ wI hxI ha hp
        have xw_wI : Ext w wI := Ext.tr xw_w2 hxI
        exact h_evA (v := .slice A l.length c) ha rfl (e_move rfl) rfl rfl (Ext.rfl' _)
      · intro Q act_ wI hxI ha hp
        have xw_wI : Ext w wI := Ext.tr xw_w2 hxI
        exact h_evA (v := .int .i64 (i : Int)) ha rfl (e_move rfl) rfl rfl (Ext.rfl' _)
      · intro Q act_ wI hxI ha hp
        have xw_wI : Ext w wI := Ext.tr xw_w2 hxI
        have ha := ha.add (show act_.tmps.getD 19 undef = .slice A l.length c from hp 1 (by kernel_rfl) (by decide))
        have ha := ha.add (show act_.tmps.getD 20 undef = .int .i64 (i : Int) from hp 2 (by kernel_rfl) (by decide))
        exact h_evA (v := .pointer (some (el A 3 (i : Int) 0))) ha rfl (e_idxEl (e := x) Try.underlying22 Try.sizeOf41 rfl rfl (hl.1.ext xw_wI) hx (by omega) rfl) rfl rfl (Ext.rfl' _)
      · intro Q act_ wI hxI ha hp
        have xw_wI : Ext w wI := Ext.tr xw_w2 hxI
        have ha := ha.add (show act_.tmps.getD 21 undef = .pointer (some (el A 3 (i : Int) 0)) from hp 3 (by kernel_rfl) (by decide))
        exact h_evA (v := .pointer (some (el A 3 (i : Int) 0))) ha rfl (e_fieldEl (fsz := 1) Try.underlying41 rfl Try.sizeOf9 (by decide) rfl rfl) rfl rfl (Ext.rfl' _)
      · intro Q act_ wI hxI ha hp
        have xw_wI : Ext w wI := Ext.tr xw_w2 hxI
        have ha := ha.add (show act_.tmps.getD 22 undef = .pointer (some (el A 3 (i : Int) 0)) from hp 4 (by kernel_rfl) (by decide))
        exact h_evA (v := .string (B x.g)) ha rfl (e_ldEl (xs := l) (enc := encE) (e := x) rfl (hl.1.ext xw_wI) hx Try.isAgg9 rfl) rfl rfl (Ext.rfl' _)
      · intro Q act_ wI hxI ha hp
        have xw_wI : Ext w wI := Ext.tr xw_w2 hxI
        have ha := ha.add (show act_.tmps.getD 18 undef = .string (B acc) from hp 0 (by kernel_rfl) (by decide))
        have ha := ha.add (show act_.tmps.getD 23 undef = .string (B x.g) from hp 5 (by kernel_rfl) (by decide))
        exact h_evA (v := .string (B (acc ++ x.g))) ha rfl (e_sadd rfl rfl (by first | omega | (simp <;> omega))) rfl rfl (Ext.rfl' _)
      · intro Q act_ wI hxI ha hp
        have xw_wI : Ext w wI := Ext.tr xw_w2 hxI
        exact h_evA (v := .slice A l.length c) ha rfl (e_move rfl) rfl rfl (Ext.rfl' _)
      · intro Q act_ wI hxI ha hp
        have xw_wI : Ext w wI := Ext.tr xw_w2 hxI
        exact h_evA (v := .int .i64 (i : Int)) ha rfl (e_move rfl) rfl rfl (Ext.rfl' _)
      · intro Q act_ wI hxI ha hp
        have xw_wI : Ext w wI := Ext.tr xw_w2 hxI
        have ha := ha.add (show act_.tmps.getD 25 undef = .slice A l.length c from hp 7 (by kernel_rfl) (by decide))
        have ha := ha.add (show act_.tmps.getD 26 undef = .int .i64 (i : Int) from hp 8 (by kernel_rfl) (by decide))
        exact h_evA (v := .pointer (some (el A 3 (i : Int) 0))) ha rfl (e_idxEl (e := x) Try.underlying22 Try.sizeOf41 rfl rfl (hl.1.ext xw_wI) hx (by omega) rfl) rfl rfl (Ext.rfl' _)
      · intro Q act_ wI hxI ha hp
        have xw_wI : Ext w wI := Ext.tr xw_w2 hxI
        have ha := ha.add (show act_.tmps.getD 27 undef = .pointer (some (el A 3 (i : Int) 0)) from hp 9 (by kernel_rfl) (by decide))
        exact h_evA (v := .pointer (some (el A 3 (i : Int) 2))) ha rfl (e_fieldEl (fsz := 1) Try.underlying41 rfl Try.sizeOf9 (by decide) rfl rfl) rfl rfl (Ext.rfl' _)
      · intro Q act_ wI hxI ha hp
        have xw_wI : Ext w wI := Ext.tr xw_w2 hxI
        have ha := ha.add (show act_.tmps.getD 28 undef = .pointer (some (el A 3 (i : Int) 2)) from hp 10 (by kernel_rfl) (by decide))
        exact h_evA (v := .string (B x.d)) ha rfl (e_ldEl (xs := l) (enc := encE) (e := x) rfl (hl.1.ext xw_wI) hx Try.isAgg9 rfl) rfl rfl (Ext.rfl' _)
      · intro Q act_ wI hxI ha hp
        have xw_wI : Ext w wI := Ext.tr xw_w2 hxI
        have ha := ha.add (show act_.tmps.getD 29 undef = .string (B x.d) from hp 11 (by kernel_rfl) (by decide))
        exact h_evA (v := .int .i64 (x.d.length : Int)) ha rfl (e_slen Try.underlying9 rfl) rfl rfl (Ext.rfl' _)
      · intro Q act_ wI hxI ha hp
        have xw_wI : Ext w wI := Ext.tr xw_w2 hxI
        have ha := ha.add (show act_.tmps.getD 30 undef = .int .i64 (x.d.length : Int) from hp 12 (by kernel_rfl) (by decide))
        exact h_evA (v := .int .i64 ((4 : Int) + (x.d.length : Int))) ha rfl (e_add rfl rfl (by omega)) rfl rfl (Ext.rfl' _)
      · intro Q act_ wI hxI ha hp
        have xw_wI : Ext w wI := Ext.tr xw_w2 hxI
        have ha := ha.add (show act_.tmps.getD 31 undef = .int .i64 ((4 : Int) + (x.d.length : Int)) from hp 13 (by kernel_rfl) (by decide))
        exact h_evA (v := .int .u8 ((u8of ((4 : Int) + (x.d.length : Int))).toNat)) ha rfl (e_intu8 Try.underlying3 Try.underlying5 rfl) rfl rfl (Ext.rfl' _)
      · intro Q act_ wI hxI ha hp
        have xw_wI : Ext w wI := Ext.tr xw_w2 hxI
        exact h_evA (v := .slice A l.length c) ha rfl (e_move rfl) rfl rfl (Ext.rfl' _)
      · intro Q act_ wI hxI ha hp
        have xw_wI : Ext w wI := Ext.tr xw_w2 hxI
        exact h_evA (v := .int .i64 (i : Int)) ha rfl (e_move rfl) rfl rfl (Ext.rfl' _)
      · intro Q act_ wI hxI ha hp
        have xw_wI : Ext w wI := Ext.tr xw_w2 hxI
        have ha := ha.add (show act_.tmps.getD 33 undef = .slice A l.length c from hp 15 (by kernel_rfl) (by decide))
        have ha := ha.add (show act_.tmps.getD 34 undef = .int .i64 (i : Int) from hp 16 (by kernel_rfl) (by decide))
        exact h_evA (v := .pointer (some (el A 3 (i : Int) 0))) ha rfl (e_idxEl (e := x) Try.underlying22 Try.sizeOf41 rfl rfl (hl.1.ext xw_wI) hx (by omega) rfl) rfl rfl (Ext.rfl' _)
      · intro Q act_ wI hxI ha hp
        have xw_wI : Ext w wI := Ext.tr xw_w2 hxI
        have ha := ha.add (show act_.tmps.getD 35 undef = .pointer (some (el A 3 (i : Int) 0)) from hp 17 (by kernel_rfl) (by decide))
        exact h_evA (v := .pointer (some (el A 3 (i : Int) 1))) ha rfl (e_fieldEl (fsz := 1) Try.underlying41 rfl Try.sizeOf3 (by decide) rfl rfl) rfl rfl (Ext.rfl' _)
      · intro Q act_ wI hxI ha hp
        have xw_wI : Ext w wI := Ext.tr xw_w2 hxI
        have ha := ha.add (show act_.tmps.getD 36 undef = .pointer (some (el A 3 (i : Int) 1)) from hp 18 (by kernel_rfl) (by decide))
        exact h_evA (v := .int .i64 x.v) ha rfl (e_ldEl (xs := l) (enc := encE) (e := x) rfl (hl.1.ext xw_wI) hx Try.isAgg3 rfl) rfl rfl (Ext.rfl' _)
      · intro Q act_ wI hxI ha hp
        have xw_wI : Ext w wI := Ext.tr xw_w2 hxI
        have ha := ha.add (show act_.tmps.getD 37 undef = .int .i64 x.v from hp 19 (by kernel_rfl) (by decide))
        exact h_evA (v := .int .u8 ((u8of x.v).toNat)) ha rfl (e_intu8 Try.underlying3 Try.underlying5 rfl) rfl rfl (Ext.rfl' _)
      · intro Q act_ wI hxI ha hp
        have xw_wI : Ext w wI := Ext.tr xw_w2 hxI
        have ha := ha.add (show act_.tmps.getD 32 undef = .int .u8 ((u8of ((4 : Int) + (x.d.length : Int))).toNat) from hp 14 (by kernel_rfl) (by decide))
        have ha := ha.add (show act_.tmps.getD 38 undef = .int .u8 ((u8of x.v).toNat) from hp 20 (by kernel_rfl) (by decide))
        exact h_evA ha rfl (e_buildSlice (vs := [(0, .int .u8 ((u8of ((4 : Int) + (x.d.length : Int))).toNat)), (1, .int .u8 ((u8of x.v).toNat))]) (v := .slice (some ⟨wI.heap.size, 0, none⟩) 2 2) (w1 := wI.alloc (.cells ([.int .u8 ((u8of ((4 : Int) + (x.d.length : Int))).toNat), .int .u8 ((u8of x.v).toNat)] : List Value).toArray 5)) rfl (by kernel_rfl)) rfl ⟨_, rfl, Blk.new wI 5 [.int .u8 ((u8of ((4 : Int) + (x.d.length : Int))).toNat), .int .u8 ((u8of x.v).toNat)]⟩ (Ext.alloc _ _)
      · intro Q act_ wI hxI ha hp
        have xw_wI : Ext w wI := Ext.tr xw_w2 hxI
        obtain ⟨b39, e39, hb39⟩ := (show ∃ b_, act_.tmps.getD 39 undef = Value.slice (some ⟨b_, 0, none⟩) 2 2 ∧ Blk wI b_ 5 [.int .u8 ((u8of ((4 : Int) + (x.d.length : Int))).toNat), .int .u8 ((u8of x.v).toNat)] from hp 21 (by kernel_rfl) (by decide))
        have ha := ha.add e39
        exact h_evA (v := .string (B [u8of ((4 : Int) + (x.d.length : Int)), u8of x.v])) ha rfl (e_convr (l := _) rfl (conv_blk (s := [u8of ((4 : Int) + (x.d.length : Int)), u8of x.v]) Try.underlying70 Try.underlying5 Try.underlying9 hb39 rfl)) rfl rfl (Ext.rfl' _)
      · intro Q act_ wI hxI ha hp
        have xw_wI : Ext w wI := Ext.tr xw_w2 hxI
        have ha := ha.add (show act_.tmps.getD 24 undef = .string (B (acc ++ x.g)) from hp 6 (by kernel_rfl) (by decide))
        have ha := ha.add (show act_.tmps.getD 40 undef = .string (B [u8of ((4 : Int) + (x.d.length : Int)), u8of x.v]) from hp 22 (by kernel_rfl) (by decide))
        exact h_evA (v := .string (B ((acc ++ x.g) ++ [u8of ((4 : Int) + (x.d.length : Int)), u8of x.v]))) ha rfl (e_sadd rfl rfl (by first | omega | (simp <;> omega))) rfl rfl (Ext.rfl' _)
      · intro Q act_ wI hxI ha hp
        have xw_wI : Ext w wI := Ext.tr xw_w2 hxI
        exact h_evA (v := .slice A l.length c) ha rfl (e_move rfl) rfl rfl (Ext.rfl' _)
      · intro Q act_ wI hxI ha hp
        have xw_wI : Ext w wI := Ext.tr xw_w2 hxI
        exact h_evA (v := .int .i64 (i : Int)) ha rfl (e_move rfl) rfl rfl (Ext.rfl' _)
      · intro Q act_ wI hxI ha hp
        have xw_wI : Ext w wI := Ext.tr xw_w2 hxI
        have ha := ha.add (show act_.tmps.getD 42 undef = .slice A l.length c from hp 24 (by kernel_rfl) (by decide))
        have ha := ha.add (show act_.tmps.getD 43 undef = .int .i64 (i : Int) from hp 25 (by kernel_rfl) (by decide))
        exact h_evA (v := .pointer (some (el A 3 (i : Int) 0))) ha rfl (e_idxEl (e := x) Try.underlying22 Try.sizeOf41 rfl rfl (hl.1.ext xw_wI) hx (by omega) rfl) rfl rfl (Ext.rfl' _)
      · intro Q act_ wI hxI ha hp
        have xw_wI : Ext w wI := Ext.tr xw_w2 hxI
        have ha := ha.add (show act_.tmps.getD 44 undef = .pointer (some (el A 3 (i : Int) 0)) from hp 26 (by kernel_rfl) (by decide))
        exact h_evA (v := .pointer (some (el A 3 (i : Int) 2))) ha rfl (e_fieldEl (fsz := 1) Try.underlying41 rfl Try.sizeOf9 (by decide) rfl rfl) rfl rfl (Ext.rfl' _)
      · intro Q act_ wI hxI ha hp
        have xw_wI : Ext w wI := Ext.tr xw_w2 hxI
        have ha := ha.add (show act_.tmps.getD 45 undef = .pointer (some (el A 3 (i : Int) 2)) from hp 27 (by kernel_rfl) (by decide))
        exact h_evA (v := .string (B x.d)) ha rfl (e_ldEl (xs := l) (enc := encE) (e := x) rfl (hl.1.ext xw_wI) hx Try.isAgg9 rfl) rfl rfl (Ext.rfl' _)
      · intro Q act_ wI hxI ha hp
        have xw_wI : Ext w wI := Ext.tr xw_w2 hxI
        have ha := ha.add (show act_.tmps.getD 41 undef = .string (B ((acc ++ x.g) ++ [u8of ((4 : Int) + (x.d.length : Int)), u8of x.v])) from hp 23 (by kernel_rfl) (by decide))
        have ha := ha.add (show act_.tmps.getD 46 undef = .string (B x.d) from hp 28 (by kernel_rfl) (by decide))
        exact h_evA (v := .string (B (((acc ++ x.g) ++ [u8of ((4 : Int) + (x.d.length : Int)), u8of x.v]) ++ x.d))) ha rfl (e_sadd rfl rfl (by first | omega | (simp <;> omega))) rfl rfl (Ext.rfl' _)
      intro vs_ w4 hx_w4 hvs act_ ha hv
      have xw_w4 : Ext w w4 := Ext.tr xw_w2 hx_w4
      have ha := ha.add ((hv 29 (by decide)).trans (show vs_ 29 = .string (B (((acc ++ x.g) ++ [u8of ((4 : Int) + (x.d.length : Int)), u8of x.v]) ++ x.d)) from hvs 29 (by decide)))
      refine st_go ha ?_
      clear ha hv hvs
      refine st_ev (v := .string (B (((acc ++ x.g) ++ [u8of ((4 : Int) + (x.d.length : Int)), u8of x.v]) ++ x.d))) rfl (e_assign rfl) ?_
      refine st_nil (nrm_k ?_)
      refine sc_reg ?_
      refine Go.XK.s (v := .int .i64 (i : Int)) (e_move rfl) ?_
      refine Go.XK.s (v := .int .i64 ((i : Int) + 1)) (e_add rfl rfl (by omega)) ?_
      refine Go.XK.s (v := .int .i64 ((i : Int) + 1)) (e_assign rfl) ?_
      refine sl_nil ?_
      exact nrm_loopq rfl _ _ (by omega) ⟨i + 1, _, rfl, rfl, xw_w4, ⟨by omega, by rw [encL_take hx, ← hacc, encE1]; simp only [List.append_assoc]⟩⟩ (.cons rfl (.cons rfl (.cons rfl (.nil))))
    ·
      refine sc_exit rfl (nrm_k ?_)
      refine sc_seq ?_
      refine sc_reg ?_
      refine Go.XK.s (v := .string (B acc)) (e_move rfl) ?_
      refine Go.XK.s (v := .string (B acc)) (e_assign rfl) ?_
      refine Go.XK.s (v := .int .i64 0) (e_assign rfl) ?_
      refine sl_nil (nrm_k ?_)
      refine sc_retf rfl (ret2 Try.results12 (rvt rfl) (rvt rfl) ?_)
      exact ⟨by rw [encR_ok hc0, hacc, List.take_of_length_le (by omega)], xw_w2⟩

/-- masterdisc/susp.Decode (function 13) -/
theorem decode_c (s : List UInt8) (w : World) (hs0 : s.length ≤ 1099511627776) : CallR Try.prog 13 [.string (B s)] w (fun v w' => ∃ v1, v = .tuple #[v1, .int .i64 (decR s).2] ∧ Go.XK.Own w' w.heap.size 41 3 encE v1 (decR s).1 ∧ Ext w w') := by
  refine callR_of (n := 52) [(0, .string (B s))] Try.func13 rfl rfl (Nat.le_of_ble_eq_true rfl) rfl ?_
  refine sc_seq ?_
  refine sc_reg ?_
  refine Go.XK.s (v := .slice none 0 0) (e_assign rfl) ?_
  refine Go.XK.s (v := .int .i64 0) (e_assign rfl) ?_
  refine sl_nil (nrm_k ?_)
  refine sc_seq ?_
  refine sc_reg ?_
  refine Go.XK.s (v := .slice none 0 0) (e_assign rfl) ?_
  refine sl_nil (nrm_k ?_)
  refine sc_seq ?_
  refine sc_block ?_
  refine sc_loop (fun m_ l_ w_ => ∃ (s1 : List UInt8) (out : List En) (v_ : Value), m_ = s1.length ∧ l_ = [(0, .string (B s1)), (4, v_)] ∧ Ext w w_ ∧ Go.XK.Own w_ w.heap.size 41 3 encE v_ out ∧ (4 * out.length + s1.length ≤ s.length) ∧ (decL s1.length s1).map (out ++ ·) = decL s.length s) _ [(0, .string (B s)), (4, (.slice none 0 0))] ⟨s, [], .slice none 0 0, rfl, rfl, (Ext.rfl' w), (Go.XK.Own.nil _ _ _ _ _), ⟨by simp, by simp⟩⟩ (.cons rfl (.cons rfl (.nil))) ?_
  rintro j2 _ w1 ⟨s1, out, v_, rfl, rfl, xw_w1, ho, ⟨hle, hT⟩⟩
  refine sc_seq ?_
  refine sc_seq ?_
  refine sc_reg ?_
  refine Go.XK.s (v := .string (B s1)) (e_move rfl) ?_
  refine Go.XK.s (v := .int .i64 (s1.length : Int)) (e_slen Try.underlying9 rfl) ?_
  refine Go.XK.s (v := .bool (decide ((4 : Int) ≤ (s1.length : Int)))) (e_ge rfl rfl) ?_
  refine Go.XK.s (v := .bool (decide ((4 : Int) ≤ (s1.length : Int)))) (e_move rfl) ?_
  refine sl_merge 4 13 (.bool ((decide ((4 : Int) ≤ (s1.length : Int))) && (decide ((at_ s1 0) ≠ (0 : UInt8))))) ?_ ?_
  · refine sl_case (t := 9) rfl (fun g2_3 => ?_) (fun g2_3 => ?_)
    ·
      have h4_ := of_decide_eq_true g2_3
      refine sl_gev (v := .string (B s1)) rfl rfl g2_3 (e_move rfl) rfl (by decide) ?_
      refine sl_gev (v := .int .u8 ((at_ s1 0).toNat)) rfl rfl g2_3 (e_sat Try.underlying9 rfl rfl (by decide) (by omega)) rfl (by decide) ?_
      refine sl_gev (v := .bool (decide ((at_ s1 0) ≠ (0 : UInt8)))) rfl rfl g2_3 (e_bne (a := (at_ s1 0)) (b := 0) rfl rfl) rfl (by decide) ?_
      refine Go.XK.s (v := .bool (decide ((at_ s1 0) ≠ (0 : UInt8)))) (e_pickT rfl g2_3 rfl) ?_
      exact sl_nil (fun a ha => ⟨rfl, ha.sub (.cons (by rw [g2_3]; rfl) (sub_self_cons (sub_self_cons (sub_self_cons (sub_self_cons (Sub.refl _) rfl) rfl) rfl) rfl))⟩)
    ·
      refine sl_gskip rfl rfl g2_3 (by decide) ?_
      refine sl_gskip rfl rfl g2_3 (by decide) ?_
      refine sl_gskip rfl rfl g2_3 (by decide) ?_
      refine Go.XK.s (v := .bool false) (e_pickF rfl g2_3 rfl) ?_
      exact sl_nil (fun a ha => ⟨rfl, ha.sub (.cons (by rw [g2_3]; rfl) (sub_self_cons (sub_self_cons (sub_self_cons (sub_self_cons (Sub.refl _) rfl) rfl) rfl) rfl))⟩)
  refine Go.XK.s (v := .bool ((decide ((4 : Int) ≤ (s1.length : Int))) && (decide ((at_ s1 0) ≠ (0 : UInt8))))) (e_move rfl) ?_
  refine sl_merge 4 18 (.bool (((decide ((4 : Int) ≤ (s1.length : Int))) && (decide ((at_ s1 0) ≠ (0 : UInt8)))) && (decide (s1.take 2 ≠ [83, 84])))) ?_ ?_
  · refine sl_case (t := 14) rfl (fun g2_8 => ?_) (fun g2_8 => ?_)
    ·
      have h4_ : (4 : Int) ≤ (s1.length : Int) := by simp only [Bool.and_eq_true, decide_eq_true_eq] at g2_8; exact g2_8.1
      refine sl_gev (v := .string (B s1)) rfl rfl g2_8 (e_move rfl) rfl (by decide) ?_
      refine sl_gev (v := .string (B (s1.take 2))) rfl rfl g2_8 (e_sslice (lo := 0) (hi := 2) Try.underlying9 rfl Bd.no (Bd.at_ rfl rfl) (by omega) (by omega)) rfl (by decide) ?_
      refine sl_gev (v := .bool (decide (s1.take 2 ≠ [83, 84]))) rfl rfl g2_8 (e_sne rfl rfl) rfl (by decide) ?_
      refine Go.XK.s (v := .bool (decide (s1.take 2 ≠ [83, 84]))) (e_pickT rfl g2_8 rfl) ?_
      exact sl_nil (fun a ha => ⟨rfl, ha.sub (.cons (by rw [g2_8]; rfl) (sub_self_cons (sub_self_cons (sub_self_cons (sub_self_cons (Sub.refl _) rfl) rfl) rfl) rfl))⟩)
    ·
      refine sl_gskip rfl rfl g2_8 (by decide) ?_
      refine sl_gskip rfl rfl g2_8 (by decide) ?_
      refine sl_gskip rfl rfl g2_8 (by decide) ?_
      refine Go.XK.s (v := .bool false) (e_pickF rfl g2_8 rfl) ?_
      exact sl_nil (fun a ha => ⟨rfl, ha.sub (.cons (by rw [g2_8]; rfl) (sub_self_cons (sub_self_cons (sub_self_cons (sub_self_cons (Sub.refl _) rfl) rfl) rfl) rfl))⟩)
  refine sl_nil (nrm_k ?_)
  refine sc_if rfl (fun c18 => ?_) (fun c18 => ?_)
  ·
    have hst := stop_no c18
    have h4 := stop_len hst
    have hln := lenH_lt s1
    refine sc_skip (nrm_k ?_)
    refine sc_block ?_
    refine sc_seq ?_
    refine sc_reg ?_
    refine Go.XK.s (v := .string (B s1)) (e_move rfl) ?_
    refine Go.XK.s (v := .int .u8 ((at_ s1 2).toNat)) (e_sat Try.underlying9 rfl rfl (by decide) (by omega)) ?_
    refine Go.XK.s (v := .int .i64 ((at_ s1 2).toNat : Int)) (e_u8int (c := at_ s1 2) Try.underlying5 Try.underlying3 (by decide) rfl) ?_
    refine Go.XK.s (v := .int .i64 ((at_ s1 2).toNat : Int)) (e_assign rfl) ?_
    refine sl_nil (nrm_k ?_)
    refine sc_seq ?_
    refine sc_seq ?_
    refine sc_reg ?_
    refine Go.XK.s (v := .string (B s1)) (e_move rfl) ?_
    refine Go.XK.s (v := .string (B (s1.take 2))) (e_sslice (lo := 0) (hi := 2) Try.underlying9 rfl Bd.no (Bd.at_ rfl rfl) (by omega) (by omega)) ?_
    refine sl_call ent49 rfl rfl (sig_c _ w1 (by first | omega | (simp; omega))) (by decide) ?_
    rintro _ w3 ⟨rfl, hw3⟩
    have xw_w3 : Ext w w3 := Ext.tr xw_w1 hw3
    replace ho := ho.ext hw3
    refine Go.XK.s (v := .bool (!(sig (s1.take 2)))) (e_not rfl) ?_
    refine Go.XK.s (v := .bool (!(sig (s1.take 2)))) (e_move rfl) ?_
    refine sl_merge 3 29 (.bool ((!(sig (s1.take 2))) || (decide (((at_ s1 2).toNat : Int) < 4)))) ?_ ?_
    · refine sl_case (t := 26) rfl (fun g4_4 => ?_) (fun g4_4 => ?_)
      ·
        refine sl_gskip rfl rfl g4_4 (by decide) ?_
        refine sl_gskip rfl rfl g4_4 (by decide) ?_
        refine Go.XK.s (v := .bool true) (e_pickT rfl g4_4 rfl) ?_
        exact sl_nil (fun a ha => ⟨rfl, ha.sub (.cons (by rw [g4_4]; rfl) (sub_self_cons (sub_self_cons (sub_self_cons (Sub.refl _) rfl) rfl) rfl))⟩)
      ·
        refine sl_gev (v := .int .i64 ((at_ s1 2).toNat : Int)) rfl rfl g4_4 (e_move rfl) rfl (by decide) ?_
        refine sl_gev (v := .bool (decide (((at_ s1 2).toNat : Int) < 4))) rfl rfl g4_4 (e_lt rfl rfl) rfl (by decide) ?_
        refine Go.XK.s (v := .bool (decide (((at_ s1 2).toNat : Int) < 4))) (e_pickF rfl g4_4 rfl) ?_
        exact sl_nil (fun a ha => ⟨rfl, ha.sub (.cons (by rw [g4_4]; rfl) (sub_self_cons (sub_self_cons (sub_self_cons (Sub.refl _) rfl) rfl) rfl))⟩)
    refine Go.XK.s (v := .bool ((!(sig (s1.take 2))) || (decide (((at_ s1 2).toNat : Int) < 4)))) (e_move rfl) ?_
    refine sl_merge 5 35 (.bool (((!(sig (s1.take 2))) || (decide (((at_ s1 2).toNat : Int) < 4))) || (decide ((s1.length : Int) < ((at_ s1 2).toNat : Int))))) ?_ ?_
    · refine sl_case (t := 30) rfl (fun g4_8 => ?_) (fun g4_8 => ?_)
      ·
        refine sl_gskip rfl rfl g4_8 (by decide) ?_
        refine sl_gskip rfl rfl g4_8 (by decide) ?_
        refine sl_gskip rfl rfl g4_8 (by decide) ?_
        refine sl_gskip rfl rfl g4_8 (by decide) ?_
        refine Go.XK.s (v := .bool true) (e_pickT rfl g4_8 rfl) ?_
        exact sl_nil (fun a ha => ⟨rfl, ha.sub (.cons (by rw [g4_8]; rfl) (sub_self_cons (sub_self_cons (sub_self_cons (sub_self_cons (sub_self_cons (Sub.refl _) rfl) rfl) rfl) rfl) rfl))⟩)
      ·
        refine sl_gev (v := .int .i64 ((at_ s1 2).toNat : Int)) rfl rfl g4_8 (e_move rfl) rfl (by decide) ?_
        refine sl_gev (v := .string (B s1)) rfl rfl g4_8 (e_move rfl) rfl (by decide) ?_
        refine sl_gev (v := .int .i64 (s1.length : Int)) rfl rfl g4_8 (e_slen Try.underlying9 rfl) rfl (by decide) ?_
        refine sl_gev (v := .bool (decide ((s1.length : Int) < ((at_ s1 2).toNat : Int)))) rfl rfl g4_8 (e_gt rfl rfl) rfl (by decide) ?_
        refine Go.XK.s (v := .bool (decide ((s1.length : Int) < ((at_ s1 2).toNat : Int)))) (e_pickF rfl g4_8 rfl) ?_
        exact sl_nil (fun a ha => ⟨rfl, ha.sub (.cons (by rw [g4_8]; rfl) (sub_self_cons (sub_self_cons (sub_self_cons (sub_self_cons (sub_self_cons (Sub.refl _) rfl) rfl) rfl) rfl) rfl))⟩)
    refine sl_nil (nrm_k ?_)
    refine sc_if rfl (fun c35 => ?_) (fun c35 => ?_)
    ·
      have hbd : badH s1 = true := c35
      refine sc_seq ?_
      refine sc_reg ?_
      refine Go.XK.s (v := .slice none 0 0) (e_assign rfl) ?_
      refine Go.XK.s (v := .int .i64 10) (e_assign rfl) ?_
      refine sl_nil (nrm_k ?_)
      refine sc_retf rfl (ret2 Try.results13 (rvt rfl) (rvt rfl) ?_)
      exact ⟨.slice none 0 0, by rw [decR_none (dec_badT hst hbd hT)], by rw [decR_none (dec_badT hst hbd hT)]; exact Go.XK.Own.nil _ _ _ _ _, xw_w3⟩
    ·
      have hbd : badH s1 = false := c35
      have hsp := badH_spec hbd
      have hlh : lenH s1 = ((at_ s1 2).toNat : Int) := rfl
      refine sc_skip (nrm_k ?_)
      refine sc_seq ?_
      refine sc_free [(35, .bool (((!(sig (s1.take 2))) || (decide (((at_ s1 2).toNat : Int) < 4))) || (decide ((s1.length : Int) < ((at_ s1 2).toNat : Int))))), (30, .bool ((!(sig (s1.take 2))) || (decide (((at_ s1 2).toNat : Int) < 4)))), (29, .bool ((!(sig (s1.take 2))) || (decide (((at_ s1 2).toNat : Int) < 4)))), (26, .bool (!(sig (s1.take 2)))), (25, .bool (!(sig (s1.take 2)))), (24, .bool (sig (s1.take 2))), (23, .string (B (s1.take 2))), (22, .string (B s1)), (5, .int .i64 ((at_ s1 2).toNat : Int)), (21, .int .i64 ((at_ s1 2).toNat : Int)), (20, .int .u8 ((at_ s1 2).toNat)), (19, .string (B s1)), (18, .bool (((decide ((4 : Int) ≤ (s1.length : Int))) && (decide ((at_ s1 0) ≠ (0 : UInt8)))) && (decide (s1.take 2 ≠ [83, 84])))), (14, .bool ((decide ((4 : Int) ≤ (s1.length : Int))) && (decide ((at_ s1 0) ≠ (0 : UInt8))))), (13, .bool ((decide ((4 : Int) ≤ (s1.length : Int))) && (decide ((at_ s1 0) ≠ (0 : UInt8))))), (9, .bool (decide ((4 : Int) ≤ (s1.length : Int)))), (8, .bool (decide ((4 : Int) ≤ (s1.length : Int)))), (7, .int .i64 (s1.length : Int)), (6, .string (B s1)), (0, .string (B s1)), (4, v_)] [36, 37, 38, 39, 40, 41, 42, 43, 44, 45, 46] [(Is (v_)), (Is (.string (B s1))), (Is (.string (B (s1.take 2)))), (Is (.string (B s1))), (Is (.int .u8 ((at_ s1 3).toNat))), (Is (.int .i64 ((at_ s1 3).toNat : Int))), (Is (.string (B s1))), (Is (.int .i64 ((at_ s1 2).toNat : Int))), (Is (.string (B ((s1.take (at_ s1 2).toNat).drop 4)))), (Is (.agg #[.string (B (s1.take 2)), .int .i64 ((at_ s1 3).toNat : Int), .string (B ((s1.take (at_ s1 2).toNat).drop 4))])), (fun VV WV => ∃ b_, VV = Value.slice (some ⟨b_, 0, none⟩) 1 1 ∧ Blk WV b_ 41 [.string (B (s1.take 2)), .int .i64 ((at_ s1 3).toNat : Int), .string (B ((s1.take (at_ s1 2).toNat).drop 4))])] [11, 12] (by kernel_rfl) (Sub.refl _) (by kernel_rfl) (by kernel_rfl) (by kernel_rfl) rfl (by kernel_rfl) (ds_ext (Stays.spec (.is _ (.is _ (.is _ (.is _ (.is _ (.is _ (.is _ (.is _ (.is _ (.is _ (.any (fun _ _ _ ⟨b_, e_, h_⟩ hx_ => ⟨b_, e_, h_.ext hx_⟩) (.nil)))))))))))))) ⟨?_, ?_, ?_, ?_, ?_, ?_, ?_, ?_, ?_, ?_, ?_, trivial⟩ ?_
      · intro Q act_ wI hxI ha hp
        have xw_wI : Ext w wI := Ext.tr xw_w3 hxI
        replace ho := ho.ext hxI
        exact h_evA (v := v_) ha rfl (e_move rfl) rfl rfl (Ext.rfl' _)
      · intro Q act_ wI hxI ha hp
        have xw_wI : Ext w wI := Ext.tr xw_w3 hxI
        replace ho := ho.ext hxI
        exact h_evA (v := .string (B s1)) ha rfl (e_move rfl) rfl rfl (Ext.rfl' _)
      · intro Q act_ wI hxI ha hp
        have xw_wI : Ext w wI := Ext.tr xw_w3 hxI
        replace ho := ho.ext hxI
        have ha := ha.add (show act_.tmps.getD 37 undef = .string (B s1) from hp 1 (by kernel_rfl) (by decide))
        exact h_evA (v := .string (B (s1.take 2))) ha rfl (e_sslice (lo := 0) (hi := 2) Try.underlying9 rfl Bd.no (Bd.at_ rfl rfl) (by omega) (by omega)) rfl rfl (Ext.rfl' _)
      · intro Q act_ wI hxI ha hp
        have xw_wI : Ext w wI := Ext.tr xw_w3 hxI
        replace ho := ho.ext hxI
        exact h_evA (v := .string (B s1)) ha rfl (e_move rfl) rfl rfl (Ext.rfl' _)
      · intro Q act_ wI hxI ha hp
        have xw_wI : Ext w wI := Ext.tr xw_w3 hxI
        replace ho := ho.ext hxI
        have ha := ha.add (show act_.tmps.getD 39 undef = .string (B s1) from hp 3 (by kernel_rfl) (by decide))
        exact h_evA (v := .int .u8 ((at_ s1 3).toNat)) ha rfl (e_sat Try.underlying9 rfl rfl (by decide) (by omega)) rfl rfl (Ext.rfl' _)
      · intro Q act_ wI hxI ha hp
        have xw_wI : Ext w wI := Ext.tr xw_w3 hxI
        replace ho := ho.ext hxI
        have ha := ha.add (show act_.tmps.getD 40 undef = .int .u8 ((at_ s1 3).toNat) from hp 4 (by kernel_rfl) (by decide))
        exact h_evA (v := .int .i64 ((at_ s1 3).toNat : Int)) ha rfl (e_u8int (c := at_ s1 3) Try.underlying5 Try.underlying3 (by decide) rfl) rfl rfl (Ext.rfl' _)
      · intro Q act_ wI hxI ha hp
        have xw_wI : Ext w wI := Ext.tr xw_w3 hxI
        replace ho := ho.ext hxI
        exact h_evA (v := .string (B s1)) ha rfl (e_move rfl) rfl rfl (Ext.rfl' _)
      · intro Q act_ wI hxI ha hp
        have xw_wI : Ext w wI := Ext.tr xw_w3 hxI
        replace ho := ho.ext hxI
        exact h_evA (v := .int .i64 ((at_ s1 2).toNat : Int)) ha rfl (e_move rfl) rfl rfl (Ext.rfl' _)
      · intro Q act_ wI hxI ha hp
        have xw_wI : Ext w wI := Ext.tr xw_w3 hxI
        replace ho := ho.ext hxI
        have ha := ha.add (show act_.tmps.getD 42 undef = .string (B s1) from hp 6 (by kernel_rfl) (by decide))
        have ha := ha.add (show act_.tmps.getD 43 undef = .int .i64 ((at_ s1 2).toNat : Int) from hp 7 (by kernel_rfl) (by decide))
        exact h_evA (v := .string (B ((s1.take (at_ s1 2).toNat).drop 4))) ha rfl (e_sslice (lo := 4) (hi := (at_ s1 2).toNat) Try.underlying9 rfl (Bd.at_ rfl rfl) (Bd.at_ rfl (by rfl)) (by omega) (by omega)) rfl rfl (Ext.rfl' _)
      · intro Q act_ wI hxI ha hp
        have xw_wI : Ext w wI := Ext.tr xw_w3 hxI
        replace ho := ho.ext hxI
        have ha := ha.add (show act_.tmps.getD 38 undef = .string (B (s1.take 2)) from hp 2 (by kernel_rfl) (by decide))
        have ha := ha.add (show act_.tmps.getD 41 undef = .int .i64 ((at_ s1 3).toNat : Int) from hp 5 (by kernel_rfl) (by decide))
        have ha := ha.add (show act_.tmps.getD 44 undef = .string (B ((s1.take (at_ s1 2).toNat).drop 4)) from hp 8 (by kernel_rfl) (by decide))
        exact h_evA (v := .agg #[.string (B (s1.take 2)), .int .i64 ((at_ s1 3).toNat : Int), .string (B ((s1.take (at_ s1 2).toNat).drop 4))]) ha rfl (e_build (vs := [(0, .string (B (s1.take 2))), (1, .int .i64 ((at_ s1 3).toNat : Int)), (2, .string (B ((s1.take (at_ s1 2).toNat).drop 4)))]) rfl (by kernel_rfl)) rfl rfl (Ext.rfl' _)
      · intro Q act_ wI hxI ha hp
        have xw_wI : Ext w wI := Ext.tr xw_w3 hxI
        replace ho := ho.ext hxI
        have ha := ha.add (show act_.tmps.getD 45 undef = .agg #[.string (B (s1.take 2)), .int .i64 ((at_ s1 3).toNat : Int), .string (B ((s1.take (at_ s1 2).toNat).drop 4))] from hp 9 (by kernel_rfl) (by decide))
        exact h_evA ha rfl (e_buildSlice (vs := [(0, .agg #[.string (B (s1.take 2)), .int .i64 ((at_ s1 3).toNat : Int), .string (B ((s1.take (at_ s1 2).toNat).drop 4))])]) (v := .slice (some ⟨wI.heap.size, 0, none⟩) 1 1) (w1 := wI.alloc (.cells ([.string (B (s1.take 2)), .int .i64 ((at_ s1 3).toNat : Int), .string (B ((s1.take (at_ s1 2).toNat).drop 4))] : List Value).toArray 41)) rfl (by kernel_rfl)) rfl ⟨_, rfl, Blk.new wI 41 [.string (B (s1.take 2)), .int .i64 ((at_ s1 3).toNat : Int), .string (B ((s1.take (at_ s1 2).toNat).drop 4))]⟩ (Ext.alloc _ _)
      intro vs_ w4 hx_w4 hvs act_ ha hv
      have xw_w4 : Ext w w4 := Ext.tr xw_w3 hx_w4
      replace ho := ho.ext hx_w4
      have ha := ha.add ((hv 0 (by decide)).trans (show vs_ 0 = v_ from hvs 0 (by decide)))
      obtain ⟨b46, e46, hb46⟩ := (show ∃ b_, vs_ 10 = Value.slice (some ⟨b_, 0, none⟩) 1 1 ∧ Blk w4 b_ 41 [.string (B (s1.take 2)), .int .i64 ((at_ s1 3).toNat : Int), .string (B ((s1.take (at_ s1 2).toNat).drop 4))] from hvs 10 (by decide))
      have ha := ha.add ((hv 10 (by decide)).trans e46)
      refine st_go ha ?_
      clear ha hv hvs
      refine st_appendLit2 (w0 := w) (z := .agg #[.string (B []), .int .i64 0, .string (B [])]) (kk := 3) (bytes := 40) rfl rfl rfl Try.underlying22 (by kernel_rfl) rfl (by decide) (fun _ => rfl) one_encE [⟨s1.take 2, ((at_ s1 3).toNat : Int), (s1.take (at_ s1 2).toNat).drop 4⟩] ho xw_w4 hb46 rfl rfl (by first | omega | (simp only [maxLen]; omega) | (simp only [maxLen]; simp; omega)) (by first | omega | (simp only [maxLen]; omega) | (simp only [maxLen]; simp; omega)) ?_
      intro v47 w5 ho47 xw_w5 hg47 hat47
      refine st_ev (v := v47) rfl (e_assign rfl) ?_
      refine st_nil (nrm_k ?_)
      refine sc_reg ?_
      refine Go.XK.s (v := .string (B s1)) (e_move rfl) ?_
      refine Go.XK.s (v := .int .i64 ((at_ s1 2).toNat : Int)) (e_move rfl) ?_
      refine Go.XK.s (v := .string (B (s1.drop ((at_ s1 2).toNat)))) (e_sdrop (lo := (at_ s1 2).toNat) Try.underlying9 rfl (Bd.at_ rfl (by rfl)) (by omega)) ?_
      refine Go.XK.s (v := .string (B (s1.drop ((at_ s1 2).toNat)))) (e_assign rfl) ?_
      refine sl_nil ?_
      exact nrm_loopq rfl _ _ (by rw [List.length_drop]; omega) ⟨s1.drop (lenH s1).toNat, out ++ [hdE s1], v47, rfl, rfl, xw_w5, ho47, ⟨by rw [List.length_append, List.length_drop]; simp; omega, dec_step hst hbd hT⟩⟩ (.cons rfl (.cons rfl (.nil)))
  ·
    have hst := stop_yes c18
    refine sc_exit rfl (nrm_k ?_)
    refine sc_seq ?_
    refine sc_reg ?_
    refine Go.XK.s (v := v_) (e_move rfl) ?_
    refine Go.XK.s (v := v_) (e_assign rfl) ?_
    refine Go.XK.s (v := .int .i64 0) (e_assign rfl) ?_
    refine sl_nil (nrm_k ?_)
    refine sc_retf rfl (ret2 Try.results13 (rvt rfl) (rvt rfl) ?_)
    have hE := decR_some (dec_endT hst hT)
    exact ⟨v_, by rw [hE], by rw [hE]; exact ho, xw_w1⟩

/-- masterdisc/masterdiscref24.Decode (function 14) -/
theorem rdecode_c (s : List UInt8) (w : World) (hs0 : s.length ≤ 1099511627776) : CallR Try.prog 14 [.string (B s)] w (fun v w' => ∃ v1, v = .tuple #[v1, .int .i64 (decR s).2] ∧ Go.XK.Own w' w.heap.size 41 3 encE v1 (decR s).1 ∧ Ext w w') := by
  refine callR_of (n := 51) [(0, .string (B s))] Try.func14 rfl rfl (Nat.le_of_ble_eq_true rfl) rfl ?_
  refine sc_seq ?_
  refine sc_reg ?_
  refine Go.XK.s (v := .slice none 0 0) (e_assign rfl) ?_
  refine Go.XK.s (v := .int .i64 0) (e_assign rfl) ?_
  refine sl_nil (nrm_k ?_)
  refine sc_seq ?_
  refine sc_reg ?_
  refine Go.XK.s (v := .slice none 0 0) (e_assign rfl) ?_
  refine sl_nil (nrm_k ?_)
  refine sc_seq ?_
  refine sc_block ?_
  refine sc_loop (fun m_ l_ w_ => ∃ (s1 : List UInt8) (out : List En) (v_ : Value), m_ = s1.length ∧ l_ = [(0, .string (B s1)), (4, v_)] ∧ Ext w w_ ∧ Go.XK.Own w_ w.heap.size 41 3 encE v_ out ∧ (4 * out.length + s1.length ≤ s.length) ∧ (decL s1.length s1).map (out ++ ·) = decL s.length s) _ [(0, .string (B s)), (4, (.slice none 0 0))] ⟨s, [], .slice none 0 0, rfl, rfl, (Ext.rfl' w), (Go.XK.Own.nil _ _ _ _ _), ⟨by simp, by simp⟩⟩ (.cons rfl (.cons rfl (.nil))) ?_
  rintro j2 _ w1 ⟨s1, out, v_, rfl, rfl, xw_w1, ho, ⟨hle, hT⟩⟩
  refine sc_seq ?_
  refine sc_seq ?_
  refine sc_reg ?_
  refine Go.XK.s (v := .string (B s1)) (e_move rfl) ?_
  refine Go.XK.s (v := .int .i64 (s1.length : Int)) (e_slen Try.underlying9 rfl) ?_
  refine Go.XK.s (v := .bool (decide ((4 : Int) ≤ (s1.length : Int)))) (e_ge rfl rfl) ?_
  refine Go.XK.s (v := .bool (decide ((4 : Int) ≤ (s1.length : Int)))) (e_move rfl) ?_
  refine sl_merge 4 13 (.bool ((decide ((4 : Int) ≤ (s1.length : Int))) && (decide ((at_ s1 0) ≠ (0 : UInt8))))) ?_ ?_
  · refine sl_case (t := 9) rfl (fun g2_3 => ?_) (fun g2_3 => ?_)
    ·
      have h4_ := of_decide_eq_true g2_3
      refine sl_gev (v := .string (B s1)) rfl rfl g2_3 (e_move rfl) rfl (by decide) ?_
      refine sl_gev (v := .int .u8 ((at_ s1 0).toNat)) rfl rfl g2_3 (e_sat Try.underlying9 rfl rfl (by decide) (by omega)) rfl (by decide) ?_
      refine sl_gev (v := .bool (decide ((at_ s1 0) ≠ (0 : UInt8)))) rfl rfl g2_3 (e_bne (a := (at_ s1 0)) (b := 0) rfl rfl) rfl (by decide) ?_
      refine Go.XK.s (v := .bool (decide ((at_ s1 0) ≠ (0 : UInt8)))) (e_pickT rfl g2_3 rfl) ?_
      exact sl_nil (fun a ha => ⟨rfl, ha.sub (.cons (by rw [g2_3]; rfl) (sub_self_cons (sub_self_cons (sub_self_cons (sub_self_cons (Sub.refl _) rfl) rfl) rfl) rfl))⟩)
    ·
      refine sl_gskip rfl rfl g2_3 (by decide) ?_
      refine sl_gskip rfl rfl g2_3 (by decide) ?_
      refine sl_gskip rfl rfl g2_3 (by decide) ?_
      refine Go.XK.s (v := .bool false) (e_pickF rfl g2_3 rfl) ?_
      exact sl_nil (fun a ha => ⟨rfl, ha.sub (.cons (by rw [g2_3]; rfl) (sub_self_cons (sub_self_cons (sub_self_cons (sub_self_cons (Sub.refl _) rfl) rfl) rfl) rfl))⟩)
  refine sl_nil (nrm_k ?_)
  refine sc_if rfl (fun c13 => ?_) (fun c13 => ?_)
  ·
    have h4 : 4 ≤ s1.length := by simp only [Bool.and_eq_true, decide_eq_true_eq] at c13; omega
    have hln := lenH_lt s1
    refine sc_skip (nrm_k ?_)
    refine sc_block ?_
    refine sc_seq ?_
    refine sc_seq ?_
    refine sc_reg ?_
    refine Go.XK.s (v := .string (B s1)) (e_move rfl) ?_
    refine Go.XK.s (v := .string (B (s1.take 2))) (e_sslice (lo := 0) (hi := 2) Try.underlying9 rfl Bd.no (Bd.at_ rfl rfl) (by omega) (by omega)) ?_
    refine Go.XK.s (v := .bool (decide (s1.take 2 = [83, 84]))) (e_seq rfl rfl) ?_
    refine sl_nil (nrm_k ?_)
    refine sc_ifd rfl (fun c16 => ?_) (fun c16 => ?_)
    ·
      have hst := stop_yes2 c16
      refine sc_seq ?_
      refine sc_reg ?_
      refine Go.XK.s (v := v_) (e_move rfl) ?_
      refine Go.XK.s (v := v_) (e_assign rfl) ?_
      refine Go.XK.s (v := .int .i64 0) (e_assign rfl) ?_
      refine sl_nil (nrm_k ?_)
      refine sc_retf rfl (ret2 Try.results14 (rvt rfl) (rvt rfl) ?_)
      have hE := decR_some (dec_endT hst hT)
      exact ⟨v_, by rw [hE], by rw [hE]; exact ho, xw_w1⟩
    ·
      have hst := stop_no2 c13 c16
      refine sc_skip (nrm_k ?_)
      refine sc_seq ?_
      refine sc_reg ?_
      refine Go.XK.s (v := .string (B s1)) (e_move rfl) ?_
      refine Go.XK.s (v := .int .u8 ((at_ s1 2).toNat)) (e_sat Try.underlying9 rfl rfl (by decide) (by omega)) ?_
      refine Go.XK.s (v := .int .i64 ((at_ s1 2).toNat : Int)) (e_u8int (c := at_ s1 2) Try.underlying5 Try.underlying3 (by decide) rfl) ?_
      refine Go.XK.s (v := .int .i64 ((at_ s1 2).toNat : Int)) (e_assign rfl) ?_
      refine sl_nil (nrm_k ?_)
      refine sc_seq ?_
      refine sc_seq ?_
      refine sc_reg ?_
      refine Go.XK.s (v := .string (B s1)) (e_move rfl) ?_
      refine Go.XK.s (v := .string (B (s1.take 2))) (e_sslice (lo := 0) (hi := 2) Try.underlying9 rfl Bd.no (Bd.at_ rfl rfl) (by omega) (by omega)) ?_
      refine sl_call ent50 rfl rfl (rsig_c _ w1) (by decide) ?_
      rintro _ w3 ⟨rfl, hw3⟩
      have xw_w3 : Ext w w3 := Ext.tr xw_w1 hw3
      replace ho := ho.ext hw3
      refine Go.XK.s (v := .bool (!(sig (s1.take 2)))) (e_not rfl) ?_
      refine Go.XK.s (v := .bool (!(sig (s1.take 2)))) (e_move rfl) ?_
      refine sl_merge 3 28 (.bool ((!(sig (s1.take 2))) || (decide (((at_ s1 2).toNat : Int) < 4)))) ?_ ?_
      · refine sl_case (t := 25) rfl (fun g6_4 => ?_) (fun g6_4 => ?_)
        ·
          refine sl_gskip rfl rfl g6_4 (by decide) ?_
          refine sl_gskip rfl rfl g6_4 (by decide) ?_
          refine Go.XK.s (v := .bool true) (e_pickT rfl g6_4 rfl) ?_
          exact sl_nil (fun a ha => ⟨rfl, ha.sub (.cons (by rw [g6_4]; rfl) (sub_self_cons (sub_self_cons (sub_self_cons (Sub.refl _) rfl) rfl) rfl))⟩)
        ·
          refine sl_gev (v := .int .i64 ((at_ s1 2).toNat : Int)) rfl rfl g6_4 (e_move rfl) rfl (by decide) ?_
          refine sl_gev (v := .bool (decide (((at_ s1 2).toNat : Int) < 4))) rfl rfl g6_4 (e_lt rfl rfl) rfl (by decide) ?_
          refine Go.XK.s (v := .bool (decide (((at_ s1 2).toNat : Int) < 4))) (e_pickF rfl g6_4 rfl) ?_
          exact sl_nil (fun a ha => ⟨rfl, ha.sub (.cons (by rw [g6_4]; rfl) (sub_self_cons (sub_self_cons (sub_self_cons (Sub.refl _) rfl) rfl) rfl))⟩)
      refine Go.XK.s (v := .bool ((!(sig (s1.take 2))) || (decide (((at_ s1 2).toNat : Int) < 4)))) (e_move rfl) ?_
      refine sl_merge 5 34 (.bool (((!(sig (s1.take 2))) || (decide (((at_ s1 2).toNat : Int) < 4))) || (decide ((s1.length : Int) < ((at_ s1 2).toNat : Int))))) ?_ ?_
      · refine sl_case (t := 29) rfl (fun g6_8 => ?_) (fun g6_8 => ?_)
        ·
          refine sl_gskip rfl rfl g6_8 (by decide) ?_
          refine sl_gskip rfl rfl g6_8 (by decide) ?_
          refine sl_gskip rfl rfl g6_8 (by decide) ?_
          refine sl_gskip rfl rfl g6_8 (by decide) ?_
          refine Go.XK.s (v := .bool true) (e_pickT rfl g6_8 rfl) ?_
          exact sl_nil (fun a ha => ⟨rfl, ha.sub (.cons (by rw [g6_8]; rfl) (sub_self_cons (sub_self_cons (sub_self_cons (sub_self_cons (sub_self_cons (Sub.refl _) rfl) rfl) rfl) rfl) rfl))⟩)
        ·
          refine sl_gev (v := .int .i64 ((at_ s1 2).toNat : Int)) rfl rfl g6_8 (e_move rfl) rfl (by decide) ?_
          refine sl_gev (v := .string (B s1)) rfl rfl g6_8 (e_move rfl) rfl (by decide) ?_
          refine sl_gev (v := .int .i64 (s1.length : Int)) rfl rfl g6_8 (e_slen Try.underlying9 rfl) rfl (by decide) ?_
          refine sl_gev (v := .bool (decide ((s1.length : Int) < ((at_ s1 2).toNat : Int)))) rfl rfl g6_8 (e_gt rfl rfl) rfl (by decide) ?_
          refine Go.XK.s (v := .bool (decide ((s1.length : Int) < ((at_ s1 2).toNat : Int)))) (e_pickF rfl g6_8 rfl) ?_
          exact sl_nil (fun a ha => ⟨rfl, ha.sub (.cons (by rw [g6_8]; rfl) (sub_self_cons (sub_self_cons (sub_self_cons (sub_self_cons (sub_self_cons (Sub.refl _) rfl) rfl) rfl) rfl) rfl))⟩)
      refine sl_nil (nrm_k ?_)
      refine sc_if rfl (fun c34 => ?_) (fun c34 => ?_)
      ·
        have hbd : badH s1 = true := c34
        refine sc_seq ?_
        refine sc_reg ?_
        refine Go.XK.s (v := .slice none 0 0) (e_assign rfl) ?_
        refine Go.XK.s (v := .int .i64 10) (e_assign rfl) ?_
        refine sl_nil (nrm_k ?_)
        refine sc_retf rfl (ret2 Try.results14 (rvt rfl) (rvt rfl) ?_)
        exact ⟨.slice none 0 0, by rw [decR_none (dec_badT hst hbd hT)], by rw [decR_none (dec_badT hst hbd hT)]; exact Go.XK.Own.nil _ _ _ _ _, xw_w3⟩
      ·
        have hbd : badH s1 = false := c34
        have hsp := badH_spec hbd
        have hlh : lenH s1 = ((at_ s1 2).toNat : Int) := rfl
        refine sc_skip (nrm_k ?_)
        refine sc_seq ?_
        refine sc_free [(34, .bool (((!(sig (s1.take 2))) || (decide (((at_ s1 2).toNat : Int) < 4))) || (decide ((s1.length : Int) < ((at_ s1 2).toNat : Int))))), (29, .bool ((!(sig (s1.take 2))) || (decide (((at_ s1 2).toNat : Int) < 4)))), (28, .bool ((!(sig (s1.take 2))) || (decide (((at_ s1 2).toNat : Int) < 4)))), (25, .bool (!(sig (s1.take 2)))), (24, .bool (!(sig (s1.take 2)))), (23, .bool (sig (s1.take 2))), (22, .string (B (s1.take 2))), (21, .string (B s1)), (5, .int .i64 ((at_ s1 2).toNat : Int)), (20, .int .i64 ((at_ s1 2).toNat : Int)), (19, .int .u8 ((at_ s1 2).toNat)), (18, .string (B s1)), (16, .bool (decide (s1.take 2 = [83, 84]))), (15, .string (B (s1.take 2))), (14, .string (B s1)), (13, .bool ((decide ((4 : Int) ≤ (s1.length : Int))) && (decide ((at_ s1 0) ≠ (0 : UInt8))))), (9, .bool (decide ((4 : Int) ≤ (s1.length : Int)))), (8, .bool (decide ((4 : Int) ≤ (s1.length : Int)))), (7, .int .i64 (s1.length : Int)), (6, .string (B s1)), (0, .string (B s1)), (4, v_)] [35, 36, 37, 38, 39, 40, 41, 42, 43, 44, 45] [(Is (v_)), (Is (.string (B s1))), (Is (.string (B (s1.take 2)))), (Is (.string (B s1))), (Is (.int .u8 ((at_ s1 3).toNat))), (Is (.int .i64 ((at_ s1 3).toNat : Int))), (Is (.string (B s1))), (Is (.int .i64 ((at_ s1 2).toNat : Int))), (Is (.string (B ((s1.take (at_ s1 2).toNat).drop 4)))), (Is (.agg #[.string (B (s1.take 2)), .int .i64 ((at_ s1 3).toNat : Int), .string (B ((s1.take (at_ s1 2).toNat).drop 4))])), (fun VV WV => ∃ b_, VV = Value.slice (some ⟨b_, 0, none⟩) 1 1 ∧ Blk WV b_ 41 [.string (B (s1.take 2)), .int .i64 ((at_ s1 3).toNat : Int), .string (B ((s1.take (at_ s1 2).toNat).drop 4))])] [11, 12] (by kernel_rfl) (Sub.refl _) (by kernel_rfl) (by kernel_rfl) (by kernel_rfl) rfl (by kernel_rfl) (ds_ext (Stays.spec (.is _ (.is _ (.is _ (.is _ (.is _ (.is _ (.is _ (.is _ (.is _ (.is _ (.any (fun _ _ _ ⟨b_, e_, h_⟩ hx_ => ⟨b_, e_, h_.ext hx_⟩) (.nil)))))))))))))) ⟨?_, ?_, ?_, ?_, ?_, ?_, ?_, ?_, ?_, ?_, ?_, trivial⟩ ?_
        · intro Q act_ wI hxI ha hp
          have xw_wI : Ext w wI := Ext.tr xw_w3 hxI
          replace ho := ho.ext hxI
          exact h_evA (v := v_) ha rfl (e_move rfl) rfl rfl (Ext.rfl' _)
        · intro Q act_ wI hxI ha hp
          have xw_wI : Ext w wI := Ext.tr xw_w3 hxI
          replace ho := ho.ext hxI
          exact h_evA (v := .string (B s1)) ha rfl (e_move rfl) rfl rfl (Ext.rfl' _)
        · intro Q act_ wI hxI ha hp
          have xw_wI : Ext w wI := Ext.tr xw_w3 hxI
          replace ho := ho.ext hxI
          have ha := ha.add (show act_.tmps.getD 36 undef = .string (B s1) from hp 1 (by kernel_rfl) (by decide))
          exact h_evA (v := .string (B (s1.take 2))) ha rfl (e_sslice (lo := 0) (hi := 2) Try.underlying9 rfl Bd.no (Bd.at_ rfl rfl) (by omega) (by omega)) rfl rfl (Ext.rfl' _)
        · intro Q act_ wI hxI ha hp
          have xw_wI : Ext w wI := Ext.tr xw_w3 hxI
          replace ho := ho.ext hxI
          exact h_evA (v := .string (B s1)) ha rfl (e_move rfl) rfl rfl (Ext.rfl' _)
        · intro Q act_ wI hxI ha hp
          have xw_wI : Ext w wI := Ext.tr xw_w3 hxI
          replace ho := ho.ext hxI
          have ha := ha.add (show act_.tmps.getD 38 undef = .string (B s1) from hp 3 (by kernel_rfl) (by decide))
          exact h_evA (v := .int .u8 ((at_ s1 3).toNat)) ha rfl (e_sat Try.underlying9 rfl rfl (by decide) (by omega)) rfl rfl (Ext.rfl' _)
        · intro Q act_ wI hxI ha hp
          have xw_wI : Ext w wI := Ext.tr xw_w3 hxI
          replace ho := ho.ext hxI
          have ha := ha.add (show act_.tmps.getD 39 undef = .int .u8 ((at_ s1 3).toNat) from hp 4 (by kernel_rfl) (by decide))
          exact h_evA (v := .int .i64 ((at_ s1 3).toNat : Int)) ha rfl (e_u8int (c := at_ s1 3) Try.underlying5 Try.underlying3 (by decide) rfl) rfl rfl (Ext.rfl' _)
        · intro Q act_ wI hxI ha hp
          have xw_wI : Ext w wI := Ext.tr xw_w3 hxI
          replace ho := ho.ext hxI
          exact h_evA (v := .string (B s1)) ha rfl (e_move rfl) rfl rfl (Ext.rfl' _)
        · intro Q act_ wI hxI ha hp
          have xw_wI : Ext w wI := Ext.tr xw_w3 hxI
          replace ho := ho.ext hxI
          exact h_evA (v := .int .i64 ((at_ s1 2).toNat : Int)) ha rfl (e_move rfl) rfl rfl (Ext.rfl' _)
        · intro Q act_ wI hxI ha hp
          have xw_wI : Ext w wI := Ext.tr xw_w3 hxI
          replace ho := ho.ext hxI
          have ha := ha.add (show act_.tmps.getD 41 undef = .string (B s1) from hp 6 (by kernel_rfl) (by decide))
          have ha := ha.add (show act_.tmps.getD 42 undef = .int .i64 ((at_ s1 2).toNat : Int) from hp 7 (by kernel_rfl) (by decide))
          exact h_evA (v := .string (B ((s1.take (at_ s1 2).toNat).drop 4))) ha rfl (e_sslice (lo := 4) (hi := (at_ s1 2).toNat) Try.underlying9 rfl (Bd.at_ rfl rfl) (Bd.at_ rfl (by rfl)) (by omega) (by omega)) rfl rfl (Ext.rfl' _)
        · intro Q act_ wI hxI ha hp
          have xw_wI : Ext w wI := Ext.tr xw_w3 hxI
          replace ho := ho.ext hxI
          have ha := ha.add (show act_.tmps.getD 37 undef = .string (B (s1.take 2)) from hp 2 (by kernel_rfl) (by decide))
          have ha := ha.add (show act_.tmps.getD 40 undef = .int .i64 ((at_ s1 3).toNat : Int) from hp 5 (by kernel_rfl) (by decide))
          have ha := ha.add (show act_.tmps.getD 43 undef = .string (B ((s1.take (at_ s1 2).toNat).drop 4)) from hp 8 (by kernel_rfl) (by decide))
          exact h_evA (v := .agg #[.string (B (s1.take 2)), .int .i64 ((at_ s1 3).toNat : Int), .string (B ((s1.take (at_ s1 2).toNat).drop 4))]) ha rfl (e_build (vs := [(0, .string (B (s1.take 2))), (1, .int .i64 ((at_ s1 3).toNat : Int)), (2, .string (B ((s1.take (at_ s1 2).toNat).drop 4)))]) rfl (by kernel_rfl)) rfl rfl (Ext.rfl' _)
        · intro Q act_ wI hxI ha hp
          have xw_wI : Ext w wI := Ext.tr xw_w3 hxI
          replace ho := ho.ext hxI
          have ha := ha.add (show act_.tmps.getD 44 undef = .agg #[.string (B (s1.take 2)), .int .i64 ((at_ s1 3).toNat : Int), .string (B ((s1.take (at_ s1 2).toNat).drop 4))] from hp 9 (by kernel_rfl) (by decide))
          exact h_evA ha rfl (e_buildSlice (vs := [(0, .agg #[.string (B (s1.take 2)), .int .i64 ((at_ s1 3).toNat : Int), .string (B ((s1.take (at_ s1 2).toNat).drop 4))])]) (v := .slice (some ⟨wI.heap.size, 0, none⟩) 1 1) (w1 := wI.alloc (.cells ([.string (B (s1.take 2)), .int .i64 ((at_ s1 3).toNat : Int), .string (B ((s1.take (at_ s1 2).toNat).drop 4))] : List Value).toArray 41)) rfl (by kernel_rfl)) rfl ⟨_, rfl, Blk.new wI 41 [.string (B (s1.take 2)), .int .i64 ((at_ s1 3).toNat : Int), .string (B ((s1.take (at_ s1 2).toNat).drop 4))]⟩ (Ext.alloc _ _)
        intro vs_ w4 hx_w4 hvs act_ ha hv
        have xw_w4 : Ext w w4 := Ext.tr xw_w3 hx_w4
        replace ho := ho.ext hx_w4
        have ha := ha.add ((hv 0 (by decide)).trans (show vs_ 0 = v_ from hvs 0 (by decide)))
        obtain ⟨b45, e45, hb45⟩ := (show ∃ b_, vs_ 10 = Value.slice (some ⟨b_, 0, none⟩) 1 1 ∧ Blk w4 b_ 41 [.string (B (s1.take 2)), .int .i64 ((at_ s1 3).toNat : Int), .string (B ((s1.take (at_ s1 2).toNat).drop 4))] from hvs 10 (by decide))
        have ha := ha.add ((hv 10 (by decide)).trans e45)
        refine st_go ha ?_
        clear ha hv hvs
        refine st_appendLit2 (w0 := w) (z := .agg #[.string (B []), .int .i64 0, .string (B [])]) (kk := 3) (bytes := 40) rfl rfl rfl Try.underlying22 (by kernel_rfl) rfl (by decide) (fun _ => rfl) one_encE [⟨s1.take 2, ((at_ s1 3).toNat : Int), (s1.take (at_ s1 2).toNat).drop 4⟩] ho xw_w4 hb45 rfl rfl (by first | omega | (simp only [maxLen]; omega) | (simp only [maxLen]; simp; omega)) (by first | omega | (simp only [maxLen]; omega) | (simp only [maxLen]; simp; omega)) ?_
        intro v46 w5 ho46 xw_w5 hg46 hat46
        refine st_ev (v := v46) rfl (e_assign rfl) ?_
        refine st_nil (nrm_k ?_)
        refine sc_reg ?_
        refine Go.XK.s (v := .string (B s1)) (e_move rfl) ?_
        refine Go.XK.s (v := .int .i64 ((at_ s1 2).toNat : Int)) (e_move rfl) ?_
        refine Go.XK.s (v := .string (B (s1.drop ((at_ s1 2).toNat)))) (e_sdrop (lo := (at_ s1 2).toNat) Try.underlying9 rfl (Bd.at_ rfl (by rfl)) (by omega)) ?_
        refine Go.XK.s (v := .string (B (s1.drop ((at_ s1 2).toNat)))) (e_assign rfl) ?_
        refine sl_nil ?_
        exact nrm_loopq rfl _ _ (by rw [List.length_drop]; omega) ⟨s1.drop (lenH s1).toNat, out ++ [hdE s1], v46, rfl, rfl, xw_w5, ho46, ⟨by rw [List.length_append, List.length_drop]; simp; omega, dec_step hst hbd hT⟩⟩ (.cons rfl (.cons rfl (.nil)))
  ·
    have hst := stop_yes1 c13
    refine sc_exit rfl (nrm_k ?_)
    refine sc_seq ?_
    refine sc_reg ?_
    refine Go.XK.s (v := v_) (e_move rfl) ?_
    refine Go.XK.s (v := v_) (e_assign rfl) ?_
    refine Go.XK.s (v := .int .i64 0) (e_assign rfl) ?_
    refine sl_nil (nrm_k ?_)
    refine sc_retf rfl (ret2 Try.results14 (rvt rfl) (rvt rfl) ?_)
    have hE := decR_some (dec_endT hst hT)
    exact ⟨v_, by rw [hE], by rw [hE]; exact ho, xw_w1⟩

end Go.Proofs.Ytnbclhbpjlpcoaa
