/- Chapter 24: C4. Printed by my program wip/tools/wk.py. -/
import Derived.Test.YtnbclhbpjlpcoaaC3
import Derived.Test.YtnbclhbpjlpcoaaMath2
set_option linter.unusedVariables false
set_option linter.unusedSimpArgs false
set_option maxRecDepth 4000
set_option maxHeartbeats 4000000
namespace Go.Proofs.Ytnbclhbpjlpcoaa
open Go.XK Go.RowKit
def indR (z : Int) : En × Int := if (decide (z < 0) || decide ((255 : Int) < z)) = true then (⟨[], 0, []⟩, 2) else (⟨[83, 80], 1, [190, 239, u8of z]⟩, 0)
def indS (s : List UInt8) : Int × Bool := if (decide ((s.length : Int) < 7) || decide (s.take 6 ≠ [83, 80, 7, 1, 190, 239])) = true then (0, false) else (((at_ s 6).toNat : Int), true)
def refR (a b c : List UInt8) (z : Int) : En × Int := if (decide (z < 0) || decide ((255 : Int) < z)) = true then (⟨[], 0, []⟩, 2) else if (247 : Int) < (a.length : Int) + (b.length : Int) + (c.length : Int) then (⟨[], 0, []⟩, 7) else (⟨[69, 82], 1, [u8of (a.length : Int), u8of (b.length : Int), u8of (c.length : Int), u8of z] ++ a ++ b ++ c⟩, 0)
def refE (x : En) : List (List UInt8) := if x.g = [69, 82] ∧ (4 : Int) ≤ (x.d.length : Int) ∧ 4 + ((at_ x.d 0).toNat : Int) + ((at_ x.d 1).toNat : Int) + ((at_ x.d 2).toNat : Int) ≤ (x.d.length : Int) then [(x.d.take (4 + (at_ x.d 0).toNat)).drop 4] else []
def refL (l : List En) : List (List UInt8) := l.flatMap refE
theorem refL_take {l : List En} {i : Nat} {x : En} (h : l[i]? = some x) : refL (l.take (i + 1)) = refL (l.take i) ++ refE x := by
  rw [List.take_add_one, h]; simp [refL]
theorem refE_no1 {x : En} (h : ¬ x.g = [69, 82]) : refE x = [] := by rw [refE, if_neg (fun e => h e.1)]
theorem refE_no2 {x : En} (h : ¬ (4 : Int) ≤ (x.d.length : Int)) : refE x = [] := by rw [refE, if_neg (fun e => h e.2.1)]
theorem refE_no3 {x : En} (h : ¬ 4 + ((at_ x.d 0).toNat : Int) + ((at_ x.d 1).toNat : Int) + ((at_ x.d 2).toNat : Int) ≤ (x.d.length : Int)) : refE x = [] := by rw [refE, if_neg (fun e => h e.2.2)]
theorem refE_yes {x : En} (h : x.g = [69, 82]) (h2 : (4 : Int) ≤ (x.d.length : Int)) (h3 : 4 + ((at_ x.d 0).toNat : Int) + ((at_ x.d 1).toNat : Int) + ((at_ x.d 2).toNat : Int) ≤ (x.d.length : Int)) : refE x = [(x.d.take (4 + (at_ x.d 0).toNat)).drop 4] := by rw [refE, if_pos ⟨h, h2, h3⟩]

/-- masterdisc/susp.Indicator (function 24) -/
theorem ind_c (z : Int) (w : World) : CallR Try.prog 24 [.int .i64 z] w (fun v w' => v = .tuple #[.agg (encE (indR z).1).toArray, .int .i64 (indR z).2] ∧ Ext w w') := by
  refine callR_of (n := 16) [(0, .int .i64 z)] Try.func24 rfl rfl (Nat.le_of_ble_eq_true rfl) rfl ?_
  refine sc_seq ?_
  refine sc_reg ?_
  refine s_alloc (cs := [.string (B []), .int .i64 0, .string (B [])]) Try.zeroValue41 rfl ?_
  intro b2 w1 hb2 he2 hs2 hx2
  have ge_b2 : w.heap.size ≤ b2 := by have h_ := (Below.size (Ext.rfl' w)); omega
  have xw_w1 : Ext w w1 := Ext.tr (Ext.rfl' w) hx2
  refine Go.XK.s (v := .int .i64 0) (e_assign rfl) ?_
  refine sl_nil (nrm_k ?_)
  refine sc_seq ?_
  refine sc_seq ?_
  refine sc_reg ?_
  refine Go.XK.s (v := .int .i64 z) (e_move rfl) ?_
  refine Go.XK.s (v := .bool (decide (z < 0))) (e_lt rfl rfl) ?_
  refine Go.XK.s (v := .bool (decide (z < 0))) (e_move rfl) ?_
  refine sl_merge 3 9 (.bool ((decide (z < 0)) || (decide ((255 : Int) < z)))) ?_ ?_
  · refine sl_case (t := 6) rfl (fun g1_2 => ?_) (fun g1_2 => ?_)
    ·
      refine sl_gskip rfl rfl g1_2 (by decide) ?_
      refine sl_gskip rfl rfl g1_2 (by decide) ?_
      refine Go.XK.s (v := .bool true) (e_pickT rfl g1_2 rfl) ?_
      exact sl_nil (fun a ha => ⟨rfl, ha.sub (.cons (by rw [g1_2]; rfl) (sub_self_cons (sub_self_cons (sub_self_cons (Sub.refl _) rfl) rfl) rfl))⟩)
    ·
      refine sl_gev (v := .int .i64 z) rfl rfl g1_2 (e_move rfl) rfl (by decide) ?_
      refine sl_gev (v := .bool (decide ((255 : Int) < z))) rfl rfl g1_2 (e_gt rfl rfl) rfl (by decide) ?_
      refine Go.XK.s (v := .bool (decide ((255 : Int) < z))) (e_pickF rfl g1_2 rfl) ?_
      exact sl_nil (fun a ha => ⟨rfl, ha.sub (.cons (by rw [g1_2]; rfl) (sub_self_cons (sub_self_cons (sub_self_cons (Sub.refl _) rfl) rfl) rfl))⟩)
  refine sl_nil (nrm_k ?_)
  refine sc_if rfl (fun c9 => ?_) (fun c9 => ?_)
  ·
    refine sc_seq ?_
    refine sc_reg ?_
    refine Go.XK.s (v := .agg #[.string (B []), .int .i64 0, .string (B [])]) (e_build (vs := []) rfl (by kernel_rfl)) ?_
    refine su_blkV [.string (B []), .int .i64 0, .string (B [])] [.string (B []), .int .i64 0, .string (B [])] rfl rfl hb2 rfl Try.sizeOf41 (Nat.le_of_ble_eq_true rfl) rfl rfl ?_
    intro w2 hn_ hm_w2 hs_w2
    have ho_ := hb2
    replace hb2 := hn_
    clear hn_
    have xw_w2 : Ext w w2 := below_mut xw_w1 (Below.size xw_w1) hm_w2 ge_b2
    refine Go.XK.s (v := .int .i64 2) (e_assign rfl) ?_
    refine sl_nil (nrm_k ?_)
    refine sc_retf rfl (ret2 Try.results24 (rvc rfl (hb2.loadA Try.isAgg41 Try.sizeOf41 rfl)) (rvt rfl) ?_)
    exact ⟨by rw [indR, if_pos c9]; rfl, xw_w2⟩
  ·
    refine sc_skip (nrm_k ?_)
    refine sc_seq ?_
    refine sc_reg ?_
    refine Go.XK.s (v := .int .i64 z) (e_move rfl) ?_
    refine Go.XK.s (v := .int .u8 ((u8of z).toNat)) (e_intu8 Try.underlying3 Try.underlying5 rfl) ?_
    refine s_bslice (vs := [(0, .int .u8 190), (1, .int .u8 239), (2, .int .u8 ((u8of z).toNat))]) (e := 5) rfl [.int .u8 190, .int .u8 239, .int .u8 ((u8of z).toNat)] (by kernel_rfl) ?_
    intro b13 w3 hb13 he13 hs13 hx13
    have ne_b13_b2 : b13 ≠ b2 := by have h_ := hb2.lt; omega
    have ge_b13 : w.heap.size ≤ b13 := by have h_ := (Below.size xw_w1); omega
    have xw_w3 : Ext w w3 := Ext.tr xw_w1 hx13
    replace hb2 := hb2.ext hx13
    refine Go.XK.s (v := .string (B [190, 239, u8of z])) (e_convr (l := _) rfl (conv_blk (s := [190, 239, u8of z]) Try.underlying70 Try.underlying5 Try.underlying9 hb13 rfl)) ?_
    refine Go.XK.s (v := .agg #[.string (B [83, 80]), .int .i64 1, .string (B [190, 239, u8of z])]) (e_build (vs := [(0, .string (B [83, 80])), (1, .int .i64 1), (2, .string (B [190, 239, u8of z]))]) rfl (by kernel_rfl)) ?_
    refine su_blkV [.string (B [83, 80]), .int .i64 1, .string (B [190, 239, u8of z])] [.string (B [83, 80]), .int .i64 1, .string (B [190, 239, u8of z])] rfl rfl hb2 rfl Try.sizeOf41 (Nat.le_of_ble_eq_true rfl) rfl rfl ?_
    intro w4 hn_ hm_w4 hs_w4
    have ho_ := hb2
    replace hb2 := hn_
    clear hn_
    replace hb13 := hb13.mut hm_w4 ne_b13_b2
    have xw_w4 : Ext w w4 := below_mut xw_w3 (Below.size xw_w3) hm_w4 ge_b2
    refine Go.XK.s (v := .int .i64 0) (e_assign rfl) ?_
    refine sl_nil (nrm_k ?_)
    refine sc_retf rfl (ret2 Try.results24 (rvc rfl (hb2.loadA Try.isAgg41 Try.sizeOf41 rfl)) (rvt rfl) ?_)
    exact ⟨by rw [indR, if_neg (by rw [c9]; simp)]; rfl, xw_w4⟩

/-- masterdisc/masterdiscref24.Indicator (function 25) -/
theorem rind_c (z : Int) (w : World) : CallR Try.prog 25 [.int .i64 z] w (fun v w' => v = .tuple #[.agg (encE (indR z).1).toArray, .int .i64 (indR z).2] ∧ Ext w w') := by
  refine callR_of (n := 17) [(0, .int .i64 z)] Try.func25 rfl rfl (Nat.le_of_ble_eq_true rfl) rfl ?_
  refine sc_seq ?_
  refine sc_reg ?_
  refine s_alloc (cs := [.string (B []), .int .i64 0, .string (B [])]) Try.zeroValue41 rfl ?_
  intro b2 w1 hb2 he2 hs2 hx2
  have ge_b2 : w.heap.size ≤ b2 := by have h_ := (Below.size (Ext.rfl' w)); omega
  have xw_w1 : Ext w w1 := Ext.tr (Ext.rfl' w) hx2
  refine Go.XK.s (v := .int .i64 0) (e_assign rfl) ?_
  refine sl_nil (nrm_k ?_)
  refine sc_seq ?_
  refine sc_seq ?_
  refine sc_reg ?_
  refine Go.XK.s (v := .int .i64 z) (e_move rfl) ?_
  refine Go.XK.s (v := .bool (decide (z < 0))) (e_lt rfl rfl) ?_
  refine Go.XK.s (v := .bool (decide (z < 0))) (e_move rfl) ?_
  refine sl_merge 3 9 (.bool ((decide (z < 0)) || (decide ((255 : Int) < z)))) ?_ ?_
  · refine sl_case (t := 6) rfl (fun g1_2 => ?_) (fun g1_2 => ?_)
    ·
      refine sl_gskip rfl rfl g1_2 (by decide) ?_
      refine sl_gskip rfl rfl g1_2 (by decide) ?_
      refine Go.XK.s (v := .bool true) (e_pickT rfl g1_2 rfl) ?_
      exact sl_nil (fun a ha => ⟨rfl, ha.sub (.cons (by rw [g1_2]; rfl) (sub_self_cons (sub_self_cons (sub_self_cons (Sub.refl _) rfl) rfl) rfl))⟩)
    ·
      refine sl_gev (v := .int .i64 z) rfl rfl g1_2 (e_move rfl) rfl (by decide) ?_
      refine sl_gev (v := .bool (decide ((255 : Int) < z))) rfl rfl g1_2 (e_gt rfl rfl) rfl (by decide) ?_
      refine Go.XK.s (v := .bool (decide ((255 : Int) < z))) (e_pickF rfl g1_2 rfl) ?_
      exact sl_nil (fun a ha => ⟨rfl, ha.sub (.cons (by rw [g1_2]; rfl) (sub_self_cons (sub_self_cons (sub_self_cons (Sub.refl _) rfl) rfl) rfl))⟩)
  refine sl_nil (nrm_k ?_)
  refine sc_if rfl (fun c9 => ?_) (fun c9 => ?_)
  ·
    refine sc_seq ?_
    refine sc_reg ?_
    refine Go.XK.s (v := .agg #[.string (B []), .int .i64 0, .string (B [])]) (e_build (vs := []) rfl (by kernel_rfl)) ?_
    refine su_blkV [.string (B []), .int .i64 0, .string (B [])] [.string (B []), .int .i64 0, .string (B [])] rfl rfl hb2 rfl Try.sizeOf41 (Nat.le_of_ble_eq_true rfl) rfl rfl ?_
    intro w2 hn_ hm_w2 hs_w2
    have ho_ := hb2
    replace hb2 := hn_
    clear hn_
    have xw_w2 : Ext w w2 := below_mut xw_w1 (Below.size xw_w1) hm_w2 ge_b2
    refine Go.XK.s (v := .int .i64 2) (e_assign rfl) ?_
    refine sl_nil (nrm_k ?_)
    refine sc_retf rfl (ret2 Try.results25 (rvc rfl (hb2.loadA Try.isAgg41 Try.sizeOf41 rfl)) (rvt rfl) ?_)
    exact ⟨by rw [indR, if_pos c9]; rfl, xw_w2⟩
  ·
    refine sc_skip (nrm_k ?_)
    refine sc_seq ?_
    refine sc_reg ?_
    refine Go.XK.s (v := .int .i64 z) (e_move rfl) ?_
    refine Go.XK.s (v := .int .u8 ((u8of z).toNat)) (e_intu8 Try.underlying3 Try.underlying5 rfl) ?_
    refine s_bslice (vs := [(0, .int .u8 ((u8of z).toNat))]) (e := 5) rfl [.int .u8 ((u8of z).toNat)] (by kernel_rfl) ?_
    intro b13 w3 hb13 he13 hs13 hx13
    have ne_b13_b2 : b13 ≠ b2 := by have h_ := hb2.lt; omega
    have ge_b13 : w.heap.size ≤ b13 := by have h_ := (Below.size xw_w1); omega
    have xw_w3 : Ext w w3 := Ext.tr xw_w1 hx13
    replace hb2 := hb2.ext hx13
    refine Go.XK.s (v := .string (B [u8of z])) (e_convr (l := _) rfl (conv_blk (s := [u8of z]) Try.underlying70 Try.underlying5 Try.underlying9 hb13 rfl)) ?_
    refine Go.XK.s (v := .string (B ([190, 239] ++ [u8of z]))) (e_sadd rfl rfl (by first | omega | (simp <;> omega))) ?_
    refine Go.XK.s (v := .agg #[.string (B [83, 80]), .int .i64 1, .string (B ([190, 239] ++ [u8of z]))]) (e_build (vs := [(0, .string (B [83, 80])), (1, .int .i64 1), (2, .string (B ([190, 239] ++ [u8of z])))]) rfl (by kernel_rfl)) ?_
    refine su_blkV [.string (B [83, 80]), .int .i64 1, .string (B ([190, 239] ++ [u8of z]))] [.string (B [83, 80]), .int .i64 1, .string (B ([190, 239] ++ [u8of z]))] rfl rfl hb2 rfl Try.sizeOf41 (Nat.le_of_ble_eq_true rfl) rfl rfl ?_
    intro w4 hn_ hm_w4 hs_w4
    have ho_ := hb2
    replace hb2 := hn_
    clear hn_
    replace hb13 := hb13.mut hm_w4 ne_b13_b2
    have xw_w4 : Ext w w4 := below_mut xw_w3 (Below.size xw_w3) hm_w4 ge_b2
    refine Go.XK.s (v := .int .i64 0) (e_assign rfl) ?_
    refine sl_nil (nrm_k ?_)
    refine sc_retf rfl (ret2 Try.results25 (rvc rfl (hb2.loadA Try.isAgg41 Try.sizeOf41 rfl)) (rvt rfl) ?_)
    exact ⟨by rw [indR, if_neg (by rw [c9]; simp)]; rfl, xw_w4⟩

/-- masterdisc/susp.Indicated (function 26) -/
theorem inds_c (s : List UInt8) (w : World) : CallR Try.prog 26 [.string (B s)] w (fun v w' => v = .tuple #[.int .i64 ((indS s).1), .bool ((indS s).2)] ∧ Ext w w') := by
  refine callR_of (n := 15) [(0, .string (B s))] Try.func26 rfl rfl (Nat.le_of_ble_eq_true rfl) rfl ?_
  refine sc_seq ?_
  refine sc_reg ?_
  refine Go.XK.s (v := .int .i64 0) (e_assign rfl) ?_
  refine Go.XK.s (v := .bool false) (e_assign rfl) ?_
  refine sl_nil (nrm_k ?_)
  refine sc_seq ?_
  refine sc_seq ?_
  refine sc_reg ?_
  refine Go.XK.s (v := .string (B s)) (e_move rfl) ?_
  refine Go.XK.s (v := .int .i64 (s.length : Int)) (e_slen Try.underlying9 rfl) ?_
  refine Go.XK.s (v := .bool (decide ((s.length : Int) < 7))) (e_lt rfl rfl) ?_
  refine Go.XK.s (v := .bool (decide ((s.length : Int) < 7))) (e_move rfl) ?_
  refine sl_merge 4 11 (.bool ((decide ((s.length : Int) < 7)) || (decide (s.take 6 ≠ [83, 80, 7, 1, 190, 239])))) ?_ ?_
  · refine sl_case (t := 7) rfl (fun g1_3 => ?_) (fun g1_3 => ?_)
    ·
      refine sl_gskip rfl rfl g1_3 (by decide) ?_
      refine sl_gskip rfl rfl g1_3 (by decide) ?_
      refine sl_gskip rfl rfl g1_3 (by decide) ?_
      refine Go.XK.s (v := .bool true) (e_pickT rfl g1_3 rfl) ?_
      exact sl_nil (fun a ha => ⟨rfl, ha.sub (.cons (by rw [g1_3]; rfl) (sub_self_cons (sub_self_cons (sub_self_cons (sub_self_cons (Sub.refl _) rfl) rfl) rfl) rfl))⟩)
    ·
      have h7_ := of_decide_eq_false g1_3
      refine sl_gev (v := .string (B s)) rfl rfl g1_3 (e_move rfl) rfl (by decide) ?_
      refine sl_gev (v := .string (B (s.take 6))) rfl rfl g1_3 (e_sslice (lo := 0) (hi := 6) Try.underlying9 rfl Bd.no (Bd.at_ rfl rfl) (by omega) (by omega)) rfl (by decide) ?_
      refine sl_gev (v := .bool (decide (s.take 6 ≠ [83, 80, 7, 1, 190, 239]))) rfl rfl g1_3 (e_sne rfl rfl) rfl (by decide) ?_
      refine Go.XK.s (v := .bool (decide (s.take 6 ≠ [83, 80, 7, 1, 190, 239]))) (e_pickF rfl g1_3 rfl) ?_
      exact sl_nil (fun a ha => ⟨rfl, ha.sub (.cons (by rw [g1_3]; rfl) (sub_self_cons (sub_self_cons (sub_self_cons (sub_self_cons (Sub.refl _) rfl) rfl) rfl) rfl))⟩)
  refine sl_nil (nrm_k ?_)
  refine sc_if rfl (fun c11 => ?_) (fun c11 => ?_)
  ·
    refine sc_seq ?_
    refine sc_reg ?_
    refine Go.XK.s (v := .int .i64 0) (e_assign rfl) ?_
    refine Go.XK.s (v := .bool false) (e_assign rfl) ?_
    refine sl_nil (nrm_k ?_)
    refine sc_retf rfl (ret2 Try.results26 (rvt rfl) (rvt rfl) ?_)
    exact ⟨by rw [indS, if_pos c11], (Ext.rfl' w)⟩
  ·
    have h11 := c11
    simp only [Bool.or_eq_false_iff, decide_eq_false_iff_not] at h11
    refine sc_skip (nrm_k ?_)
    refine sc_seq ?_
    refine sc_reg ?_
    refine Go.XK.s (v := .string (B s)) (e_move rfl) ?_
    refine Go.XK.s (v := .int .u8 ((at_ s 6).toNat)) (e_sat Try.underlying9 rfl rfl (by decide) (by omega)) ?_
    refine Go.XK.s (v := .int .i64 ((at_ s 6).toNat : Int)) (e_u8int (c := at_ s 6) Try.underlying5 Try.underlying3 (by decide) rfl) ?_
    refine Go.XK.s (v := .int .i64 ((at_ s 6).toNat : Int)) (e_assign rfl) ?_
    refine Go.XK.s (v := .bool true) (e_assign rfl) ?_
    refine sl_nil (nrm_k ?_)
    refine sc_retf rfl (ret2 Try.results26 (rvt rfl) (rvt rfl) ?_)
    exact ⟨by rw [indS, if_neg (by rw [c11]; simp)], (Ext.rfl' w)⟩

/-- masterdisc/masterdiscref24.Indicated (function 27) -/
theorem rinds_c (s : List UInt8) (w : World) : CallR Try.prog 27 [.string (B s)] w (fun v w' => v = .tuple #[.int .i64 ((indS s).1), .bool ((indS s).2)] ∧ Ext w w') := by
  refine callR_of (n := 15) [(0, .string (B s))] Try.func27 rfl rfl (Nat.le_of_ble_eq_true rfl) rfl ?_
  refine sc_seq ?_
  refine sc_reg ?_
  refine Go.XK.s (v := .int .i64 0) (e_assign rfl) ?_
  refine Go.XK.s (v := .bool false) (e_assign rfl) ?_
  refine sl_nil (nrm_k ?_)
  refine sc_seq ?_
  refine sc_seq ?_
  refine sc_reg ?_
  refine Go.XK.s (v := .string (B s)) (e_move rfl) ?_
  refine Go.XK.s (v := .int .i64 (s.length : Int)) (e_slen Try.underlying9 rfl) ?_
  refine Go.XK.s (v := .bool (decide ((s.length : Int) < 7))) (e_lt rfl rfl) ?_
  refine Go.XK.s (v := .bool (decide ((s.length : Int) < 7))) (e_move rfl) ?_
  refine sl_merge 4 11 (.bool ((decide ((s.length : Int) < 7)) || (decide (s.take 6 ≠ [83, 80, 7, 1, 190, 239])))) ?_ ?_
  · refine sl_case (t := 7) rfl (fun g1_3 => ?_) (fun g1_3 => ?_)
    ·
      refine sl_gskip rfl rfl g1_3 (by decide) ?_
      refine sl_gskip rfl rfl g1_3 (by decide) ?_
      refine sl_gskip rfl rfl g1_3 (by decide) ?_
      refine Go.XK.s (v := .bool true) (e_pickT rfl g1_3 rfl) ?_
      exact sl_nil (fun a ha => ⟨rfl, ha.sub (.cons (by rw [g1_3]; rfl) (sub_self_cons (sub_self_cons (sub_self_cons (sub_self_cons (Sub.refl _) rfl) rfl) rfl) rfl))⟩)
    ·
      have h7_ := of_decide_eq_false g1_3
      refine sl_gev (v := .string (B s)) rfl rfl g1_3 (e_move rfl) rfl (by decide) ?_
      refine sl_gev (v := .string (B (s.take 6))) rfl rfl g1_3 (e_sslice (lo := 0) (hi := 6) Try.underlying9 rfl Bd.no (Bd.at_ rfl rfl) (by omega) (by omega)) rfl (by decide) ?_
      refine sl_gev (v := .bool (decide (s.take 6 ≠ [83, 80, 7, 1, 190, 239]))) rfl rfl g1_3 (e_sne rfl rfl) rfl (by decide) ?_
      refine Go.XK.s (v := .bool (decide (s.take 6 ≠ [83, 80, 7, 1, 190, 239]))) (e_pickF rfl g1_3 rfl) ?_
      exact sl_nil (fun a ha => ⟨rfl, ha.sub (.cons (by rw [g1_3]; rfl) (sub_self_cons (sub_self_cons (sub_self_cons (sub_self_cons (Sub.refl _) rfl) rfl) rfl) rfl))⟩)
  refine sl_nil (nrm_k ?_)
  refine sc_if rfl (fun c11 => ?_) (fun c11 => ?_)
  ·
    refine sc_seq ?_
    refine sc_reg ?_
    refine Go.XK.s (v := .int .i64 0) (e_assign rfl) ?_
    refine Go.XK.s (v := .bool false) (e_assign rfl) ?_
    refine sl_nil (nrm_k ?_)
    refine sc_retf rfl (ret2 Try.results27 (rvt rfl) (rvt rfl) ?_)
    exact ⟨by rw [indS, if_pos c11], (Ext.rfl' w)⟩
  ·
    have h11 := c11
    simp only [Bool.or_eq_false_iff, decide_eq_false_iff_not] at h11
    refine sc_skip (nrm_k ?_)
    refine sc_seq ?_
    refine sc_reg ?_
    refine Go.XK.s (v := .string (B s)) (e_move rfl) ?_
    refine Go.XK.s (v := .int .u8 ((at_ s 6).toNat)) (e_sat Try.underlying9 rfl rfl (by decide) (by omega)) ?_
    refine Go.XK.s (v := .int .i64 ((at_ s 6).toNat : Int)) (e_u8int (c := at_ s 6) Try.underlying5 Try.underlying3 (by decide) rfl) ?_
    refine Go.XK.s (v := .int .i64 ((at_ s 6).toNat : Int)) (e_assign rfl) ?_
    refine Go.XK.s (v := .bool true) (e_assign rfl) ?_
    refine sl_nil (nrm_k ?_)
    refine sc_retf rfl (ret2 Try.results27 (rvt rfl) (rvt rfl) ?_)
    exact ⟨by rw [indS, if_neg (by rw [c11]; simp)], (Ext.rfl' w)⟩

/-- masterdisc/susp.Reference (function 28) -/
theorem refr_c (a b c : List UInt8) (z : Int) (w : World) (ha : a.length ≤ 1099511627776) (hb : b.length ≤ 1099511627776) (hc : c.length ≤ 1099511627776) : CallR Try.prog 28 [.string (B a), .string (B b), .string (B c), .int .i64 z] w (fun v w' => v = .tuple #[.agg (encE (refR a b c z).1).toArray, .int .i64 (refR a b c z).2] ∧ Ext w w') := by
  refine callR_of (n := 49) [(0, .string (B a)), (1, .string (B b)), (2, .string (B c)), (3, .int .i64 z)] Try.func28 rfl rfl (Nat.le_of_ble_eq_true rfl) rfl ?_
  refine sc_seq ?_
  refine sc_reg ?_
  refine s_alloc (cs := [.string (B []), .int .i64 0, .string (B [])]) Try.zeroValue41 rfl ?_
  intro b8 w1 hb8 he8 hs8 hx8
  have ge_b8 : w.heap.size ≤ b8 := by have h_ := (Below.size (Ext.rfl' w)); omega
  have xw_w1 : Ext w w1 := Ext.tr (Ext.rfl' w) hx8
  refine Go.XK.s (v := .int .i64 0) (e_assign rfl) ?_
  refine sl_nil (nrm_k ?_)
  refine sc_seq ?_
  refine sc_seq ?_
  refine sc_reg ?_
  refine Go.XK.s (v := .int .i64 z) (e_move rfl) ?_
  refine Go.XK.s (v := .bool (decide (z < 0))) (e_lt rfl rfl) ?_
  refine Go.XK.s (v := .bool (decide (z < 0))) (e_move rfl) ?_
  refine sl_merge 3 16 (.bool ((decide (z < 0)) || (decide ((255 : Int) < z)))) ?_ ?_
  · refine sl_case (t := 13) rfl (fun g1_2 => ?_) (fun g1_2 => ?_)
    ·
      refine sl_gskip rfl rfl g1_2 (by decide) ?_
      refine sl_gskip rfl rfl g1_2 (by decide) ?_
      refine Go.XK.s (v := .bool true) (e_pickT rfl g1_2 rfl) ?_
      exact sl_nil (fun a ha => ⟨rfl, ha.sub (.cons (by rw [g1_2]; rfl) (sub_self_cons (sub_self_cons (sub_self_cons (Sub.refl _) rfl) rfl) rfl))⟩)
    ·
      refine sl_gev (v := .int .i64 z) rfl rfl g1_2 (e_move rfl) rfl (by decide) ?_
      refine sl_gev (v := .bool (decide ((255 : Int) < z))) rfl rfl g1_2 (e_gt rfl rfl) rfl (by decide) ?_
      refine Go.XK.s (v := .bool (decide ((255 : Int) < z))) (e_pickF rfl g1_2 rfl) ?_
      exact sl_nil (fun a ha => ⟨rfl, ha.sub (.cons (by rw [g1_2]; rfl) (sub_self_cons (sub_self_cons (sub_self_cons (Sub.refl _) rfl) rfl) rfl))⟩)
  refine sl_nil (nrm_k ?_)
  refine sc_if rfl (fun c16 => ?_) (fun c16 => ?_)
  ·
    refine sc_seq ?_
    refine sc_reg ?_
    refine Go.XK.s (v := .agg #[.string (B []), .int .i64 0, .string (B [])]) (e_build (vs := []) rfl (by kernel_rfl)) ?_
    refine su_blkV [.string (B []), .int .i64 0, .string (B [])] [.string (B []), .int .i64 0, .string (B [])] rfl rfl hb8 rfl Try.sizeOf41 (Nat.le_of_ble_eq_true rfl) rfl rfl ?_
    intro w2 hn_ hm_w2 hs_w2
    have ho_ := hb8
    replace hb8 := hn_
    clear hn_
    have xw_w2 : Ext w w2 := below_mut xw_w1 (Below.size xw_w1) hm_w2 ge_b8
    refine Go.XK.s (v := .int .i64 2) (e_assign rfl) ?_
    refine sl_nil (nrm_k ?_)
    refine sc_retf rfl (ret2 Try.results28 (rvc rfl (hb8.loadA Try.isAgg41 Try.sizeOf41 rfl)) (rvt rfl) ?_)
    exact ⟨by rw [refR, if_pos c16]; rfl, xw_w2⟩
  ·
    refine sc_skip (nrm_k ?_)
    refine sc_seq ?_
    refine sc_seq ?_
    refine sc_reg ?_
    refine Go.XK.s (v := .string (B a)) (e_move rfl) ?_
    refine Go.XK.s (v := .int .i64 (a.length : Int)) (e_slen Try.underlying9 rfl) ?_
    refine Go.XK.s (v := .string (B b)) (e_move rfl) ?_
    refine Go.XK.s (v := .int .i64 (b.length : Int)) (e_slen Try.underlying9 rfl) ?_
    refine Go.XK.s (v := .int .i64 ((a.length : Int) + (b.length : Int))) (e_add rfl rfl (by omega)) ?_
    refine Go.XK.s (v := .string (B c)) (e_move rfl) ?_
    refine Go.XK.s (v := .int .i64 (c.length : Int)) (e_slen Try.underlying9 rfl) ?_
    refine Go.XK.s (v := .int .i64 (((a.length : Int) + (b.length : Int)) + (c.length : Int))) (e_add rfl rfl (by omega)) ?_
    refine Go.XK.s (v := .bool (decide ((247 : Int) < ((a.length : Int) + (b.length : Int)) + (c.length : Int)))) (e_gt rfl rfl) ?_
    refine sl_nil (nrm_k ?_)
    refine sc_ifd rfl (fun c26 => ?_) (fun c26 => ?_)
    ·
      refine sc_seq ?_
      refine sc_reg ?_
      refine Go.XK.s (v := .agg #[.string (B []), .int .i64 0, .string (B [])]) (e_build (vs := []) rfl (by kernel_rfl)) ?_
      refine su_blkV [.string (B []), .int .i64 0, .string (B [])] [.string (B []), .int .i64 0, .string (B [])] rfl rfl hb8 rfl Try.sizeOf41 (Nat.le_of_ble_eq_true rfl) rfl rfl ?_
      intro w3 hn_ hm_w3 hs_w3
      have ho_ := hb8
      replace hb8 := hn_
      clear hn_
      have xw_w3 : Ext w w3 := below_mut xw_w1 (Below.size xw_w1) hm_w3 ge_b8
      refine Go.XK.s (v := .int .i64 7) (e_assign rfl) ?_
      refine sl_nil (nrm_k ?_)
      refine sc_retf rfl (ret2 Try.results28 (rvc rfl (hb8.loadA Try.isAgg41 Try.sizeOf41 rfl)) (rvt rfl) ?_)
      exact ⟨by rw [refR, if_neg (by rw [c16]; simp), if_pos c26]; rfl, xw_w3⟩
    ·
      refine sc_skip (nrm_k ?_)
      refine sc_seq ?_
      refine sc_reg ?_
      refine Go.XK.s (v := .string (B a)) (e_move rfl) ?_
      refine Go.XK.s (v := .int .i64 (a.length : Int)) (e_slen Try.underlying9 rfl) ?_
      refine Go.XK.s (v := .int .u8 ((u8of (a.length : Int)).toNat)) (e_intu8 Try.underlying3 Try.underlying5 rfl) ?_
      refine Go.XK.s (v := .string (B b)) (e_move rfl) ?_
      refine Go.XK.s (v := .int .i64 (b.length : Int)) (e_slen Try.underlying9 rfl) ?_
      refine Go.XK.s (v := .int .u8 ((u8of (b.length : Int)).toNat)) (e_intu8 Try.underlying3 Try.underlying5 rfl) ?_
      refine Go.XK.s (v := .string (B c)) (e_move rfl) ?_
      refine Go.XK.s (v := .int .i64 (c.length : Int)) (e_slen Try.underlying9 rfl) ?_
      refine Go.XK.s (v := .int .u8 ((u8of (c.length : Int)).toNat)) (e_intu8 Try.underlying3 Try.underlying5 rfl) ?_
      refine Go.XK.s (v := .int .i64 z) (e_move rfl) ?_
      refine Go.XK.s (v := .int .u8 ((u8of z).toNat)) (e_intu8 Try.underlying3 Try.underlying5 rfl) ?_
      refine s_bslice (vs := [(0, .int .u8 ((u8of (a.length : Int)).toNat)), (1, .int .u8 ((u8of (b.length : Int)).toNat)), (2, .int .u8 ((u8of (c.length : Int)).toNat)), (3, .int .u8 ((u8of z).toNat))]) (e := 5) rfl [.int .u8 ((u8of (a.length : Int)).toNat), .int .u8 ((u8of (b.length : Int)).toNat), .int .u8 ((u8of (c.length : Int)).toNat), .int .u8 ((u8of z).toNat)] (by kernel_rfl) ?_
      intro b39 w4 hb39 he39 hs39 hx39
      have ne_b39_b8 : b39 ≠ b8 := by have h_ := hb8.lt; omega
      have ge_b39 : w.heap.size ≤ b39 := by have h_ := (Below.size xw_w1); omega
      have xw_w4 : Ext w w4 := Ext.tr xw_w1 hx39
      replace hb8 := hb8.ext hx39
      refine Go.XK.s (v := .slice (some ⟨b39, 0, none⟩) 4 4) (e_assign rfl) ?_
      refine sl_nil (nrm_k ?_)
      refine sc_seq ?_
      refine sc_reg ?_
      refine Go.XK.s (v := .slice (some ⟨b39, 0, none⟩) 4 4) (e_move rfl) ?_
      refine Go.XK.s (v := .string (B [u8of (a.length : Int), u8of (b.length : Int), u8of (c.length : Int), u8of z])) (e_convr (l := _) rfl (conv_blk (s := [u8of (a.length : Int), u8of (b.length : Int), u8of (c.length : Int), u8of z]) Try.underlying70 Try.underlying5 Try.underlying9 hb39 rfl)) ?_
      refine Go.XK.s (v := .string (B a)) (e_move rfl) ?_
      refine Go.XK.s (v := .string (B ([u8of (a.length : Int), u8of (b.length : Int), u8of (c.length : Int), u8of z] ++ a))) (e_sadd rfl rfl (by first | omega | (simp <;> omega))) ?_
      refine Go.XK.s (v := .string (B b)) (e_move rfl) ?_
      refine Go.XK.s (v := .string (B (([u8of (a.length : Int), u8of (b.length : Int), u8of (c.length : Int), u8of z] ++ a) ++ b))) (e_sadd rfl rfl (by first | omega | (simp <;> omega))) ?_
      refine Go.XK.s (v := .string (B c)) (e_move rfl) ?_
      refine Go.XK.s (v := .string (B ((([u8of (a.length : Int), u8of (b.length : Int), u8of (c.length : Int), u8of z] ++ a) ++ b) ++ c))) (e_sadd rfl rfl (by first | omega | (simp <;> omega))) ?_
      refine Go.XK.s (v := .agg #[.string (B [69, 82]), .int .i64 1, .string (B ((([u8of (a.length : Int), u8of (b.length : Int), u8of (c.length : Int), u8of z] ++ a) ++ b) ++ c))]) (e_build (vs := [(0, .string (B [69, 82])), (1, .int .i64 1), (2, .string (B ((([u8of (a.length : Int), u8of (b.length : Int), u8of (c.length : Int), u8of z] ++ a) ++ b) ++ c)))]) rfl (by kernel_rfl)) ?_
      refine su_blkV [.string (B [69, 82]), .int .i64 1, .string (B ((([u8of (a.length : Int), u8of (b.length : Int), u8of (c.length : Int), u8of z] ++ a) ++ b) ++ c))] [.string (B [69, 82]), .int .i64 1, .string (B ((([u8of (a.length : Int), u8of (b.length : Int), u8of (c.length : Int), u8of z] ++ a) ++ b) ++ c))] rfl rfl hb8 rfl Try.sizeOf41 (Nat.le_of_ble_eq_true rfl) rfl rfl ?_
      intro w5 hn_ hm_w5 hs_w5
      have ho_ := hb8
      replace hb8 := hn_
      clear hn_
      replace hb39 := hb39.mut hm_w5 ne_b39_b8
      have xw_w5 : Ext w w5 := below_mut xw_w4 (Below.size xw_w4) hm_w5 ge_b8
      refine Go.XK.s (v := .int .i64 0) (e_assign rfl) ?_
      refine sl_nil (nrm_k ?_)
      refine sc_retf rfl (ret2 Try.results28 (rvc rfl (hb8.loadA Try.isAgg41 Try.sizeOf41 rfl)) (rvt rfl) ?_)
      exact ⟨by rw [refR, if_neg (by rw [c16]; simp), if_neg c26]; rfl, xw_w5⟩

/-- masterdisc/masterdiscref24.Reference (function 29) -/
theorem rrefr_c (a b c : List UInt8) (z : Int) (w : World) (ha : a.length ≤ 1099511627776) (hb : b.length ≤ 1099511627776) (hc : c.length ≤ 1099511627776) : CallR Try.prog 29 [.string (B a), .string (B b), .string (B c), .int .i64 z] w (fun v w' => v = .tuple #[.agg (encE (refR a b c z).1).toArray, .int .i64 (refR a b c z).2] ∧ Ext w w') := by
  refine callR_of (n := 47) [(0, .string (B a)), (1, .string (B b)), (2, .string (B c)), (3, .int .i64 z)] Try.func29 rfl rfl (Nat.le_of_ble_eq_true rfl) rfl ?_
  refine sc_seq ?_
  refine sc_reg ?_
  refine s_alloc (cs := [.string (B []), .int .i64 0, .string (B [])]) Try.zeroValue41 rfl ?_
  intro b8 w1 hb8 he8 hs8 hx8
  have ge_b8 : w.heap.size ≤ b8 := by have h_ := (Below.size (Ext.rfl' w)); omega
  have xw_w1 : Ext w w1 := Ext.tr (Ext.rfl' w) hx8
  refine Go.XK.s (v := .int .i64 0) (e_assign rfl) ?_
  refine sl_nil (nrm_k ?_)
  refine sc_seq ?_
  refine sc_seq ?_
  refine sc_reg ?_
  refine Go.XK.s (v := .int .i64 z) (e_move rfl) ?_
  refine Go.XK.s (v := .bool (decide (z < 0))) (e_lt rfl rfl) ?_
  refine Go.XK.s (v := .bool (decide (z < 0))) (e_move rfl) ?_
  refine sl_merge 3 15 (.bool ((decide (z < 0)) || (decide ((255 : Int) < z)))) ?_ ?_
  · refine sl_case (t := 12) rfl (fun g1_2 => ?_) (fun g1_2 => ?_)
    ·
      refine sl_gskip rfl rfl g1_2 (by decide) ?_
      refine sl_gskip rfl rfl g1_2 (by decide) ?_
      refine Go.XK.s (v := .bool true) (e_pickT rfl g1_2 rfl) ?_
      exact sl_nil (fun a ha => ⟨rfl, ha.sub (.cons (by rw [g1_2]; rfl) (sub_self_cons (sub_self_cons (sub_self_cons (Sub.refl _) rfl) rfl) rfl))⟩)
    ·
      refine sl_gev (v := .int .i64 z) rfl rfl g1_2 (e_move rfl) rfl (by decide) ?_
      refine sl_gev (v := .bool (decide ((255 : Int) < z))) rfl rfl g1_2 (e_gt rfl rfl) rfl (by decide) ?_
      refine Go.XK.s (v := .bool (decide ((255 : Int) < z))) (e_pickF rfl g1_2 rfl) ?_
      exact sl_nil (fun a ha => ⟨rfl, ha.sub (.cons (by rw [g1_2]; rfl) (sub_self_cons (sub_self_cons (sub_self_cons (Sub.refl _) rfl) rfl) rfl))⟩)
  refine sl_nil (nrm_k ?_)
  refine sc_if rfl (fun c15 => ?_) (fun c15 => ?_)
  ·
    refine sc_seq ?_
    refine sc_reg ?_
    refine Go.XK.s (v := .agg #[.string (B []), .int .i64 0, .string (B [])]) (e_build (vs := []) rfl (by kernel_rfl)) ?_
    refine su_blkV [.string (B []), .int .i64 0, .string (B [])] [.string (B []), .int .i64 0, .string (B [])] rfl rfl hb8 rfl Try.sizeOf41 (Nat.le_of_ble_eq_true rfl) rfl rfl ?_
    intro w2 hn_ hm_w2 hs_w2
    have ho_ := hb8
    replace hb8 := hn_
    clear hn_
    have xw_w2 : Ext w w2 := below_mut xw_w1 (Below.size xw_w1) hm_w2 ge_b8
    refine Go.XK.s (v := .int .i64 2) (e_assign rfl) ?_
    refine sl_nil (nrm_k ?_)
    refine sc_retf rfl (ret2 Try.results29 (rvc rfl (hb8.loadA Try.isAgg41 Try.sizeOf41 rfl)) (rvt rfl) ?_)
    exact ⟨by rw [refR, if_pos c15]; rfl, xw_w2⟩
  ·
    refine sc_skip (nrm_k ?_)
    refine sc_seq ?_
    refine sc_seq ?_
    refine sc_reg ?_
    refine Go.XK.s (v := .string (B a)) (e_move rfl) ?_
    refine Go.XK.s (v := .int .i64 (a.length : Int)) (e_slen Try.underlying9 rfl) ?_
    refine Go.XK.s (v := .string (B b)) (e_move rfl) ?_
    refine Go.XK.s (v := .int .i64 (b.length : Int)) (e_slen Try.underlying9 rfl) ?_
    refine Go.XK.s (v := .int .i64 ((a.length : Int) + (b.length : Int))) (e_add rfl rfl (by omega)) ?_
    refine Go.XK.s (v := .string (B c)) (e_move rfl) ?_
    refine Go.XK.s (v := .int .i64 (c.length : Int)) (e_slen Try.underlying9 rfl) ?_
    refine Go.XK.s (v := .int .i64 (((a.length : Int) + (b.length : Int)) + (c.length : Int))) (e_add rfl rfl (by omega)) ?_
    refine Go.XK.s (v := .bool (decide ((247 : Int) < ((a.length : Int) + (b.length : Int)) + (c.length : Int)))) (e_gt rfl rfl) ?_
    refine sl_nil (nrm_k ?_)
    refine sc_ifd rfl (fun c25 => ?_) (fun c25 => ?_)
    ·
      refine sc_seq ?_
      refine sc_reg ?_
      refine Go.XK.s (v := .agg #[.string (B []), .int .i64 0, .string (B [])]) (e_build (vs := []) rfl (by kernel_rfl)) ?_
      refine su_blkV [.string (B []), .int .i64 0, .string (B [])] [.string (B []), .int .i64 0, .string (B [])] rfl rfl hb8 rfl Try.sizeOf41 (Nat.le_of_ble_eq_true rfl) rfl rfl ?_
      intro w3 hn_ hm_w3 hs_w3
      have ho_ := hb8
      replace hb8 := hn_
      clear hn_
      have xw_w3 : Ext w w3 := below_mut xw_w1 (Below.size xw_w1) hm_w3 ge_b8
      refine Go.XK.s (v := .int .i64 7) (e_assign rfl) ?_
      refine sl_nil (nrm_k ?_)
      refine sc_retf rfl (ret2 Try.results29 (rvc rfl (hb8.loadA Try.isAgg41 Try.sizeOf41 rfl)) (rvt rfl) ?_)
      exact ⟨by rw [refR, if_neg (by rw [c15]; simp), if_pos c25]; rfl, xw_w3⟩
    ·
      refine sc_skip (nrm_k ?_)
      refine sc_seq ?_
      refine sc_reg ?_
      refine Go.XK.s (v := .string (B a)) (e_move rfl) ?_
      refine Go.XK.s (v := .int .i64 (a.length : Int)) (e_slen Try.underlying9 rfl) ?_
      refine Go.XK.s (v := .int .u8 ((u8of (a.length : Int)).toNat)) (e_intu8 Try.underlying3 Try.underlying5 rfl) ?_
      refine Go.XK.s (v := .string (B b)) (e_move rfl) ?_
      refine Go.XK.s (v := .int .i64 (b.length : Int)) (e_slen Try.underlying9 rfl) ?_
      refine Go.XK.s (v := .int .u8 ((u8of (b.length : Int)).toNat)) (e_intu8 Try.underlying3 Try.underlying5 rfl) ?_
      refine Go.XK.s (v := .string (B c)) (e_move rfl) ?_
      refine Go.XK.s (v := .int .i64 (c.length : Int)) (e_slen Try.underlying9 rfl) ?_
      refine Go.XK.s (v := .int .u8 ((u8of (c.length : Int)).toNat)) (e_intu8 Try.underlying3 Try.underlying5 rfl) ?_
      refine Go.XK.s (v := .int .i64 z) (e_move rfl) ?_
      refine Go.XK.s (v := .int .u8 ((u8of z).toNat)) (e_intu8 Try.underlying3 Try.underlying5 rfl) ?_
      refine s_bslice (vs := [(0, .int .u8 ((u8of (a.length : Int)).toNat)), (1, .int .u8 ((u8of (b.length : Int)).toNat)), (2, .int .u8 ((u8of (c.length : Int)).toNat)), (3, .int .u8 ((u8of z).toNat))]) (e := 5) rfl [.int .u8 ((u8of (a.length : Int)).toNat), .int .u8 ((u8of (b.length : Int)).toNat), .int .u8 ((u8of (c.length : Int)).toNat), .int .u8 ((u8of z).toNat)] (by kernel_rfl) ?_
      intro b38 w4 hb38 he38 hs38 hx38
      have ne_b38_b8 : b38 ≠ b8 := by have h_ := hb8.lt; omega
      have ge_b38 : w.heap.size ≤ b38 := by have h_ := (Below.size xw_w1); omega
      have xw_w4 : Ext w w4 := Ext.tr xw_w1 hx38
      replace hb8 := hb8.ext hx38
      refine Go.XK.s (v := .string (B [u8of (a.length : Int), u8of (b.length : Int), u8of (c.length : Int), u8of z])) (e_convr (l := _) rfl (conv_blk (s := [u8of (a.length : Int), u8of (b.length : Int), u8of (c.length : Int), u8of z]) Try.underlying70 Try.underlying5 Try.underlying9 hb38 rfl)) ?_
      refine Go.XK.s (v := .string (B a)) (e_move rfl) ?_
      refine Go.XK.s (v := .string (B ([u8of (a.length : Int), u8of (b.length : Int), u8of (c.length : Int), u8of z] ++ a))) (e_sadd rfl rfl (by first | omega | (simp <;> omega))) ?_
      refine Go.XK.s (v := .string (B b)) (e_move rfl) ?_
      refine Go.XK.s (v := .string (B (([u8of (a.length : Int), u8of (b.length : Int), u8of (c.length : Int), u8of z] ++ a) ++ b))) (e_sadd rfl rfl (by first | omega | (simp <;> omega))) ?_
      refine Go.XK.s (v := .string (B c)) (e_move rfl) ?_
      refine Go.XK.s (v := .string (B ((([u8of (a.length : Int), u8of (b.length : Int), u8of (c.length : Int), u8of z] ++ a) ++ b) ++ c))) (e_sadd rfl rfl (by first | omega | (simp <;> omega))) ?_
      refine Go.XK.s (v := .agg #[.string (B [69, 82]), .int .i64 1, .string (B ((([u8of (a.length : Int), u8of (b.length : Int), u8of (c.length : Int), u8of z] ++ a) ++ b) ++ c))]) (e_build (vs := [(0, .string (B [69, 82])), (1, .int .i64 1), (2, .string (B ((([u8of (a.length : Int), u8of (b.length : Int), u8of (c.length : Int), u8of z] ++ a) ++ b) ++ c)))]) rfl (by kernel_rfl)) ?_
      refine su_blkV [.string (B [69, 82]), .int .i64 1, .string (B ((([u8of (a.length : Int), u8of (b.length : Int), u8of (c.length : Int), u8of z] ++ a) ++ b) ++ c))] [.string (B [69, 82]), .int .i64 1, .string (B ((([u8of (a.length : Int), u8of (b.length : Int), u8of (c.length : Int), u8of z] ++ a) ++ b) ++ c))] rfl rfl hb8 rfl Try.sizeOf41 (Nat.le_of_ble_eq_true rfl) rfl rfl ?_
      intro w5 hn_ hm_w5 hs_w5
      have ho_ := hb8
      replace hb8 := hn_
      clear hn_
      replace hb38 := hb38.mut hm_w5 ne_b38_b8
      have xw_w5 : Ext w w5 := below_mut xw_w4 (Below.size xw_w4) hm_w5 ge_b8
      refine Go.XK.s (v := .int .i64 0) (e_assign rfl) ?_
      refine sl_nil (nrm_k ?_)
      refine sc_retf rfl (ret2 Try.results29 (rvc rfl (hb8.loadA Try.isAgg41 Try.sizeOf41 rfl)) (rvt rfl) ?_)
      exact ⟨by rw [refR, if_neg (by rw [c15]; simp), if_neg c25]; rfl, xw_w5⟩

/-- masterdisc/susp.References (function 31) -/
theorem refs_c (l : List En) (A : Option Addr) (c : Nat) (w : World) (hl : SlR w A c 3 encE l) (hdl : ∀ x ∈ l, x.d.length ≤ 1099511627776) (hll : l.length ≤ 1000000) : CallR Try.prog 31 [.slice A l.length c] w (fun v w' => Go.XK.Own w' w.heap.size 9 1 encS v (refL l) ∧ Ext w w') := by
  have hmx0 := hl.lenle
  simp only [maxLen] at hmx0
  refine callR_of (n := 51) [(0, .slice A l.length c)] Try.func31 rfl rfl (Nat.le_of_ble_eq_true rfl) rfl ?_
  refine sc_seq ?_
  refine sc_reg ?_
  refine Go.XK.s (v := .slice none 0 0) (e_assign rfl) ?_
  refine sl_nil (nrm_k ?_)
  refine sc_seq ?_
  refine sc_reg ?_
  refine Go.XK.s (v := .slice none 0 0) (e_assign rfl) ?_
  refine sl_nil (nrm_k ?_)
  refine sc_seq ?_
  refine sc_seq ?_
  refine sc_reg ?_
  refine Go.XK.s (v := .slice A l.length c) (e_move rfl) ?_
  refine Go.XK.s (v := .int .i64 (l.length : Int)) (e_len Try.underlying22 rfl) ?_
  refine Go.XK.s (v := .int .i64 0) (e_move rfl) ?_
  refine sl_nil (nrm_k ?_)
  refine sc_block ?_
  refine sc_loop (fun m_ l_ w_ => ∃ (i : Nat) (v_ : Value) (xs : List (List UInt8)), m_ = l.length - i ∧ l_ = [(9, .int .i64 (i : Int)), (3, v_), (7, .slice A l.length c), (8, .int .i64 (l.length : Int))] ∧ Ext w w_ ∧ Go.XK.Own w_ w.heap.size 9 1 encS v_ xs ∧ (i ≤ l.length ∧ xs.length ≤ i) ∧ xs = refL (l.take i)) _ [(9, .int .i64 (0 : Int)), (3, (.slice none 0 0)), (7, .slice A l.length c), (8, .int .i64 (l.length : Int))] ⟨0, .slice none 0 0, [], rfl, rfl, (Ext.rfl' w), (Go.XK.Own.nil _ _ _ _ _), ⟨⟨by omega, by simp⟩, rfl⟩⟩ (.cons rfl (.cons rfl (.cons rfl (.cons rfl (.nil))))) ?_
  rintro j2 _ w1 ⟨i, v_, xs, rfl, rfl, xw_w1, ho, ⟨⟨hi, hxl⟩, hxs⟩⟩
  refine sc_seq ?_
  refine sc_reg ?_
  refine Go.XK.s (v := .bool (decide ((i : Int) < (l.length : Int)))) (e_lt rfl rfl) ?_
  refine sl_nil (nrm_k ?_)
  refine sc_seq ?_
  refine sc_ifd rfl (fun c10 => ?_) (fun c10 => ?_)
  ·
    obtain ⟨x, hx⟩ : ∃ x, l[i]? = some x := ⟨_, List.getElem?_eq_getElem (by omega)⟩
    have hxd := hdl x (List.mem_of_getElem? hx)
    refine sc_skip (nrm_k ?_)
    refine sc_seq ?_
    refine sc_block ?_
    refine sc_seq ?_
    refine sc_reg ?_
    refine Go.XK.s (v := .pointer (some (el A 3 (i : Int) 0))) (e_idxEl (e := x) Try.underlying22 Try.sizeOf41 rfl rfl (hl.1.ext xw_w1) hx (by omega) rfl) ?_
    refine Go.XK.s (v := .agg #[.string (B x.g), .int .i64 x.v, .string (B x.d)]) (e_ldElA (xs := l) (enc := encE) (e := x) rfl (hl.1.ext xw_w1) hx Try.isAgg41 Try.sizeOf41 rfl) ?_
    refine s_alloc (cs := [.string (B []), .int .i64 0, .string (B [])]) Try.zeroValue41 rfl ?_
    intro b5 w3 hb5 he5 hs5 hx5
    have no_b5_ho : Value.ownBlock v_ ≠ some b5 := fun h_ => by have h2_ := (Go.XK.Own.lt ho _ h_).2; omega
    have ge_b5 : w.heap.size ≤ b5 := by have h_ := (Below.size xw_w1); omega
    have xw_w3 : Ext w w3 := Ext.tr xw_w1 hx5
    replace ho := ho.ext hx5
    refine su_blkV [.string (B x.g), .int .i64 x.v, .string (B x.d)] [.string (B x.g), .int .i64 x.v, .string (B x.d)] rfl rfl hb5 rfl Try.sizeOf41 (Nat.le_of_ble_eq_true rfl) rfl rfl ?_
    intro w4 hn_ hm_w4 hs_w4
    have ho_ := hb5
    replace hb5 := hn_
    clear hn_
    replace ho := ho.mut hm_w4 no_b5_ho
    have xw_w4 : Ext w w4 := below_mut xw_w3 (Below.size xw_w3) hm_w4 ge_b5
    refine sl_nil (nrm_k ?_)
    refine sc_seq ?_
    refine sc_reg ?_
    refine Go.XK.s (v := .pointer (some ⟨b5, 2, none⟩)) (e_fieldB (sz := 1) Try.underlying41 rfl Try.sizeOf9 (by decide) rfl rfl) ?_
    refine Go.XK.s (v := .string (B x.d)) (e_load rfl (load1 Try.isAgg9 (hb5.cell (j := 2) rfl))) ?_
    refine Go.XK.s (v := .string (B x.d)) (e_assign rfl) ?_
    refine sl_nil (nrm_k ?_)
    refine sc_seq ?_
    rcases Classical.em (x.g = [69, 82]) with g5 | g5
    ·
      rcases Classical.em ((4 : Int) ≤ (x.d.length : Int)) with g6 | g6
      ·
        refine sc_free [(6, .string (B x.d)), (14, .string (B x.d)), (13, .pointer (some ⟨b5, 2, none⟩)), (5, .pointer (some ⟨b5, 0, none⟩)), (12, .agg #[.string (B x.g), .int .i64 x.v, .string (B x.d)]), (11, .pointer (some (el A 3 (i : Int) 0))), (10, .bool (decide ((i : Int) < (l.length : Int)))), (9, .int .i64 (i : Int)), (3, v_), (7, .slice A l.length c), (8, .int .i64 (l.length : Int))] [15, 16, 17, 18, 19, 20, 21, 22, 23, 24, 25, 26, 27, 28, 29, 30, 31, 32, 33, 34, 35, 36, 37, 38, 39] [(Is (.pointer (some ⟨b5, 0, none⟩))), (Is (.string (B x.g))), (Is (.bool (decide (x.g = [69, 82])))), (Is (.bool (decide (x.g = [69, 82])))), (Is (.string (B x.d))), (Is (.int .i64 (x.d.length : Int))), (Is (.bool (decide ((4 : Int) ≤ (x.d.length : Int))))), (Is (.bool (decide ((4 : Int) ≤ (x.d.length : Int))))), (Is (.bool (decide ((4 : Int) ≤ (x.d.length : Int))))), (Is (.string (B x.d))), (Is (.int .i64 (x.d.length : Int))), (Is (.string (B x.d))), (Is (.int .u8 ((at_ x.d 0).toNat))), (Is (.int .i64 ((at_ x.d 0).toNat : Int))), (Is (.int .i64 ((4 : Int) + ((at_ x.d 0).toNat : Int)))), (Is (.string (B x.d))), (Is (.int .u8 ((at_ x.d 1).toNat))), (Is (.int .i64 ((at_ x.d 1).toNat : Int))), (Is (.int .i64 (((4 : Int) + ((at_ x.d 0).toNat : Int)) + ((at_ x.d 1).toNat : Int)))), (Is (.string (B x.d))), (Is (.int .u8 ((at_ x.d 2).toNat))), (Is (.int .i64 ((at_ x.d 2).toNat : Int))), (Is (.int .i64 ((((4 : Int) + ((at_ x.d 0).toNat : Int)) + ((at_ x.d 1).toNat : Int)) + ((at_ x.d 2).toNat : Int)))), (Is (.bool (decide ((((4 : Int) + ((at_ x.d 0).toNat : Int)) + ((at_ x.d 1).toNat : Int)) + ((at_ x.d 2).toNat : Int) ≤ (x.d.length : Int))))), (Is (.bool (decide ((((4 : Int) + ((at_ x.d 0).toNat : Int)) + ((at_ x.d 1).toNat : Int)) + ((at_ x.d 2).toNat : Int) ≤ (x.d.length : Int)))))] [] (by kernel_rfl) (Sub.refl _) (by kernel_rfl) (by kernel_rfl) (by kernel_rfl) rfl (by kernel_rfl) (ds_ext (Stays.spec (.is _ (.is _ (.is _ (.is _ (.is _ (.is _ (.is _ (.is _ (.is _ (.is _ (.is _ (.is _ (.is _ (.is _ (.is _ (.is _ (.is _ (.is _ (.is _ (.is _ (.is _ (.is _ (.is _ (.is _ (.is _ (.nil)))))))))))))))))))))))))))) ⟨?_, ?_, ?_, ?_, ?_, ?_, ?_, ?_, ?_, ?_, ?_, ?_, ?_, ?_, ?_, ?_, ?_, ?_, ?_, ?_, ?_, ?_, ?_, ?_, ?_, trivial⟩ ?_
        · intro Q act_ wI hxI ha hp
          have xw_wI : Ext w wI := Ext.tr xw_w4 hxI
          replace hb5 := hb5.ext hxI
          replace ho := ho.ext hxI
          exact h_evA (v := .pointer (some ⟨b5, 0, none⟩)) ha rfl (e_fieldB (sz := 1) Try.underlying41 rfl Try.sizeOf9 (by decide) rfl rfl) rfl rfl (Ext.rfl' _)
        · intro Q act_ wI hxI ha hp
          have xw_wI : Ext w wI := Ext.tr xw_w4 hxI
          replace hb5 := hb5.ext hxI
          replace ho := ho.ext hxI
          have ha := ha.add (show act_.tmps.getD 15 undef = .pointer (some ⟨b5, 0, none⟩) from hp 0 (by kernel_rfl) (by decide))
          exact h_evA (v := .string (B x.g)) ha rfl (e_load rfl (load1 Try.isAgg9 (hb5.cell (j := 0) rfl))) rfl rfl (Ext.rfl' _)
        · intro Q act_ wI hxI ha hp
          have xw_wI : Ext w wI := Ext.tr xw_w4 hxI
          replace hb5 := hb5.ext hxI
          replace ho := ho.ext hxI
          have ha := ha.add (show act_.tmps.getD 16 undef = .string (B x.g) from hp 1 (by kernel_rfl) (by decide))
          exact h_evA (v := .bool (decide (x.g = [69, 82]))) ha rfl (e_seq rfl rfl) rfl rfl (Ext.rfl' _)
        · intro Q act_ wI hxI ha hp
          have xw_wI : Ext w wI := Ext.tr xw_w4 hxI
          replace hb5 := hb5.ext hxI
          replace ho := ho.ext hxI
          have ha := ha.add (show act_.tmps.getD 17 undef = .bool (decide (x.g = [69, 82])) from hp 2 (by kernel_rfl) (by decide))
          exact h_evA (v := .bool (decide (x.g = [69, 82]))) ha rfl (e_move rfl) rfl rfl (Ext.rfl' _)
        · intro Q act_ wI hxI ha hp
          have xw_wI : Ext w wI := Ext.tr xw_w4 hxI
          replace hb5 := hb5.ext hxI
          replace ho := ho.ext hxI
          have ha := ha.add (show act_.tmps.getD 18 undef = .bool (decide (x.g = [69, 82])) from hp 3 (by kernel_rfl) (by decide))
          exact h_gevA (v := .string (B x.d)) ha rfl rfl rfl (decide_eq_true g5) (e_move rfl) rfl rfl (Ext.rfl' _)
        · intro Q act_ wI hxI ha hp
          have xw_wI : Ext w wI := Ext.tr xw_w4 hxI
          replace hb5 := hb5.ext hxI
          replace ho := ho.ext hxI
          have ha := ha.add (show act_.tmps.getD 18 undef = .bool (decide (x.g = [69, 82])) from hp 3 (by kernel_rfl) (by decide))
          have ha := ha.add (show act_.tmps.getD 19 undef = .string (B x.d) from hp 4 (by kernel_rfl) (by decide))
          exact h_gevA (v := .int .i64 (x.d.length : Int)) ha rfl rfl rfl (decide_eq_true g5) (e_slen Try.underlying9 rfl) rfl rfl (Ext.rfl' _)
        · intro Q act_ wI hxI ha hp
          have xw_wI : Ext w wI := Ext.tr xw_w4 hxI
          replace hb5 := hb5.ext hxI
          replace ho := ho.ext hxI
          have ha := ha.add (show act_.tmps.getD 18 undef = .bool (decide (x.g = [69, 82])) from hp 3 (by kernel_rfl) (by decide))
          have ha := ha.add (show act_.tmps.getD 20 undef = .int .i64 (x.d.length : Int) from hp 5 (by kernel_rfl) (by decide))
          exact h_gevA (v := .bool (decide ((4 : Int) ≤ (x.d.length : Int)))) ha rfl rfl rfl (decide_eq_true g5) (e_ge rfl rfl) rfl rfl (Ext.rfl' _)
        · intro Q act_ wI hxI ha hp
          have xw_wI : Ext w wI := Ext.tr xw_w4 hxI
          replace hb5 := hb5.ext hxI
          replace ho := ho.ext hxI
          have ha := ha.add (show act_.tmps.getD 18 undef = .bool (decide (x.g = [69, 82])) from hp 3 (by kernel_rfl) (by decide))
          have ha := ha.add (show act_.tmps.getD 21 undef = .bool (decide ((4 : Int) ≤ (x.d.length : Int))) from hp 6 (by kernel_rfl) (by decide))
          exact h_evA (v := .bool (decide ((4 : Int) ≤ (x.d.length : Int)))) ha rfl (e_pickT rfl (decide_eq_true g5) rfl) rfl rfl (Ext.rfl' _)
        · intro Q act_ wI hxI ha hp
          have xw_wI : Ext w wI := Ext.tr xw_w4 hxI
          replace hb5 := hb5.ext hxI
          replace ho := ho.ext hxI
          have ha := ha.add (show act_.tmps.getD 22 undef = .bool (decide ((4 : Int) ≤ (x.d.length : Int))) from hp 7 (by kernel_rfl) (by decide))
          exact h_evA (v := .bool (decide ((4 : Int) ≤ (x.d.length : Int)))) ha rfl (e_move rfl) rfl rfl (Ext.rfl' _)
        · intro Q act_ wI hxI ha hp
          have xw_wI : Ext w wI := Ext.tr xw_w4 hxI
          replace hb5 := hb5.ext hxI
          replace ho := ho.ext hxI
          have ha := ha.add (show act_.tmps.getD 23 undef = .bool (decide ((4 : Int) ≤ (x.d.length : Int))) from hp 8 (by kernel_rfl) (by decide))
          exact h_gevA (v := .string (B x.d)) ha rfl rfl rfl (decide_eq_true g6) (e_move rfl) rfl rfl (Ext.rfl' _)
        · intro Q act_ wI hxI ha hp
          have xw_wI : Ext w wI := Ext.tr xw_w4 hxI
          replace hb5 := hb5.ext hxI
          replace ho := ho.ext hxI
          have ha := ha.add (show act_.tmps.getD 23 undef = .bool (decide ((4 : Int) ≤ (x.d.length : Int))) from hp 8 (by kernel_rfl) (by decide))
          have ha := ha.add (show act_.tmps.getD 24 undef = .string (B x.d) from hp 9 (by kernel_rfl) (by decide))
          exact h_gevA (v := .int .i64 (x.d.length : Int)) ha rfl rfl rfl (decide_eq_true g6) (e_slen Try.underlying9 rfl) rfl rfl (Ext.rfl' _)
        · intro Q act_ wI hxI ha hp
          have xw_wI : Ext w wI := Ext.tr xw_w4 hxI
          replace hb5 := hb5.ext hxI
          replace ho := ho.ext hxI
          have ha := ha.add (show act_.tmps.getD 23 undef = .bool (decide ((4 : Int) ≤ (x.d.length : Int))) from hp 8 (by kernel_rfl) (by decide))
          exact h_gevA (v := .string (B x.d)) ha rfl rfl rfl (decide_eq_true g6) (e_move rfl) rfl rfl (Ext.rfl' _)
        · intro Q act_ wI hxI ha hp
          have xw_wI : Ext w wI := Ext.tr xw_w4 hxI
          replace hb5 := hb5.ext hxI
          replace ho := ho.ext hxI
          have ha := ha.add (show act_.tmps.getD 23 undef = .bool (decide ((4 : Int) ≤ (x.d.length : Int))) from hp 8 (by kernel_rfl) (by decide))
          have ha := ha.add (show act_.tmps.getD 26 undef = .string (B x.d) from hp 11 (by kernel_rfl) (by decide))
          exact h_gevA (v := .int .u8 ((at_ x.d 0).toNat)) ha rfl rfl rfl (decide_eq_true g6) (e_sat Try.underlying9 rfl rfl (by decide) (by omega)) rfl rfl (Ext.rfl' _)
        · intro Q act_ wI hxI ha hp
          have xw_wI : Ext w wI := Ext.tr xw_w4 hxI
          replace hb5 := hb5.ext hxI
          replace ho := ho.ext hxI
          have ha := ha.add (show act_.tmps.getD 23 undef = .bool (decide ((4 : Int) ≤ (x.d.length : Int))) from hp 8 (by kernel_rfl) (by decide))
          have ha := ha.add (show act_.tmps.getD 27 undef = .int .u8 ((at_ x.d 0).toNat) from hp 12 (by kernel_rfl) (by decide))
          exact h_gevA (v := .int .i64 ((at_ x.d 0).toNat : Int)) ha rfl rfl rfl (decide_eq_true g6) (e_u8int (c := at_ x.d 0) Try.underlying5 Try.underlying3 (by decide) rfl) rfl rfl (Ext.rfl' _)
        · intro Q act_ wI hxI ha hp
          have xw_wI : Ext w wI := Ext.tr xw_w4 hxI
          replace hb5 := hb5.ext hxI
          replace ho := ho.ext hxI
          have ha := ha.add (show act_.tmps.getD 23 undef = .bool (decide ((4 : Int) ≤ (x.d.length : Int))) from hp 8 (by kernel_rfl) (by decide))
          have ha := ha.add (show act_.tmps.getD 28 undef = .int .i64 ((at_ x.d 0).toNat : Int) from hp 13 (by kernel_rfl) (by decide))
          exact h_gevA (v := .int .i64 ((4 : Int) + ((at_ x.d 0).toNat : Int))) ha rfl rfl rfl (decide_eq_true g6) (e_add rfl rfl (by have h0_ := u8_lt (at_ x.d 0); have h1_ := u8_lt (at_ x.d 1); have h2_ := u8_lt (at_ x.d 2); omega)) rfl rfl (Ext.rfl' _)
        · intro Q act_ wI hxI ha hp
          have xw_wI : Ext w wI := Ext.tr xw_w4 hxI
          replace hb5 := hb5.ext hxI
          replace ho := ho.ext hxI
          have ha := ha.add (show act_.tmps.getD 23 undef = .bool (decide ((4 : Int) ≤ (x.d.length : Int))) from hp 8 (by kernel_rfl) (by decide))
          exact h_gevA (v := .string (B x.d)) ha rfl rfl rfl (decide_eq_true g6) (e_move rfl) rfl rfl (Ext.rfl' _)
        · intro Q act_ wI hxI ha hp
          have xw_wI : Ext w wI := Ext.tr xw_w4 hxI
          replace hb5 := hb5.ext hxI
          replace ho := ho.ext hxI
          have ha := ha.add (show act_.tmps.getD 23 undef = .bool (decide ((4 : Int) ≤ (x.d.length : Int))) from hp 8 (by kernel_rfl) (by decide))
          have ha := ha.add (show act_.tmps.getD 30 undef = .string (B x.d) from hp 15 (by kernel_rfl) (by decide))
          exact h_gevA (v := .int .u8 ((at_ x.d 1).toNat)) ha rfl rfl rfl (decide_eq_true g6) (e_sat Try.underlying9 rfl rfl (by decide) (by omega)) rfl rfl (Ext.rfl' _)
        · intro Q act_ wI hxI ha hp
          have xw_wI : Ext w wI := Ext.tr xw_w4 hxI
          replace hb5 := hb5.ext hxI
          replace ho := ho.ext hxI
          have ha := ha.add (show act_.tmps.getD 23 undef = .bool (decide ((4 : Int) ≤ (x.d.length : Int))) from hp 8 (by kernel_rfl) (by decide))
          have ha := ha.add (show act_.tmps.getD 31 undef = .int .u8 ((at_ x.d 1).toNat) from hp 16 (by kernel_rfl) (by decide))
          exact h_gevA (v := .int .i64 ((at_ x.d 1).toNat : Int)) ha rfl rfl rfl (decide_eq_true g6) (e_u8int (c := at_ x.d 1) Try.underlying5 Try.underlying3 (by decide) rfl) rfl rfl (Ext.rfl' _)
        · intro Q act_ wI hxI ha hp
          have xw_wI : Ext w wI := Ext.tr xw_w4 hxI
          replace hb5 := hb5.ext hxI
          replace ho := ho.ext hxI
          have ha := ha.add (show act_.tmps.getD 23 undef = .bool (decide ((4 : Int) ≤ (x.d.length : Int))) from hp 8 (by kernel_rfl) (by decide))
          have ha := ha.add (show act_.tmps.getD 29 undef = .int .i64 ((4 : Int) + ((at_ x.d 0).toNat : Int)) from hp 14 (by kernel_rfl) (by decide))
          have ha := ha.add (show act_.tmps.getD 32 undef = .int .i64 ((at_ x.d 1).toNat : Int) from hp 17 (by kernel_rfl) (by decide))
          exact h_gevA (v := .int .i64 (((4 : Int) + ((at_ x.d 0).toNat : Int)) + ((at_ x.d 1).toNat : Int))) ha rfl rfl rfl (decide_eq_true g6) (e_add rfl rfl (by have h0_ := u8_lt (at_ x.d 0); have h1_ := u8_lt (at_ x.d 1); have h2_ := u8_lt (at_ x.d 2); omega)) rfl rfl (Ext.rfl' _)
        · intro Q act_ wI hxI ha hp
          have xw_wI : Ext w wI := Ext.tr xw_w4 hxI
          replace hb5 := hb5.ext hxI
          replace ho := ho.ext hxI
          have ha := ha.add (show act_.tmps.getD 23 undef = .bool (decide ((4 : Int) ≤ (x.d.length : Int))) from hp 8 (by kernel_rfl) (by decide))
          exact h_gevA (v := .string (B x.d)) ha rfl rfl rfl (decide_eq_true g6) (e_move rfl) rfl rfl (Ext.rfl' _)
        · intro Q act_ wI hxI ha hp
          have xw_wI : Ext w wI := Ext.tr xw_w4 hxI
          replace hb5 := hb5.ext hxI
          replace ho := ho.ext hxI
          have ha := ha.add (show act_.tmps.getD 23 undef = .bool (decide ((4 : Int) ≤ (x.d.length : Int))) from hp 8 (by kernel_rfl) (by decide))
          have ha := ha.add (show act_.tmps.getD 34 undef = .string (B x.d) from hp 19 (by kernel_rfl) (by decide))
          exact h_gevA (v := .int .u8 ((at_ x.d 2).toNat)) ha rfl rfl rfl (decide_eq_true g6) (e_sat Try.underlying9 rfl rfl (by decide) (by omega)) rfl rfl (Ext.rfl' _)
        · intro Q act_ wI hxI ha hp
          have xw_wI : Ext w wI := Ext.tr xw_w4 hxI
          replace hb5 := hb5.ext hxI
          replace ho := ho.ext hxI
          have ha := ha.add (show act_.tmps.getD 23 undef = .bool (decide ((4 : Int) ≤ (x.d.length : Int))) from hp 8 (by kernel_rfl) (by decide))
          have ha := ha.add (show act_.tmps.getD 35 undef = .int .u8 ((at_ x.d 2).toNat) from hp 20 (by kernel_rfl) (by decide))
          exact h_gevA (v := .int .i64 ((at_ x.d 2).toNat : Int)) ha rfl rfl rfl (decide_eq_true g6) (e_u8int (c := at_ x.d 2) Try.underlying5 Try.underlying3 (by decide) rfl) rfl rfl (Ext.rfl' _)
        · intro Q act_ wI hxI ha hp
          have xw_wI : Ext w wI := Ext.tr xw_w4 hxI
          replace hb5 := hb5.ext hxI
          replace ho := ho.ext hxI
          have ha := ha.add (show act_.tmps.getD 23 undef = .bool (decide ((4 : Int) ≤ (x.d.length : Int))) from hp 8 (by kernel_rfl) (by decide))
          have ha := ha.add (show act_.tmps.getD 33 undef = .int .i64 (((4 : Int) + ((at_ x.d 0).toNat : Int)) + ((at_ x.d 1).toNat : Int)) from hp 18 (by kernel_rfl) (by decide))
          have ha := ha.add (show act_.tmps.getD 36 undef = .int .i64 ((at_ x.d 2).toNat : Int) from hp 21 (by kernel_rfl) (by decide))
          exact h_gevA (v := .int .i64 ((((4 : Int) + ((at_ x.d 0).toNat : Int)) + ((at_ x.d 1).toNat : Int)) + ((at_ x.d 2).toNat : Int))) ha rfl rfl rfl (decide_eq_true g6) (e_add rfl rfl (by have h0_ := u8_lt (at_ x.d 0); have h1_ := u8_lt (at_ x.d 1); have h2_ := u8_lt (at_ x.d 2); omega)) rfl rfl (Ext.rfl' _)
        · intro Q act_ wI hxI ha hp
          have xw_wI : Ext w wI := Ext.tr xw_w4 hxI
          replace hb5 := hb5.ext hxI
          replace ho := ho.ext hxI
          have ha := ha.add (show act_.tmps.getD 23 undef = .bool (decide ((4 : Int) ≤ (x.d.length : Int))) from hp 8 (by kernel_rfl) (by decide))
          have ha := ha.add (show act_.tmps.getD 25 undef = .int .i64 (x.d.length : Int) from hp 10 (by kernel_rfl) (by decide))
          have ha := ha.add (show act_.tmps.getD 37 undef = .int .i64 ((((4 : Int) + ((at_ x.d 0).toNat : Int)) + ((at_ x.d 1).toNat : Int)) + ((at_ x.d 2).toNat : Int)) from hp 22 (by kernel_rfl) (by decide))
          exact h_gevA (v := .bool (decide ((((4 : Int) + ((at_ x.d 0).toNat : Int)) + ((at_ x.d 1).toNat : Int)) + ((at_ x.d 2).toNat : Int) ≤ (x.d.length : Int)))) ha rfl rfl rfl (decide_eq_true g6) (e_ge rfl rfl) rfl rfl (Ext.rfl' _)
        · intro Q act_ wI hxI ha hp
          have xw_wI : Ext w wI := Ext.tr xw_w4 hxI
          replace hb5 := hb5.ext hxI
          replace ho := ho.ext hxI
          have ha := ha.add (show act_.tmps.getD 23 undef = .bool (decide ((4 : Int) ≤ (x.d.length : Int))) from hp 8 (by kernel_rfl) (by decide))
          have ha := ha.add (show act_.tmps.getD 38 undef = .bool (decide ((((4 : Int) + ((at_ x.d 0).toNat : Int)) + ((at_ x.d 1).toNat : Int)) + ((at_ x.d 2).toNat : Int) ≤ (x.d.length : Int))) from hp 23 (by kernel_rfl) (by decide))
          exact h_evA (v := .bool (decide ((((4 : Int) + ((at_ x.d 0).toNat : Int)) + ((at_ x.d 1).toNat : Int)) + ((at_ x.d 2).toNat : Int) ≤ (x.d.length : Int)))) ha rfl (e_pickT rfl (decide_eq_true g6) rfl) rfl rfl (Ext.rfl' _)
        intro vs_ w7 hx_w7 hvs act_ ha hv
        have xw_w7 : Ext w w7 := Ext.tr xw_w4 hx_w7
        replace hb5 := hb5.ext hx_w7
        replace ho := ho.ext hx_w7
        have ha := ha.add ((hv 24 (by decide)).trans (show vs_ 24 = .bool (decide ((((4 : Int) + ((at_ x.d 0).toNat : Int)) + ((at_ x.d 1).toNat : Int)) + ((at_ x.d 2).toNat : Int) ≤ (x.d.length : Int))) from hvs 24 (by decide)))
        refine st_go ha ?_
        clear ha hv hvs
        refine st_nil (nrm_k ?_)
        refine sc_ifd rfl (fun c39 => ?_) (fun c39 => ?_)
        ·
          refine sc_reg ?_
          refine Go.XK.s (v := v_) (e_move rfl) ?_
          refine Go.XK.s (v := .string (B x.d)) (e_move rfl) ?_
          refine Go.XK.s (v := .string (B x.d)) (e_move rfl) ?_
          refine Go.XK.s (v := .int .u8 ((at_ x.d 0).toNat)) (e_sat Try.underlying9 rfl rfl (by decide) (by omega)) ?_
          refine Go.XK.s (v := .int .i64 ((at_ x.d 0).toNat : Int)) (e_u8int (c := at_ x.d 0) Try.underlying5 Try.underlying3 (by decide) rfl) ?_
          refine Go.XK.s (v := .int .i64 ((4 : Int) + ((at_ x.d 0).toNat : Int))) (e_add rfl rfl (by have h0_ := u8_lt (at_ x.d 0); have h1_ := u8_lt (at_ x.d 1); have h2_ := u8_lt (at_ x.d 2); omega)) ?_
          refine Go.XK.s (v := .string (B ((x.d.take (4 + (at_ x.d 0).toNat)).drop 4))) (e_sslice (lo := 4) (hi := (4 + (at_ x.d 0).toNat)) Try.underlying9 rfl (Bd.at_ rfl rfl) (Bd.at_ rfl (by omega)) (by omega) (by omega)) ?_
          refine s_bslice (vs := [(0, .string (B ((x.d.take (4 + (at_ x.d 0).toNat)).drop 4)))]) (e := 9) rfl [.string (B ((x.d.take (4 + (at_ x.d 0).toNat)).drop 4))] (by kernel_rfl) ?_
          intro b47 w8 hb47 he47 hs47 hx47
          have ne_b47_b5 : b47 ≠ b5 := by have h_ := hb5.lt; omega
          have no_b47_ho : Value.ownBlock v_ ≠ some b47 := fun h_ => by have h2_ := (Go.XK.Own.lt ho _ h_).2; omega
          have ge_b47 : w.heap.size ≤ b47 := by have h_ := (Below.size xw_w7); omega
          have xw_w8 : Ext w w8 := Ext.tr xw_w7 hx47
          replace hb5 := hb5.ext hx47
          replace ho := ho.ext hx47
          refine s_appendLit2 (w0 := w) (z := .string (B [])) (kk := 1) (bytes := 16) rfl rfl Try.underlying48 (by kernel_rfl) rfl (by decide) (fun _ => rfl) one_encS [(x.d.take (4 + (at_ x.d 0).toNat)).drop 4] ho xw_w8 hb47 rfl rfl (by first | omega | (simp only [maxLen]; omega)) (by first | omega | (simp only [maxLen]; omega)) ?_
          intro v48 w9 ho48 xw_w9 hg48 hat48
          replace hb5 := hb5.grown hg48 (Own.ne ho hb5 (by decide))
          replace hb47 := hb47.grown hg48 no_b47_ho
          refine Go.XK.s (v := v48) (e_assign rfl) ?_
          refine sl_nil (nrm_k ?_)
          refine sc_reg ?_
          refine Go.XK.s (v := .int .i64 ((i : Int) + 1)) (e_add rfl rfl (by omega)) ?_
          refine Go.XK.s (v := .int .i64 ((i : Int) + 1)) (e_move rfl) ?_
          refine sl_nil ?_
          exact nrm_loopq rfl _ _ (by omega) ⟨i + 1, v48, xs ++ [(x.d.take (4 + (at_ x.d 0).toNat)).drop 4], rfl, rfl, xw_w9, ho48, ⟨⟨by omega, by first | omega | (rw [List.length_append]; simp; omega)⟩, by rw [refL_take hx, ← hxs]; first | (rw [refE_yes (by assumption) (by assumption) (by assumption)]) | (rw [refE_no1 (by assumption), List.append_nil]) | (rw [refE_no2 (by assumption), List.append_nil]) | (rw [refE_no3 (by assumption), List.append_nil])⟩⟩ (.cons rfl (.cons rfl (.cons rfl (.cons rfl (.nil)))))
        ·
          refine sc_skip (nrm_k ?_)
          refine sc_reg ?_
          refine Go.XK.s (v := .int .i64 ((i : Int) + 1)) (e_add rfl rfl (by omega)) ?_
          refine Go.XK.s (v := .int .i64 ((i : Int) + 1)) (e_move rfl) ?_
          refine sl_nil ?_
          exact nrm_loopq rfl _ _ (by omega) ⟨i + 1, v_, xs, rfl, rfl, xw_w7, ho, ⟨⟨by omega, by first | omega | (rw [List.length_append]; simp; omega)⟩, by rw [refL_take hx, ← hxs]; first | (rw [refE_yes (by assumption) (by assumption) (by assumption)]) | (rw [refE_no1 (by assumption), List.append_nil]) | (rw [refE_no2 (by assumption), List.append_nil]) | (rw [refE_no3 (by assumption), List.append_nil])⟩⟩ (.cons rfl (.cons rfl (.cons rfl (.cons rfl (.nil)))))
      ·
        refine sc_free [(6, .string (B x.d)), (14, .string (B x.d)), (13, .pointer (some ⟨b5, 2, none⟩)), (5, .pointer (some ⟨b5, 0, none⟩)), (12, .agg #[.string (B x.g), .int .i64 x.v, .string (B x.d)]), (11, .pointer (some (el A 3 (i : Int) 0))), (10, .bool (decide ((i : Int) < (l.length : Int)))), (9, .int .i64 (i : Int)), (3, v_), (7, .slice A l.length c), (8, .int .i64 (l.length : Int))] [15, 16, 17, 18, 19, 20, 21, 22, 23, 24, 25, 26, 27, 28, 29, 30, 31, 32, 33, 34, 35, 36, 37, 38, 39] [(Is (.pointer (some ⟨b5, 0, none⟩))), (Is (.string (B x.g))), (Is (.bool (decide (x.g = [69, 82])))), (Is (.bool (decide (x.g = [69, 82])))), (Is (.string (B x.d))), (Is (.int .i64 (x.d.length : Int))), (Is (.bool (decide ((4 : Int) ≤ (x.d.length : Int))))), (Is (.bool (decide ((4 : Int) ≤ (x.d.length : Int))))), (Is (.bool (decide ((4 : Int) ≤ (x.d.length : Int))))), (Is undef), (Is undef), (Is undef), (Is undef), (Is undef), (Is undef), (Is undef), (Is undef), (Is undef), (Is undef), (Is undef), (Is undef), (Is undef), (Is undef), (Is undef), (Is (.bool false))] [] (by kernel_rfl) (Sub.refl _) (by kernel_rfl) (by kernel_rfl) (by kernel_rfl) rfl (by kernel_rfl) (ds_ext (Stays.spec (.is _ (.is _ (.is _ (.is _ (.is _ (.is _ (.is _ (.is _ (.is _ (.is _ (.is _ (.is _ (.is _ (.is _ (.is _ (.is _ (.is _ (.is _ (.is _ (.is _ (.is _ (.is _ (.is _ (.is _ (.is _ (.nil)))))))))))))))))))))))))))) ⟨?_, ?_, ?_, ?_, ?_, ?_, ?_, ?_, ?_, ?_, ?_, ?_, ?_, ?_, ?_, ?_, ?_, ?_, ?_, ?_, ?_, ?_, ?_, ?_, ?_, trivial⟩ ?_
        · intro Q act_ wI hxI ha hp
          have xw_wI : Ext w wI := Ext.tr xw_w4 hxI
          replace hb5 := hb5.ext hxI
          replace ho := ho.ext hxI
          exact h_evA (v := .pointer (some ⟨b5, 0, none⟩)) ha rfl (e_fieldB (sz := 1) Try.underlying41 rfl Try.sizeOf9 (by decide) rfl rfl) rfl rfl (Ext.rfl' _)
        · intro Q act_ wI hxI ha hp
          have xw_wI : Ext w wI := Ext.tr xw_w4 hxI
          replace hb5 := hb5.ext hxI
          replace ho := ho.ext hxI
          have ha := ha.add (show act_.tmps.getD 15 undef = .pointer (some ⟨b5, 0, none⟩) from hp 0 (by kernel_rfl) (by decide))
          exact h_evA (v := .string (B x.g)) ha rfl (e_load rfl (load1 Try.isAgg9 (hb5.cell (j := 0) rfl))) rfl rfl (Ext.rfl' _)
        · intro Q act_ wI hxI ha hp
          have xw_wI : Ext w wI := Ext.tr xw_w4 hxI
          replace hb5 := hb5.ext hxI
          replace ho := ho.ext hxI
          have ha := ha.add (show act_.tmps.getD 16 undef = .string (B x.g) from hp 1 (by kernel_rfl) (by decide))
          exact h_evA (v := .bool (decide (x.g = [69, 82]))) ha rfl (e_seq rfl rfl) rfl rfl (Ext.rfl' _)
        · intro Q act_ wI hxI ha hp
          have xw_wI : Ext w wI := Ext.tr xw_w4 hxI
          replace hb5 := hb5.ext hxI
          replace ho := ho.ext hxI
          have ha := ha.add (show act_.tmps.getD 17 undef = .bool (decide (x.g = [69, 82])) from hp 2 (by kernel_rfl) (by decide))
          exact h_evA (v := .bool (decide (x.g = [69, 82]))) ha rfl (e_move rfl) rfl rfl (Ext.rfl' _)
        · intro Q act_ wI hxI ha hp
          have xw_wI : Ext w wI := Ext.tr xw_w4 hxI
          replace hb5 := hb5.ext hxI
          replace ho := ho.ext hxI
          have ha := ha.add (show act_.tmps.getD 18 undef = .bool (decide (x.g = [69, 82])) from hp 3 (by kernel_rfl) (by decide))
          exact h_gevA (v := .string (B x.d)) ha rfl rfl rfl (decide_eq_true g5) (e_move rfl) rfl rfl (Ext.rfl' _)
        · intro Q act_ wI hxI ha hp
          have xw_wI : Ext w wI := Ext.tr xw_w4 hxI
          replace hb5 := hb5.ext hxI
          replace ho := ho.ext hxI
          have ha := ha.add (show act_.tmps.getD 18 undef = .bool (decide (x.g = [69, 82])) from hp 3 (by kernel_rfl) (by decide))
          have ha := ha.add (show act_.tmps.getD 19 undef = .string (B x.d) from hp 4 (by kernel_rfl) (by decide))
          exact h_gevA (v := .int .i64 (x.d.length : Int)) ha rfl rfl rfl (decide_eq_true g5) (e_slen Try.underlying9 rfl) rfl rfl (Ext.rfl' _)
        · intro Q act_ wI hxI ha hp
          have xw_wI : Ext w wI := Ext.tr xw_w4 hxI
          replace hb5 := hb5.ext hxI
          replace ho := ho.ext hxI
          have ha := ha.add (show act_.tmps.getD 18 undef = .bool (decide (x.g = [69, 82])) from hp 3 (by kernel_rfl) (by decide))
          have ha := ha.add (show act_.tmps.getD 20 undef = .int .i64 (x.d.length : Int) from hp 5 (by kernel_rfl) (by decide))
          exact h_gevA (v := .bool (decide ((4 : Int) ≤ (x.d.length : Int)))) ha rfl rfl rfl (decide_eq_true g5) (e_ge rfl rfl) rfl rfl (Ext.rfl' _)
        · intro Q act_ wI hxI ha hp
          have xw_wI : Ext w wI := Ext.tr xw_w4 hxI
          replace hb5 := hb5.ext hxI
          replace ho := ho.ext hxI
          have ha := ha.add (show act_.tmps.getD 18 undef = .bool (decide (x.g = [69, 82])) from hp 3 (by kernel_rfl) (by decide))
          have ha := ha.add (show act_.tmps.getD 21 undef = .bool (decide ((4 : Int) ≤ (x.d.length : Int))) from hp 6 (by kernel_rfl) (by decide))
          exact h_evA (v := .bool (decide ((4 : Int) ≤ (x.d.length : Int)))) ha rfl (e_pickT rfl (decide_eq_true g5) rfl) rfl rfl (Ext.rfl' _)
        · intro Q act_ wI hxI ha hp
          have xw_wI : Ext w wI := Ext.tr xw_w4 hxI
          replace hb5 := hb5.ext hxI
          replace ho := ho.ext hxI
          have ha := ha.add (show act_.tmps.getD 22 undef = .bool (decide ((4 : Int) ≤ (x.d.length : Int))) from hp 7 (by kernel_rfl) (by decide))
          exact h_evA (v := .bool (decide ((4 : Int) ≤ (x.d.length : Int)))) ha rfl (e_move rfl) rfl rfl (Ext.rfl' _)
        · intro Q act_ wI hxI ha hp
          have xw_wI : Ext w wI := Ext.tr xw_w4 hxI
          replace hb5 := hb5.ext hxI
          replace ho := ho.ext hxI
          have ha := ha.add (show act_.tmps.getD 23 undef = .bool (decide ((4 : Int) ≤ (x.d.length : Int))) from hp 8 (by kernel_rfl) (by decide))
          exact h_gskip rfl rfl rfl (decide_eq_false g6) ha rfl rfl
        · intro Q act_ wI hxI ha hp
          have xw_wI : Ext w wI := Ext.tr xw_w4 hxI
          replace hb5 := hb5.ext hxI
          replace ho := ho.ext hxI
          have ha := ha.add (show act_.tmps.getD 23 undef = .bool (decide ((4 : Int) ≤ (x.d.length : Int))) from hp 8 (by kernel_rfl) (by decide))
          have ha := ha.add (show act_.tmps.getD 24 undef = undef from hp 9 (by kernel_rfl) (by decide))
          exact h_gskip rfl rfl rfl (decide_eq_false g6) ha rfl rfl
        · intro Q act_ wI hxI ha hp
          have xw_wI : Ext w wI := Ext.tr xw_w4 hxI
          replace hb5 := hb5.ext hxI
          replace ho := ho.ext hxI
          have ha := ha.add (show act_.tmps.getD 23 undef = .bool (decide ((4 : Int) ≤ (x.d.length : Int))) from hp 8 (by kernel_rfl) (by decide))
          exact h_gskip rfl rfl rfl (decide_eq_false g6) ha rfl rfl
        · intro Q act_ wI hxI ha hp
          have xw_wI : Ext w wI := Ext.tr xw_w4 hxI
          replace hb5 := hb5.ext hxI
          replace ho := ho.ext hxI
          have ha := ha.add (show act_.tmps.getD 23 undef = .bool (decide ((4 : Int) ≤ (x.d.length : Int))) from hp 8 (by kernel_rfl) (by decide))
          have ha := ha.add (show act_.tmps.getD 26 undef = undef from hp 11 (by kernel_rfl) (by decide))
          exact h_gskip rfl rfl rfl (decide_eq_false g6) ha rfl rfl
        · intro Q act_ wI hxI ha hp
          have xw_wI : Ext w wI := Ext.tr xw_w4 hxI
          replace hb5 := hb5.ext hxI
          replace ho := ho.ext hxI
          have ha := ha.add (show act_.tmps.getD 23 undef = .bool (decide ((4 : Int) ≤ (x.d.length : Int))) from hp 8 (by kernel_rfl) (by decide))
          have ha := ha.add (show act_.tmps.getD 27 undef = undef from hp 12 (by kernel_rfl) (by decide))
          exact h_gskip rfl rfl rfl (decide_eq_false g6) ha rfl rfl
        · intro Q act_ wI hxI ha hp
          have xw_wI : Ext w wI := Ext.tr xw_w4 hxI
          replace hb5 := hb5.ext hxI
          replace ho := ho.ext hxI
          have ha := ha.add (show act_.tmps.getD 23 undef = .bool (decide ((4 : Int) ≤ (x.d.length : Int))) from hp 8 (by kernel_rfl) (by decide))
          have ha := ha.add (show act_.tmps.getD 28 undef = undef from hp 13 (by kernel_rfl) (by decide))
          exact h_gskip rfl rfl rfl (decide_eq_false g6) ha rfl rfl
        · intro Q act_ wI hxI ha hp
          have xw_wI : Ext w wI := Ext.tr xw_w4 hxI
          replace hb5 := hb5.ext hxI
          replace ho := ho.ext hxI
          have ha := ha.add (show act_.tmps.getD 23 undef = .bool (decide ((4 : Int) ≤ (x.d.length : Int))) from hp 8 (by kernel_rfl) (by decide))
          exact h_gskip rfl rfl rfl (decide_eq_false g6) ha rfl rfl
        · intro Q act_ wI hxI ha hp
          have xw_wI : Ext w wI := Ext.tr xw_w4 hxI
          replace hb5 := hb5.ext hxI
          replace ho := ho.ext hxI
          have ha := ha.add (show act_.tmps.getD 23 undef = .bool (decide ((4 : Int) ≤ (x.d.length : Int))) from hp 8 (by kernel_rfl) (by decide))
          have ha := ha.add (show act_.tmps.getD 30 undef = undef from hp 15 (by kernel_rfl) (by decide))
          exact h_gskip rfl rfl rfl (decide_eq_false g6) ha rfl rfl
        · intro Q act_ wI hxI ha hp
          have xw_wI : Ext w wI := Ext.tr xw_w4 hxI
          replace hb5 := hb5.ext hxI
          replace ho := ho.ext hxI
          have ha := ha.add (show act_.tmps.getD 23 undef = .bool (decide ((4 : Int) ≤ (x.d.length : Int))) from hp 8 (by kernel_rfl) (by decide))
          have ha := ha.add (show act_.tmps.getD 31 undef = undef from hp 16 (by kernel_rfl) (by decide))
          exact h_gskip rfl rfl rfl (decide_eq_false g6) ha rfl rfl
        · intro Q act_ wI hxI ha hp
          have xw_wI : Ext w wI := Ext.tr xw_w4 hxI
          replace hb5 := hb5.ext hxI
          replace ho := ho.ext hxI
          have ha := ha.add (show act_.tmps.getD 23 undef = .bool (decide ((4 : Int) ≤ (x.d.length : Int))) from hp 8 (by kernel_rfl) (by decide))
          have ha := ha.add (show act_.tmps.getD 29 undef = undef from hp 14 (by kernel_rfl) (by decide))
          have ha := ha.add (show act_.tmps.getD 32 undef = undef from hp 17 (by kernel_rfl) (by decide))
          exact h_gskip rfl rfl rfl (decide_eq_false g6) ha rfl rfl
        · intro Q act_ wI hxI ha hp
          have xw_wI : Ext w wI := Ext.tr xw_w4 hxI
          replace hb5 := hb5.ext hxI
          replace ho := ho.ext hxI
          have ha := ha.add (show act_.tmps.getD 23 undef = .bool (decide ((4 : Int) ≤ (x.d.length : Int))) from hp 8 (by kernel_rfl) (by decide))
          exact h_gskip rfl rfl rfl (decide_eq_false g6) ha rfl rfl
        · intro Q act_ wI hxI ha hp
          have xw_wI : Ext w wI := Ext.tr xw_w4 hxI
          replace hb5 := hb5.ext hxI
          replace ho := ho.ext hxI
          have ha := ha.add (show act_.tmps.getD 23 undef = .bool (decide ((4 : Int) ≤ (x.d.length : Int))) from hp 8 (by kernel_rfl) (by decide))
          have ha := ha.add (show act_.tmps.getD 34 undef = undef from hp 19 (by kernel_rfl) (by decide))
          exact h_gskip rfl rfl rfl (decide_eq_false g6) ha rfl rfl
        · intro Q act_ wI hxI ha hp
          have xw_wI : Ext w wI := Ext.tr xw_w4 hxI
          replace hb5 := hb5.ext hxI
          replace ho := ho.ext hxI
          have ha := ha.add (show act_.tmps.getD 23 undef = .bool (decide ((4 : Int) ≤ (x.d.length : Int))) from hp 8 (by kernel_rfl) (by decide))
          have ha := ha.add (show act_.tmps.getD 35 undef = undef from hp 20 (by kernel_rfl) (by decide))
          exact h_gskip rfl rfl rfl (decide_eq_false g6) ha rfl rfl
        · intro Q act_ wI hxI ha hp
          have xw_wI : Ext w wI := Ext.tr xw_w4 hxI
          replace hb5 := hb5.ext hxI
          replace ho := ho.ext hxI
          have ha := ha.add (show act_.tmps.getD 23 undef = .bool (decide ((4 : Int) ≤ (x.d.length : Int))) from hp 8 (by kernel_rfl) (by decide))
          have ha := ha.add (show act_.tmps.getD 33 undef = undef from hp 18 (by kernel_rfl) (by decide))
          have ha := ha.add (show act_.tmps.getD 36 undef = undef from hp 21 (by kernel_rfl) (by decide))
          exact h_gskip rfl rfl rfl (decide_eq_false g6) ha rfl rfl
        · intro Q act_ wI hxI ha hp
          have xw_wI : Ext w wI := Ext.tr xw_w4 hxI
          replace hb5 := hb5.ext hxI
          replace ho := ho.ext hxI
          have ha := ha.add (show act_.tmps.getD 23 undef = .bool (decide ((4 : Int) ≤ (x.d.length : Int))) from hp 8 (by kernel_rfl) (by decide))
          have ha := ha.add (show act_.tmps.getD 25 undef = undef from hp 10 (by kernel_rfl) (by decide))
          have ha := ha.add (show act_.tmps.getD 37 undef = undef from hp 22 (by kernel_rfl) (by decide))
          exact h_gskip rfl rfl rfl (decide_eq_false g6) ha rfl rfl
        · intro Q act_ wI hxI ha hp
          have xw_wI : Ext w wI := Ext.tr xw_w4 hxI
          replace hb5 := hb5.ext hxI
          replace ho := ho.ext hxI
          have ha := ha.add (show act_.tmps.getD 23 undef = .bool (decide ((4 : Int) ≤ (x.d.length : Int))) from hp 8 (by kernel_rfl) (by decide))
          have ha := ha.add (show act_.tmps.getD 38 undef = undef from hp 23 (by kernel_rfl) (by decide))
          exact h_evA (v := .bool false) ha rfl (e_pickF rfl (decide_eq_false g6) rfl) rfl rfl (Ext.rfl' _)
        intro vs_ w10 hx_w10 hvs act_ ha hv
        have xw_w10 : Ext w w10 := Ext.tr xw_w4 hx_w10
        replace hb5 := hb5.ext hx_w10
        replace ho := ho.ext hx_w10
        have ha := ha.add ((hv 24 (by decide)).trans (show vs_ 24 = .bool false from hvs 24 (by decide)))
        refine st_go ha ?_
        clear ha hv hvs
        refine st_nil (nrm_k ?_)
        refine sc_no rfl rfl ?_
        refine sc_skip (nrm_k ?_)
        refine sc_reg ?_
        refine Go.XK.s (v := .int .i64 ((i : Int) + 1)) (e_add rfl rfl (by omega)) ?_
        refine Go.XK.s (v := .int .i64 ((i : Int) + 1)) (e_move rfl) ?_
        refine sl_nil ?_
        exact nrm_loopq rfl _ _ (by omega) ⟨i + 1, v_, xs, rfl, rfl, xw_w10, ho, ⟨⟨by omega, by first | omega | (rw [List.length_append]; simp; omega)⟩, by rw [refL_take hx, ← hxs]; first | (rw [refE_yes (by assumption) (by assumption) (by assumption)]) | (rw [refE_no1 (by assumption), List.append_nil]) | (rw [refE_no2 (by assumption), List.append_nil]) | (rw [refE_no3 (by assumption), List.append_nil])⟩⟩ (.cons rfl (.cons rfl (.cons rfl (.cons rfl (.nil)))))
    ·
      rcases Classical.em ((4 : Int) ≤ (x.d.length : Int)) with g11 | g11
      ·
        refine sc_free [(6, .string (B x.d)), (14, .string (B x.d)), (13, .pointer (some ⟨b5, 2, none⟩)), (5, .pointer (some ⟨b5, 0, none⟩)), (12, .agg #[.string (B x.g), .int .i64 x.v, .string (B x.d)]), (11, .pointer (some (el A 3 (i : Int) 0))), (10, .bool (decide ((i : Int) < (l.length : Int)))), (9, .int .i64 (i : Int)), (3, v_), (7, .slice A l.length c), (8, .int .i64 (l.length : Int))] [15, 16, 17, 18, 19, 20, 21, 22, 23, 24, 25, 26, 27, 28, 29, 30, 31, 32, 33, 34, 35, 36, 37, 38, 39] [(Is (.pointer (some ⟨b5, 0, none⟩))), (Is (.string (B x.g))), (Is (.bool (decide (x.g = [69, 82])))), (Is (.bool (decide (x.g = [69, 82])))), (Is undef), (Is undef), (Is undef), (Is (.bool false)), (Is (.bool false)), (Is undef), (Is undef), (Is undef), (Is undef), (Is undef), (Is undef), (Is undef), (Is undef), (Is undef), (Is undef), (Is undef), (Is undef), (Is undef), (Is undef), (Is undef), (Is (.bool false))] [] (by kernel_rfl) (Sub.refl _) (by kernel_rfl) (by kernel_rfl) (by kernel_rfl) rfl (by kernel_rfl) (ds_ext (Stays.spec (.is _ (.is _ (.is _ (.is _ (.is _ (.is _ (.is _ (.is _ (.is _ (.is _ (.is _ (.is _ (.is _ (.is _ (.is _ (.is _ (.is _ (.is _ (.is _ (.is _ (.is _ (.is _ (.is _ (.is _ (.is _ (.nil)))))))))))))))))))))))))))) ⟨?_, ?_, ?_, ?_, ?_, ?_, ?_, ?_, ?_, ?_, ?_, ?_, ?_, ?_, ?_, ?_, ?_, ?_, ?_, ?_, ?_, ?_, ?_, ?_, ?_, trivial⟩ ?_
        · intro Q act_ wI hxI ha hp
          have xw_wI : Ext w wI := Ext.tr xw_w4 hxI
          replace hb5 := hb5.ext hxI
          replace ho := ho.ext hxI
          exact h_evA (v := .pointer (some ⟨b5, 0, none⟩)) ha rfl (e_fieldB (sz := 1) Try.underlying41 rfl Try.sizeOf9 (by decide) rfl rfl) rfl rfl (Ext.rfl' _)
        · intro Q act_ wI hxI ha hp
          have xw_wI : Ext w wI := Ext.tr xw_w4 hxI
          replace hb5 := hb5.ext hxI
          replace ho := ho.ext hxI
          have ha := ha.add (show act_.tmps.getD 15 undef = .pointer (some ⟨b5, 0, none⟩) from hp 0 (by kernel_rfl) (by decide))
          exact h_evA (v := .string (B x.g)) ha rfl (e_load rfl (load1 Try.isAgg9 (hb5.cell (j := 0) rfl))) rfl rfl (Ext.rfl' _)
        · intro Q act_ wI hxI ha hp
          have xw_wI : Ext w wI := Ext.tr xw_w4 hxI
          replace hb5 := hb5.ext hxI
          replace ho := ho.ext hxI
          have ha := ha.add (show act_.tmps.getD 16 undef = .string (B x.g) from hp 1 (by kernel_rfl) (by decide))
          exact h_evA (v := .bool (decide (x.g = [69, 82]))) ha rfl (e_seq rfl rfl) rfl rfl (Ext.rfl' _)
        · intro Q act_ wI hxI ha hp
          have xw_wI : Ext w wI := Ext.tr xw_w4 hxI
          replace hb5 := hb5.ext hxI
          replace ho := ho.ext hxI
          have ha := ha.add (show act_.tmps.getD 17 undef = .bool (decide (x.g = [69, 82])) from hp 2 (by kernel_rfl) (by decide))
          exact h_evA (v := .bool (decide (x.g = [69, 82]))) ha rfl (e_move rfl) rfl rfl (Ext.rfl' _)
        · intro Q act_ wI hxI ha hp
          have xw_wI : Ext w wI := Ext.tr xw_w4 hxI
          replace hb5 := hb5.ext hxI
          replace ho := ho.ext hxI
          have ha := ha.add (show act_.tmps.getD 18 undef = .bool (decide (x.g = [69, 82])) from hp 3 (by kernel_rfl) (by decide))
          exact h_gskip rfl rfl rfl (decide_eq_false g5) ha rfl rfl
        · intro Q act_ wI hxI ha hp
          have xw_wI : Ext w wI := Ext.tr xw_w4 hxI
          replace hb5 := hb5.ext hxI
          replace ho := ho.ext hxI
          have ha := ha.add (show act_.tmps.getD 18 undef = .bool (decide (x.g = [69, 82])) from hp 3 (by kernel_rfl) (by decide))
          have ha := ha.add (show act_.tmps.getD 19 undef = undef from hp 4 (by kernel_rfl) (by decide))
          exact h_gskip rfl rfl rfl (decide_eq_false g5) ha rfl rfl
        · intro Q act_ wI hxI ha hp
          have xw_wI : Ext w wI := Ext.tr xw_w4 hxI
          replace hb5 := hb5.ext hxI
          replace ho := ho.ext hxI
          have ha := ha.add (show act_.tmps.getD 18 undef = .bool (decide (x.g = [69, 82])) from hp 3 (by kernel_rfl) (by decide))
          have ha := ha.add (show act_.tmps.getD 20 undef = undef from hp 5 (by kernel_rfl) (by decide))
          exact h_gskip rfl rfl rfl (decide_eq_false g5) ha rfl rfl
        · intro Q act_ wI hxI ha hp
          have xw_wI : Ext w wI := Ext.tr xw_w4 hxI
          replace hb5 := hb5.ext hxI
          replace ho := ho.ext hxI
          have ha := ha.add (show act_.tmps.getD 18 undef = .bool (decide (x.g = [69, 82])) from hp 3 (by kernel_rfl) (by decide))
          have ha := ha.add (show act_.tmps.getD 21 undef = undef from hp 6 (by kernel_rfl) (by decide))
          exact h_evA (v := .bool false) ha rfl (e_pickF rfl (decide_eq_false g5) rfl) rfl rfl (Ext.rfl' _)
        · intro Q act_ wI hxI ha hp
          have xw_wI : Ext w wI := Ext.tr xw_w4 hxI
          replace hb5 := hb5.ext hxI
          replace ho := ho.ext hxI
          have ha := ha.add (show act_.tmps.getD 22 undef = .bool false from hp 7 (by kernel_rfl) (by decide))
          exact h_evA (v := .bool false) ha rfl (e_move rfl) rfl rfl (Ext.rfl' _)
        · intro Q act_ wI hxI ha hp
          have xw_wI : Ext w wI := Ext.tr xw_w4 hxI
          replace hb5 := hb5.ext hxI
          replace ho := ho.ext hxI
          have ha := ha.add (show act_.tmps.getD 23 undef = .bool false from hp 8 (by kernel_rfl) (by decide))
          exact h_gskip rfl rfl rfl rfl ha rfl rfl
        · intro Q act_ wI hxI ha hp
          have xw_wI : Ext w wI := Ext.tr xw_w4 hxI
          replace hb5 := hb5.ext hxI
          replace ho := ho.ext hxI
          have ha := ha.add (show act_.tmps.getD 23 undef = .bool false from hp 8 (by kernel_rfl) (by decide))
          have ha := ha.add (show act_.tmps.getD 24 undef = undef from hp 9 (by kernel_rfl) (by decide))
          exact h_gskip rfl rfl rfl rfl ha rfl rfl
        · intro Q act_ wI hxI ha hp
          have xw_wI : Ext w wI := Ext.tr xw_w4 hxI
          replace hb5 := hb5.ext hxI
          replace ho := ho.ext hxI
          have ha := ha.add (show act_.tmps.getD 23 undef = .bool false from hp 8 (by kernel_rfl) (by decide))
          exact h_gskip rfl rfl rfl rfl ha rfl rfl
        · intro Q act_ wI hxI ha hp
          have xw_wI : Ext w wI := Ext.tr xw_w4 hxI
          replace hb5 := hb5.ext hxI
          replace ho := ho.ext hxI
          have ha := ha.add (show act_.tmps.getD 23 undef = .bool false from hp 8 (by kernel_rfl) (by decide))
          have ha := ha.add (show act_.tmps.getD 26 undef = undef from hp 11 (by kernel_rfl) (by decide))
          exact h_gskip rfl rfl rfl rfl ha rfl rfl
        · intro Q act_ wI hxI ha hp
          have xw_wI : Ext w wI := Ext.tr xw_w4 hxI
          replace hb5 := hb5.ext hxI
          replace ho := ho.ext hxI
          have ha := ha.add (show act_.tmps.getD 23 undef = .bool false from hp 8 (by kernel_rfl) (by decide))
          have ha := ha.add (show act_.tmps.getD 27 undef = undef from hp 12 (by kernel_rfl) (by decide))
          exact h_gskip rfl rfl rfl rfl ha rfl rfl
        · intro Q act_ wI hxI ha hp
          have xw_wI : Ext w wI := Ext.tr xw_w4 hxI
          replace hb5 := hb5.ext hxI
          replace ho := ho.ext hxI
          have ha := ha.add (show act_.tmps.getD 23 undef = .bool false from hp 8 (by kernel_rfl) (by decide))
          have ha := ha.add (show act_.tmps.getD 28 undef = undef from hp 13 (by kernel_rfl) (by decide))
          exact h_gskip rfl rfl rfl rfl ha rfl rfl
        · intro Q act_ wI hxI ha hp
          have xw_wI : Ext w wI := Ext.tr xw_w4 hxI
          replace hb5 := hb5.ext hxI
          replace ho := ho.ext hxI
          have ha := ha.add (show act_.tmps.getD 23 undef = .bool false from hp 8 (by kernel_rfl) (by decide))
          exact h_gskip rfl rfl rfl rfl ha rfl rfl
        · intro Q act_ wI hxI ha hp
          have xw_wI : Ext w wI := Ext.tr xw_w4 hxI
          replace hb5 := hb5.ext hxI
          replace ho := ho.ext hxI
          have ha := ha.add (show act_.tmps.getD 23 undef = .bool false from hp 8 (by kernel_rfl) (by decide))
          have ha := ha.add (show act_.tmps.getD 30 undef = undef from hp 15 (by kernel_rfl) (by decide))
          exact h_gskip rfl rfl rfl rfl ha rfl rfl
        · intro Q act_ wI hxI ha hp
          have xw_wI : Ext w wI := Ext.tr xw_w4 hxI
          replace hb5 := hb5.ext hxI
          replace ho := ho.ext hxI
          have ha := ha.add (show act_.tmps.getD 23 undef = .bool false from hp 8 (by kernel_rfl) (by decide))
          have ha := ha.add (show act_.tmps.getD 31 undef = undef from hp 16 (by kernel_rfl) (by decide))
          exact h_gskip rfl rfl rfl rfl ha rfl rfl
        · intro Q act_ wI hxI ha hp
          have xw_wI : Ext w wI := Ext.tr xw_w4 hxI
          replace hb5 := hb5.ext hxI
          replace ho := ho.ext hxI
          have ha := ha.add (show act_.tmps.getD 23 undef = .bool false from hp 8 (by kernel_rfl) (by decide))
          have ha := ha.add (show act_.tmps.getD 29 undef = undef from hp 14 (by kernel_rfl) (by decide))
          have ha := ha.add (show act_.tmps.getD 32 undef = undef from hp 17 (by kernel_rfl) (by decide))
          exact h_gskip rfl rfl rfl rfl ha rfl rfl
        · intro Q act_ wI hxI ha hp
          have xw_wI : Ext w wI := Ext.tr xw_w4 hxI
          replace hb5 := hb5.ext hxI
          replace ho := ho.ext hxI
          have ha := ha.add (show act_.tmps.getD 23 undef = .bool false from hp 8 (by kernel_rfl) (by decide))
          exact h_gskip rfl rfl rfl rfl ha rfl rfl
        · intro Q act_ wI hxI ha hp
          have xw_wI : Ext w wI := Ext.tr xw_w4 hxI
          replace hb5 := hb5.ext hxI
          replace ho := ho.ext hxI
          have ha := ha.add (show act_.tmps.getD 23 undef = .bool false from hp 8 (by kernel_rfl) (by decide))
          have ha := ha.add (show act_.tmps.getD 34 undef = undef from hp 19 (by kernel_rfl) (by decide))
          exact h_gskip rfl rfl rfl rfl ha rfl rfl
        · intro Q act_ wI hxI ha hp
          have xw_wI : Ext w wI := Ext.tr xw_w4 hxI
          replace hb5 := hb5.ext hxI
          replace ho := ho.ext hxI
          have ha := ha.add (show act_.tmps.getD 23 undef = .bool false from hp 8 (by kernel_rfl) (by decide))
          have ha := ha.add (show act_.tmps.getD 35 undef = undef from hp 20 (by kernel_rfl) (by decide))
          exact h_gskip rfl rfl rfl rfl ha rfl rfl
        · intro Q act_ wI hxI ha hp
          have xw_wI : Ext w wI := Ext.tr xw_w4 hxI
          replace hb5 := hb5.ext hxI
          replace ho := ho.ext hxI
          have ha := ha.add (show act_.tmps.getD 23 undef = .bool false from hp 8 (by kernel_rfl) (by decide))
          have ha := ha.add (show act_.tmps.getD 33 undef = undef from hp 18 (by kernel_rfl) (by decide))
          have ha := ha.add (show act_.tmps.getD 36 undef = undef from hp 21 (by kernel_rfl) (by decide))
          exact h_gskip rfl rfl rfl rfl ha rfl rfl
        · intro Q act_ wI hxI ha hp
          have xw_wI : Ext w wI := Ext.tr xw_w4 hxI
          replace hb5 := hb5.ext hxI
          replace ho := ho.ext hxI
          have ha := ha.add (show act_.tmps.getD 23 undef = .bool false from hp 8 (by kernel_rfl) (by decide))
          have ha := ha.add (show act_.tmps.getD 25 undef = undef from hp 10 (by kernel_rfl) (by decide))
          have ha := ha.add (show act_.tmps.getD 37 undef = undef from hp 22 (by kernel_rfl) (by decide))
          exact h_gskip rfl rfl rfl rfl ha rfl rfl
        · intro Q act_ wI hxI ha hp
          have xw_wI : Ext w wI := Ext.tr xw_w4 hxI
          replace hb5 := hb5.ext hxI
          replace ho := ho.ext hxI
          have ha := ha.add (show act_.tmps.getD 23 undef = .bool false from hp 8 (by kernel_rfl) (by decide))
          have ha := ha.add (show act_.tmps.getD 38 undef = undef from hp 23 (by kernel_rfl) (by decide))
          exact h_evA (v := .bool false) ha rfl (e_pickF rfl rfl rfl) rfl rfl (Ext.rfl' _)
        intro vs_ w12 hx_w12 hvs act_ ha hv
        have xw_w12 : Ext w w12 := Ext.tr xw_w4 hx_w12
        replace hb5 := hb5.ext hx_w12
        replace ho := ho.ext hx_w12
        have ha := ha.add ((hv 24 (by decide)).trans (show vs_ 24 = .bool false from hvs 24 (by decide)))
        refine st_go ha ?_
        clear ha hv hvs
        refine st_nil (nrm_k ?_)
        refine sc_no rfl rfl ?_
        refine sc_skip (nrm_k ?_)
        refine sc_reg ?_
        refine Go.XK.s (v := .int .i64 ((i : Int) + 1)) (e_add rfl rfl (by omega)) ?_
        refine Go.XK.s (v := .int .i64 ((i : Int) + 1)) (e_move rfl) ?_
        refine sl_nil ?_
        exact nrm_loopq rfl _ _ (by omega) ⟨i + 1, v_, xs, rfl, rfl, xw_w12, ho, ⟨⟨by omega, by first | omega | (rw [List.length_append]; simp; omega)⟩, by rw [refL_take hx, ← hxs]; first | (rw [refE_yes (by assumption) (by assumption) (by assumption)]) | (rw [refE_no1 (by assumption), List.append_nil]) | (rw [refE_no2 (by assumption), List.append_nil]) | (rw [refE_no3 (by assumption), List.append_nil])⟩⟩ (.cons rfl (.cons rfl (.cons rfl (.cons rfl (.nil)))))
      ·
        refine sc_free [(6, .string (B x.d)), (14, .string (B x.d)), (13, .pointer (some ⟨b5, 2, none⟩)), (5, .pointer (some ⟨b5, 0, none⟩)), (12, .agg #[.string (B x.g), .int .i64 x.v, .string (B x.d)]), (11, .pointer (some (el A 3 (i : Int) 0))), (10, .bool (decide ((i : Int) < (l.length : Int)))), (9, .int .i64 (i : Int)), (3, v_), (7, .slice A l.length c), (8, .int .i64 (l.length : Int))] [15, 16, 17, 18, 19, 20, 21, 22, 23, 24, 25, 26, 27, 28, 29, 30, 31, 32, 33, 34, 35, 36, 37, 38, 39] [(Is (.pointer (some ⟨b5, 0, none⟩))), (Is (.string (B x.g))), (Is (.bool (decide (x.g = [69, 82])))), (Is (.bool (decide (x.g = [69, 82])))), (Is undef), (Is undef), (Is undef), (Is (.bool false)), (Is (.bool false)), (Is undef), (Is undef), (Is undef), (Is undef), (Is undef), (Is undef), (Is undef), (Is undef), (Is undef), (Is undef), (Is undef), (Is undef), (Is undef), (Is undef), (Is undef), (Is (.bool false))] [] (by kernel_rfl) (Sub.refl _) (by kernel_rfl) (by kernel_rfl) (by kernel_rfl) rfl (by kernel_rfl) (ds_ext (Stays.spec (.is _ (.is _ (.is _ (.is _ (.is _ (.is _ (.is _ (.is _ (.is _ (.is _ (.is _ (.is _ (.is _ (.is _ (.is _ (.is _ (.is _ (.is _ (.is _ (.is _ (.is _ (.is _ (.is _ (.is _ (.is _ (.nil)))))))))))))))))))))))))))) ⟨?_, ?_, ?_, ?_, ?_, ?_, ?_, ?_, ?_, ?_, ?_, ?_, ?_, ?_, ?_, ?_, ?_, ?_, ?_, ?_, ?_, ?_, ?_, ?_, ?_, trivial⟩ ?_
        · intro Q act_ wI hxI ha hp
          have xw_wI : Ext w wI := Ext.tr xw_w4 hxI
          replace hb5 := hb5.ext hxI
          replace ho := ho.ext hxI
          exact h_evA (v := .pointer (some ⟨b5, 0, none⟩)) ha rfl (e_fieldB (sz := 1) Try.underlying41 rfl Try.sizeOf9 (by decide) rfl rfl) rfl rfl (Ext.rfl' _)
        · intro Q act_ wI hxI ha hp
          have xw_wI : Ext w wI := Ext.tr xw_w4 hxI
          replace hb5 := hb5.ext hxI
          replace ho := ho.ext hxI
          have ha := ha.add (show act_.tmps.getD 15 undef = .pointer (some ⟨b5, 0, none⟩) from hp 0 (by kernel_rfl) (by decide))
          exact h_evA (v := .string (B x.g)) ha rfl (e_load rfl (load1 Try.isAgg9 (hb5.cell (j := 0) rfl))) rfl rfl (Ext.rfl' _)
        · intro Q act_ wI hxI ha hp
          have xw_wI : Ext w wI := Ext.tr xw_w4 hxI
          replace hb5 := hb5.ext hxI
          replace ho := ho.ext hxI
          have ha := ha.add (show act_.tmps.getD 16 undef = .string (B x.g) from hp 1 (by kernel_rfl) (by decide))
          exact h_evA (v := .bool (decide (x.g = [69, 82]))) ha rfl (e_seq rfl rfl) rfl rfl (Ext.rfl' _)
        · intro Q act_ wI hxI ha hp
          have xw_wI : Ext w wI := Ext.tr xw_w4 hxI
          replace hb5 := hb5.ext hxI
          replace ho := ho.ext hxI
          have ha := ha.add (show act_.tmps.getD 17 undef = .bool (decide (x.g = [69, 82])) from hp 2 (by kernel_rfl) (by decide))
          exact h_evA (v := .bool (decide (x.g = [69, 82]))) ha rfl (e_move rfl) rfl rfl (Ext.rfl' _)
        · intro Q act_ wI hxI ha hp
          have xw_wI : Ext w wI := Ext.tr xw_w4 hxI
          replace hb5 := hb5.ext hxI
          replace ho := ho.ext hxI
          have ha := ha.add (show act_.tmps.getD 18 undef = .bool (decide (x.g = [69, 82])) from hp 3 (by kernel_rfl) (by decide))
          exact h_gskip rfl rfl rfl (decide_eq_false g5) ha rfl rfl
        · intro Q act_ wI hxI ha hp
          have xw_wI : Ext w wI := Ext.tr xw_w4 hxI
          replace hb5 := hb5.ext hxI
          replace ho := ho.ext hxI
          have ha := ha.add (show act_.tmps.getD 18 undef = .bool (decide (x.g = [69, 82])) from hp 3 (by kernel_rfl) (by decide))
          have ha := ha.add (show act_.tmps.getD 19 undef = undef from hp 4 (by kernel_rfl) (by decide))
          exact h_gskip rfl rfl rfl (decide_eq_false g5) ha rfl rfl
        · intro Q act_ wI hxI ha hp
          have xw_wI : Ext w wI := Ext.tr xw_w4 hxI
          replace hb5 := hb5.ext hxI
          replace ho := ho.ext hxI
          have ha := ha.add (show act_.tmps.getD 18 undef = .bool (decide (x.g = [69, 82])) from hp 3 (by kernel_rfl) (by decide))
          have ha := ha.add (show act_.tmps.getD 20 undef = undef from hp 5 (by kernel_rfl) (by decide))
          exact h_gskip rfl rfl rfl (decide_eq_false g5) ha rfl rfl
        · intro Q act_ wI hxI ha hp
          have xw_wI : Ext w wI := Ext.tr xw_w4 hxI
          replace hb5 := hb5.ext hxI
          replace ho := ho.ext hxI
          have ha := ha.add (show act_.tmps.getD 18 undef = .bool (decide (x.g = [69, 82])) from hp 3 (by kernel_rfl) (by decide))
          have ha := ha.add (show act_.tmps.getD 21 undef = undef from hp 6 (by kernel_rfl) (by decide))
          exact h_evA (v := .bool false) ha rfl (e_pickF rfl (decide_eq_false g5) rfl) rfl rfl (Ext.rfl' _)
        · intro Q act_ wI hxI ha hp
          have xw_wI : Ext w wI := Ext.tr xw_w4 hxI
          replace hb5 := hb5.ext hxI
          replace ho := ho.ext hxI
          have ha := ha.add (show act_.tmps.getD 22 undef = .bool false from hp 7 (by kernel_rfl) (by decide))
          exact h_evA (v := .bool false) ha rfl (e_move rfl) rfl rfl (Ext.rfl' _)
        · intro Q act_ wI hxI ha hp
          have xw_wI : Ext w wI := Ext.tr xw_w4 hxI
          replace hb5 := hb5.ext hxI
          replace ho := ho.ext hxI
          have ha := ha.add (show act_.tmps.getD 23 undef = .bool false from hp 8 (by kernel_rfl) (by decide))
          exact h_gskip rfl rfl rfl rfl ha rfl rfl
        · intro Q act_ wI hxI ha hp
          have xw_wI : Ext w wI := Ext.tr xw_w4 hxI
          replace hb5 := hb5.ext hxI
          replace ho := ho.ext hxI
          have ha := ha.add (show act_.tmps.getD 23 undef = .bool false from hp 8 (by kernel_rfl) (by decide))
          have ha := ha.add (show act_.tmps.getD 24 undef = undef from hp 9 (by kernel_rfl) (by decide))
          exact h_gskip rfl rfl rfl rfl ha rfl rfl
        · intro Q act_ wI hxI ha hp
          have xw_wI : Ext w wI := Ext.tr xw_w4 hxI
          replace hb5 := hb5.ext hxI
          replace ho := ho.ext hxI
          have ha := ha.add (show act_.tmps.getD 23 undef = .bool false from hp 8 (by kernel_rfl) (by decide))
          exact h_gskip rfl rfl rfl rfl ha rfl rfl
        · intro Q act_ wI hxI ha hp
          have xw_wI : Ext w wI := Ext.tr xw_w4 hxI
          replace hb5 := hb5.ext hxI
          replace ho := ho.ext hxI
          have ha := ha.add (show act_.tmps.getD 23 undef = .bool false from hp 8 (by kernel_rfl) (by decide))
          have ha := ha.add (show act_.tmps.getD 26 undef = undef from hp 11 (by kernel_rfl) (by decide))
          exact h_gskip rfl rfl rfl rfl ha rfl rfl
        · intro Q act_ wI hxI ha hp
          have xw_wI : Ext w wI := Ext.tr xw_w4 hxI
          replace hb5 := hb5.ext hxI
          replace ho := ho.ext hxI
          have ha := ha.add (show act_.tmps.getD 23 undef = .bool false from hp 8 (by kernel_rfl) (by decide))
          have ha := ha.add (show act_.tmps.getD 27 undef = undef from hp 12 (by kernel_rfl) (by decide))
          exact h_gskip rfl rfl rfl rfl ha rfl rfl
        · intro Q act_ wI hxI ha hp
          have xw_wI : Ext w wI := Ext.tr xw_w4 hxI
          replace hb5 := hb5.ext hxI
          replace ho := ho.ext hxI
          have ha := ha.add (show act_.tmps.getD 23 undef = .bool false from hp 8 (by kernel_rfl) (by decide))
          have ha := ha.add (show act_.tmps.getD 28 undef = undef from hp 13 (by kernel_rfl) (by decide))
          exact h_gskip rfl rfl rfl rfl ha rfl rfl
        · intro Q act_ wI hxI ha hp
          have xw_wI : Ext w wI := Ext.tr xw_w4 hxI
          replace hb5 := hb5.ext hxI
          replace ho := ho.ext hxI
          have ha := ha.add (show act_.tmps.getD 23 undef = .bool false from hp 8 (by kernel_rfl) (by decide))
          exact h_gskip rfl rfl rfl rfl ha rfl rfl
        · intro Q act_ wI hxI ha hp
          have xw_wI : Ext w wI := Ext.tr xw_w4 hxI
          replace hb5 := hb5.ext hxI
          replace ho := ho.ext hxI
          have ha := ha.add (show act_.tmps.getD 23 undef = .bool false from hp 8 (by kernel_rfl) (by decide))
          have ha := ha.add (show act_.tmps.getD 30 undef = undef from hp 15 (by kernel_rfl) (by decide))
          exact h_gskip rfl rfl rfl rfl ha rfl rfl
        · intro Q act_ wI hxI ha hp
          have xw_wI : Ext w wI := Ext.tr xw_w4 hxI
          replace hb5 := hb5.ext hxI
          replace ho := ho.ext hxI
          have ha := ha.add (show act_.tmps.getD 23 undef = .bool false from hp 8 (by kernel_rfl) (by decide))
          have ha := ha.add (show act_.tmps.getD 31 undef = undef from hp 16 (by kernel_rfl) (by decide))
          exact h_gskip rfl rfl rfl rfl ha rfl rfl
        · intro Q act_ wI hxI ha hp
          have xw_wI : Ext w wI := Ext.tr xw_w4 hxI
          replace hb5 := hb5.ext hxI
          replace ho := ho.ext hxI
          have ha := ha.add (show act_.tmps.getD 23 undef = .bool false from hp 8 (by kernel_rfl) (by decide))
          have ha := ha.add (show act_.tmps.getD 29 undef = undef from hp 14 (by kernel_rfl) (by decide))
          have ha := ha.add (show act_.tmps.getD 32 undef = undef from hp 17 (by kernel_rfl) (by decide))
          exact h_gskip rfl rfl rfl rfl ha rfl rfl
        · intro Q act_ wI hxI ha hp
          have xw_wI : Ext w wI := Ext.tr xw_w4 hxI
          replace hb5 := hb5.ext hxI
          replace ho := ho.ext hxI
          have ha := ha.add (show act_.tmps.getD 23 undef = .bool false from hp 8 (by kernel_rfl) (by decide))
          exact h_gskip rfl rfl rfl rfl ha rfl rfl
        · intro Q act_ wI hxI ha hp
          have xw_wI : Ext w wI := Ext.tr xw_w4 hxI
          replace hb5 := hb5.ext hxI
          replace ho := ho.ext hxI
          have ha := ha.add (show act_.tmps.getD 23 undef = .bool false from hp 8 (by kernel_rfl) (by decide))
          have ha := ha.add (show act_.tmps.getD 34 undef = undef from hp 19 (by kernel_rfl) (by decide))
          exact h_gskip rfl rfl rfl rfl ha rfl rfl
        · intro Q act_ wI hxI ha hp
          have xw_wI : Ext w wI := Ext.tr xw_w4 hxI
          replace hb5 := hb5.ext hxI
          replace ho := ho.ext hxI
          have ha := ha.add (show act_.tmps.getD 23 undef = .bool false from hp 8 (by kernel_rfl) (by decide))
          have ha := ha.add (show act_.tmps.getD 35 undef = undef from hp 20 (by kernel_rfl) (by decide))
          exact h_gskip rfl rfl rfl rfl ha rfl rfl
        · intro Q act_ wI hxI ha hp
          have xw_wI : Ext w wI := Ext.tr xw_w4 hxI
          replace hb5 := hb5.ext hxI
          replace ho := ho.ext hxI
          have ha := ha.add (show act_.tmps.getD 23 undef = .bool false from hp 8 (by kernel_rfl) (by decide))
          have ha := ha.add (show act_.tmps.getD 33 undef = undef from hp 18 (by kernel_rfl) (by decide))
          have ha := ha.add (show act_.tmps.getD 36 undef = undef from hp 21 (by kernel_rfl) (by decide))
          exact h_gskip rfl rfl rfl rfl ha rfl rfl
        · intro Q act_ wI hxI ha hp
          have xw_wI : Ext w wI := Ext.tr xw_w4 hxI
          replace hb5 := hb5.ext hxI
          replace ho := ho.ext hxI
          have ha := ha.add (show act_.tmps.getD 23 undef = .bool false from hp 8 (by kernel_rfl) (by decide))
          have ha := ha.add (show act_.tmps.getD 25 undef = undef from hp 10 (by kernel_rfl) (by decide))
          have ha := ha.add (show act_.tmps.getD 37 undef = undef from hp 22 (by kernel_rfl) (by decide))
          exact h_gskip rfl rfl rfl rfl ha rfl rfl
        · intro Q act_ wI hxI ha hp
          have xw_wI : Ext w wI := Ext.tr xw_w4 hxI
          replace hb5 := hb5.ext hxI
          replace ho := ho.ext hxI
          have ha := ha.add (show act_.tmps.getD 23 undef = .bool false from hp 8 (by kernel_rfl) (by decide))
          have ha := ha.add (show act_.tmps.getD 38 undef = undef from hp 23 (by kernel_rfl) (by decide))
          exact h_evA (v := .bool false) ha rfl (e_pickF rfl rfl rfl) rfl rfl (Ext.rfl' _)
        intro vs_ w13 hx_w13 hvs act_ ha hv
        have xw_w13 : Ext w w13 := Ext.tr xw_w4 hx_w13
        replace hb5 := hb5.ext hx_w13
        replace ho := ho.ext hx_w13
        have ha := ha.add ((hv 24 (by decide)).trans (show vs_ 24 = .bool false from hvs 24 (by decide)))
        refine st_go ha ?_
        clear ha hv hvs
        refine st_nil (nrm_k ?_)
        refine sc_no rfl rfl ?_
        refine sc_skip (nrm_k ?_)
        refine sc_reg ?_
        refine Go.XK.s (v := .int .i64 ((i : Int) + 1)) (e_add rfl rfl (by omega)) ?_
        refine Go.XK.s (v := .int .i64 ((i : Int) + 1)) (e_move rfl) ?_
        refine sl_nil ?_
        exact nrm_loopq rfl _ _ (by omega) ⟨i + 1, v_, xs, rfl, rfl, xw_w13, ho, ⟨⟨by omega, by first | omega | (rw [List.length_append]; simp; omega)⟩, by rw [refL_take hx, ← hxs]; first | (rw [refE_yes (by assumption) (by assumption) (by assumption)]) | (rw [refE_no1 (by assumption), List.append_nil]) | (rw [refE_no2 (by assumption), List.append_nil]) | (rw [refE_no3 (by assumption), List.append_nil])⟩⟩ (.cons rfl (.cons rfl (.cons rfl (.cons rfl (.nil)))))
  ·
    refine sc_exit rfl (nrm_k ?_)
    refine sc_seq ?_
    refine sc_reg ?_
    refine Go.XK.s (v := v_) (e_move rfl) ?_
    refine Go.XK.s (v := v_) (e_assign rfl) ?_
    refine sl_nil (nrm_k ?_)
    refine sc_retf rfl (ret1 Try.results31 (rvt rfl) ?_)
    rw [List.take_of_length_le (show l.length ≤ i by omega)] at hxs
    rw [hxs] at ho
    exact ⟨ho, xw_w1⟩

/-- masterdisc/masterdiscref24.References (function 32) -/
theorem rrefs_c (l : List En) (A : Option Addr) (c : Nat) (w : World) (hl : SlR w A c 3 encE l) (hdl : ∀ x ∈ l, x.d.length ≤ 1099511627776) (hll : l.length ≤ 1000000) : CallR Try.prog 32 [.slice A l.length c] w (fun v w' => Go.XK.Own w' w.heap.size 9 1 encS v (refL l) ∧ Ext w w') := by
  have hmx0 := hl.lenle
  simp only [maxLen] at hmx0
  refine callR_of (n := 55) [(0, .slice A l.length c)] Try.func32 rfl rfl (Nat.le_of_ble_eq_true rfl) rfl ?_
  refine sc_seq ?_
  refine sc_reg ?_
  refine Go.XK.s (v := .slice none 0 0) (e_assign rfl) ?_
  refine sl_nil (nrm_k ?_)
  refine sc_seq ?_
  refine sc_reg ?_
  refine Go.XK.s (v := .slice none 0 0) (e_assign rfl) ?_
  refine sl_nil (nrm_k ?_)
  refine sc_seq ?_
  refine sc_seq ?_
  refine sc_reg ?_
  refine Go.XK.s (v := .int .i64 0) (e_assign rfl) ?_
  refine sl_nil (nrm_k ?_)
  refine sc_block ?_
  refine sc_loop (fun m_ l_ w_ => ∃ (i : Nat) (v_ : Value) (xs : List (List UInt8)), m_ = l.length - i ∧ l_ = [(4, .int .i64 (i : Int)), (3, v_), (0, .slice A l.length c)] ∧ Ext w w_ ∧ Go.XK.Own w_ w.heap.size 9 1 encS v_ xs ∧ (i ≤ l.length ∧ xs.length ≤ i) ∧ xs = refL (l.take i)) _ [(4, .int .i64 (0 : Int)), (3, (.slice none 0 0)), (0, .slice A l.length c)] ⟨0, .slice none 0 0, [], rfl, rfl, (Ext.rfl' w), (Go.XK.Own.nil _ _ _ _ _), ⟨⟨by omega, by simp⟩, rfl⟩⟩ (.cons rfl (.cons rfl (.cons rfl (.nil)))) ?_
  rintro j2 _ w1 ⟨i, v_, xs, rfl, rfl, xw_w1, ho, ⟨⟨hi, hxl⟩, hxs⟩⟩
  refine sc_seq ?_
  refine sc_seq ?_
  refine sc_reg ?_
  refine Go.XK.s (v := .int .i64 (i : Int)) (e_move rfl) ?_
  refine Go.XK.s (v := .slice A l.length c) (e_move rfl) ?_
  refine Go.XK.s (v := .int .i64 (l.length : Int)) (e_len Try.underlying22 rfl) ?_
  refine Go.XK.s (v := .bool (decide ((i : Int) < (l.length : Int)))) (e_lt rfl rfl) ?_
  refine sl_nil (nrm_k ?_)
  refine sc_ifd rfl (fun c9 => ?_) (fun c9 => ?_)
  ·
    obtain ⟨x, hx⟩ : ∃ x, l[i]? = some x := ⟨_, List.getElem?_eq_getElem (by omega)⟩
    have hxd := hdl x (List.mem_of_getElem? hx)
    refine sc_skip (nrm_k ?_)
    refine sc_seq ?_
    refine sc_block ?_
    refine sc_seq ?_
    refine sc_reg ?_
    refine Go.XK.s (v := .slice A l.length c) (e_move rfl) ?_
    refine Go.XK.s (v := .int .i64 (i : Int)) (e_move rfl) ?_
    refine Go.XK.s (v := .pointer (some (el A 3 (i : Int) 0))) (e_idxEl (e := x) Try.underlying22 Try.sizeOf41 rfl rfl (hl.1.ext xw_w1) hx (by omega) rfl) ?_
    refine Go.XK.s (v := .pointer (some (el A 3 (i : Int) 2))) (e_fieldEl (fsz := 1) Try.underlying41 rfl Try.sizeOf9 (by decide) rfl rfl) ?_
    refine Go.XK.s (v := .string (B x.d)) (e_ldEl (xs := l) (enc := encE) (e := x) rfl (hl.1.ext xw_w1) hx Try.isAgg9 rfl) ?_
    refine Go.XK.s (v := .string (B x.d)) (e_assign rfl) ?_
    refine sl_nil (nrm_k ?_)
    refine sc_seq ?_
    rcases Classical.em (x.g = [69, 82]) with g3 | g3
    ·
      rcases Classical.em ((4 : Int) ≤ (x.d.length : Int)) with g4 | g4
      ·
        refine sc_free [(5, .string (B x.d)), (16, .string (B x.d)), (15, .pointer (some (el A 3 (i : Int) 2))), (14, .pointer (some (el A 3 (i : Int) 0))), (13, .int .i64 (i : Int)), (12, .slice A l.length c), (9, .bool (decide ((i : Int) < (l.length : Int)))), (8, .int .i64 (l.length : Int)), (7, .slice A l.length c), (6, .int .i64 (i : Int)), (4, .int .i64 (i : Int)), (3, v_), (0, .slice A l.length c)] [17, 18, 19, 20, 21, 22, 23, 24, 25, 26, 27, 28, 29, 30, 31, 32, 33, 34, 35, 36, 37, 38, 39, 40, 41, 42, 43, 44] [(Is (.slice A l.length c)), (Is (.int .i64 (i : Int))), (Is (.pointer (some (el A 3 (i : Int) 0)))), (Is (.pointer (some (el A 3 (i : Int) 0)))), (Is (.string (B x.g))), (Is (.bool (decide (x.g = [69, 82])))), (Is (.bool (decide (x.g = [69, 82])))), (Is (.string (B x.d))), (Is (.int .i64 (x.d.length : Int))), (Is (.bool (decide ((4 : Int) ≤ (x.d.length : Int))))), (Is (.bool (decide ((4 : Int) ≤ (x.d.length : Int))))), (Is (.bool (decide ((4 : Int) ≤ (x.d.length : Int))))), (Is (.string (B x.d))), (Is (.int .i64 (x.d.length : Int))), (Is (.string (B x.d))), (Is (.int .u8 ((at_ x.d 0).toNat))), (Is (.int .i64 ((at_ x.d 0).toNat : Int))), (Is (.int .i64 ((4 : Int) + ((at_ x.d 0).toNat : Int)))), (Is (.string (B x.d))), (Is (.int .u8 ((at_ x.d 1).toNat))), (Is (.int .i64 ((at_ x.d 1).toNat : Int))), (Is (.int .i64 (((4 : Int) + ((at_ x.d 0).toNat : Int)) + ((at_ x.d 1).toNat : Int)))), (Is (.string (B x.d))), (Is (.int .u8 ((at_ x.d 2).toNat))), (Is (.int .i64 ((at_ x.d 2).toNat : Int))), (Is (.int .i64 ((((4 : Int) + ((at_ x.d 0).toNat : Int)) + ((at_ x.d 1).toNat : Int)) + ((at_ x.d 2).toNat : Int)))), (Is (.bool (decide ((((4 : Int) + ((at_ x.d 0).toNat : Int)) + ((at_ x.d 1).toNat : Int)) + ((at_ x.d 2).toNat : Int) ≤ (x.d.length : Int))))), (Is (.bool (decide ((((4 : Int) + ((at_ x.d 0).toNat : Int)) + ((at_ x.d 1).toNat : Int)) + ((at_ x.d 2).toNat : Int) ≤ (x.d.length : Int)))))] [] (by kernel_rfl) (Sub.refl _) (by kernel_rfl) (by kernel_rfl) (by kernel_rfl) rfl (by kernel_rfl) (ds_ext (Stays.spec (.is _ (.is _ (.is _ (.is _ (.is _ (.is _ (.is _ (.is _ (.is _ (.is _ (.is _ (.is _ (.is _ (.is _ (.is _ (.is _ (.is _ (.is _ (.is _ (.is _ (.is _ (.is _ (.is _ (.is _ (.is _ (.is _ (.is _ (.is _ (.nil))))))))))))))))))))))))))))))) ⟨?_, ?_, ?_, ?_, ?_, ?_, ?_, ?_, ?_, ?_, ?_, ?_, ?_, ?_, ?_, ?_, ?_, ?_, ?_, ?_, ?_, ?_, ?_, ?_, ?_, ?_, ?_, ?_, trivial⟩ ?_
        · intro Q act_ wI hxI ha hp
          have xw_wI : Ext w wI := Ext.tr xw_w1 hxI
          replace ho := ho.ext hxI
          exact h_evA (v := .slice A l.length c) ha rfl (e_move rfl) rfl rfl (Ext.rfl' _)
        · intro Q act_ wI hxI ha hp
          have xw_wI : Ext w wI := Ext.tr xw_w1 hxI
          replace ho := ho.ext hxI
          exact h_evA (v := .int .i64 (i : Int)) ha rfl (e_move rfl) rfl rfl (Ext.rfl' _)
        · intro Q act_ wI hxI ha hp
          have xw_wI : Ext w wI := Ext.tr xw_w1 hxI
          replace ho := ho.ext hxI
          have ha := ha.add (show act_.tmps.getD 17 undef = .slice A l.length c from hp 0 (by kernel_rfl) (by decide))
          have ha := ha.add (show act_.tmps.getD 18 undef = .int .i64 (i : Int) from hp 1 (by kernel_rfl) (by decide))
          exact h_evA (v := .pointer (some (el A 3 (i : Int) 0))) ha rfl (e_idxEl (e := x) Try.underlying22 Try.sizeOf41 rfl rfl (hl.1.ext xw_wI) hx (by omega) rfl) rfl rfl (Ext.rfl' _)
        · intro Q act_ wI hxI ha hp
          have xw_wI : Ext w wI := Ext.tr xw_w1 hxI
          replace ho := ho.ext hxI
          have ha := ha.add (show act_.tmps.getD 19 undef = .pointer (some (el A 3 (i : Int) 0)) from hp 2 (by kernel_rfl) (by decide))
          exact h_evA (v := .pointer (some (el A 3 (i : Int) 0))) ha rfl (e_fieldEl (fsz := 1) Try.underlying41 rfl Try.sizeOf9 (by decide) rfl rfl) rfl rfl (Ext.rfl' _)
        · intro Q act_ wI hxI ha hp
          have xw_wI : Ext w wI := Ext.tr xw_w1 hxI
          replace ho := ho.ext hxI
          have ha := ha.add (show act_.tmps.getD 20 undef = .pointer (some (el A 3 (i : Int) 0)) from hp 3 (by kernel_rfl) (by decide))
          exact h_evA (v := .string (B x.g)) ha rfl (e_ldEl (xs := l) (enc := encE) (e := x) rfl (hl.1.ext xw_wI) hx Try.isAgg9 rfl) rfl rfl (Ext.rfl' _)
        · intro Q act_ wI hxI ha hp
          have xw_wI : Ext w wI := Ext.tr xw_w1 hxI
          replace ho := ho.ext hxI
          have ha := ha.add (show act_.tmps.getD 21 undef = .string (B x.g) from hp 4 (by kernel_rfl) (by decide))
          exact h_evA (v := .bool (decide (x.g = [69, 82]))) ha rfl (e_seq rfl rfl) rfl rfl (Ext.rfl' _)
        · intro Q act_ wI hxI ha hp
          have xw_wI : Ext w wI := Ext.tr xw_w1 hxI
          replace ho := ho.ext hxI
          have ha := ha.add (show act_.tmps.getD 22 undef = .bool (decide (x.g = [69, 82])) from hp 5 (by kernel_rfl) (by decide))
          exact h_evA (v := .bool (decide (x.g = [69, 82]))) ha rfl (e_move rfl) rfl rfl (Ext.rfl' _)
        · intro Q act_ wI hxI ha hp
          have xw_wI : Ext w wI := Ext.tr xw_w1 hxI
          replace ho := ho.ext hxI
          have ha := ha.add (show act_.tmps.getD 23 undef = .bool (decide (x.g = [69, 82])) from hp 6 (by kernel_rfl) (by decide))
          exact h_gevA (v := .string (B x.d)) ha rfl rfl rfl (decide_eq_true g3) (e_move rfl) rfl rfl (Ext.rfl' _)
        · intro Q act_ wI hxI ha hp
          have xw_wI : Ext w wI := Ext.tr xw_w1 hxI
          replace ho := ho.ext hxI
          have ha := ha.add (show act_.tmps.getD 23 undef = .bool (decide (x.g = [69, 82])) from hp 6 (by kernel_rfl) (by decide))
          have ha := ha.add (show act_.tmps.getD 24 undef = .string (B x.d) from hp 7 (by kernel_rfl) (by decide))
          exact h_gevA (v := .int .i64 (x.d.length : Int)) ha rfl rfl rfl (decide_eq_true g3) (e_slen Try.underlying9 rfl) rfl rfl (Ext.rfl' _)
        · intro Q act_ wI hxI ha hp
          have xw_wI : Ext w wI := Ext.tr xw_w1 hxI
          replace ho := ho.ext hxI
          have ha := ha.add (show act_.tmps.getD 23 undef = .bool (decide (x.g = [69, 82])) from hp 6 (by kernel_rfl) (by decide))
          have ha := ha.add (show act_.tmps.getD 25 undef = .int .i64 (x.d.length : Int) from hp 8 (by kernel_rfl) (by decide))
          exact h_gevA (v := .bool (decide ((4 : Int) ≤ (x.d.length : Int)))) ha rfl rfl rfl (decide_eq_true g3) (e_ge rfl rfl) rfl rfl (Ext.rfl' _)
        · intro Q act_ wI hxI ha hp
          have xw_wI : Ext w wI := Ext.tr xw_w1 hxI
          replace ho := ho.ext hxI
          have ha := ha.add (show act_.tmps.getD 23 undef = .bool (decide (x.g = [69, 82])) from hp 6 (by kernel_rfl) (by decide))
          have ha := ha.add (show act_.tmps.getD 26 undef = .bool (decide ((4 : Int) ≤ (x.d.length : Int))) from hp 9 (by kernel_rfl) (by decide))
          exact h_evA (v := .bool (decide ((4 : Int) ≤ (x.d.length : Int)))) ha rfl (e_pickT rfl (decide_eq_true g3) rfl) rfl rfl (Ext.rfl' _)
        · intro Q act_ wI hxI ha hp
          have xw_wI : Ext w wI := Ext.tr xw_w1 hxI
          replace ho := ho.ext hxI
          have ha := ha.add (show act_.tmps.getD 27 undef = .bool (decide ((4 : Int) ≤ (x.d.length : Int))) from hp 10 (by kernel_rfl) (by decide))
          exact h_evA (v := .bool (decide ((4 : Int) ≤ (x.d.length : Int)))) ha rfl (e_move rfl) rfl rfl (Ext.rfl' _)
        · intro Q act_ wI hxI ha hp
          have xw_wI : Ext w wI := Ext.tr xw_w1 hxI
          replace ho := ho.ext hxI
          have ha := ha.add (show act_.tmps.getD 28 undef = .bool (decide ((4 : Int) ≤ (x.d.length : Int))) from hp 11 (by kernel_rfl) (by decide))
          exact h_gevA (v := .string (B x.d)) ha rfl rfl rfl (decide_eq_true g4) (e_move rfl) rfl rfl (Ext.rfl' _)
        · intro Q act_ wI hxI ha hp
          have xw_wI : Ext w wI := Ext.tr xw_w1 hxI
          replace ho := ho.ext hxI
          have ha := ha.add (show act_.tmps.getD 28 undef = .bool (decide ((4 : Int) ≤ (x.d.length : Int))) from hp 11 (by kernel_rfl) (by decide))
          have ha := ha.add (show act_.tmps.getD 29 undef = .string (B x.d) from hp 12 (by kernel_rfl) (by decide))
          exact h_gevA (v := .int .i64 (x.d.length : Int)) ha rfl rfl rfl (decide_eq_true g4) (e_slen Try.underlying9 rfl) rfl rfl (Ext.rfl' _)
        · intro Q act_ wI hxI ha hp
          have xw_wI : Ext w wI := Ext.tr xw_w1 hxI
          replace ho := ho.ext hxI
          have ha := ha.add (show act_.tmps.getD 28 undef = .bool (decide ((4 : Int) ≤ (x.d.length : Int))) from hp 11 (by kernel_rfl) (by decide))
          exact h_gevA (v := .string (B x.d)) ha rfl rfl rfl (decide_eq_true g4) (e_move rfl) rfl rfl (Ext.rfl' _)
        · intro Q act_ wI hxI ha hp
          have xw_wI : Ext w wI := Ext.tr xw_w1 hxI
          replace ho := ho.ext hxI
          have ha := ha.add (show act_.tmps.getD 28 undef = .bool (decide ((4 : Int) ≤ (x.d.length : Int))) from hp 11 (by kernel_rfl) (by decide))
          have ha := ha.add (show act_.tmps.getD 31 undef = .string (B x.d) from hp 14 (by kernel_rfl) (by decide))
          exact h_gevA (v := .int .u8 ((at_ x.d 0).toNat)) ha rfl rfl rfl (decide_eq_true g4) (e_sat Try.underlying9 rfl rfl (by decide) (by omega)) rfl rfl (Ext.rfl' _)
        · intro Q act_ wI hxI ha hp
          have xw_wI : Ext w wI := Ext.tr xw_w1 hxI
          replace ho := ho.ext hxI
          have ha := ha.add (show act_.tmps.getD 28 undef = .bool (decide ((4 : Int) ≤ (x.d.length : Int))) from hp 11 (by kernel_rfl) (by decide))
          have ha := ha.add (show act_.tmps.getD 32 undef = .int .u8 ((at_ x.d 0).toNat) from hp 15 (by kernel_rfl) (by decide))
          exact h_gevA (v := .int .i64 ((at_ x.d 0).toNat : Int)) ha rfl rfl rfl (decide_eq_true g4) (e_u8int (c := at_ x.d 0) Try.underlying5 Try.underlying3 (by decide) rfl) rfl rfl (Ext.rfl' _)
        · intro Q act_ wI hxI ha hp
          have xw_wI : Ext w wI := Ext.tr xw_w1 hxI
          replace ho := ho.ext hxI
          have ha := ha.add (show act_.tmps.getD 28 undef = .bool (decide ((4 : Int) ≤ (x.d.length : Int))) from hp 11 (by kernel_rfl) (by decide))
          have ha := ha.add (show act_.tmps.getD 33 undef = .int .i64 ((at_ x.d 0).toNat : Int) from hp 16 (by kernel_rfl) (by decide))
          exact h_gevA (v := .int .i64 ((4 : Int) + ((at_ x.d 0).toNat : Int))) ha rfl rfl rfl (decide_eq_true g4) (e_add rfl rfl (by have h0_ := u8_lt (at_ x.d 0); have h1_ := u8_lt (at_ x.d 1); have h2_ := u8_lt (at_ x.d 2); omega)) rfl rfl (Ext.rfl' _)
        · intro Q act_ wI hxI ha hp
          have xw_wI : Ext w wI := Ext.tr xw_w1 hxI
          replace ho := ho.ext hxI
          have ha := ha.add (show act_.tmps.getD 28 undef = .bool (decide ((4 : Int) ≤ (x.d.length : Int))) from hp 11 (by kernel_rfl) (by decide))
          exact h_gevA (v := .string (B x.d)) ha rfl rfl rfl (decide_eq_true g4) (e_move rfl) rfl rfl (Ext.rfl' _)
        · intro Q act_ wI hxI ha hp
          have xw_wI : Ext w wI := Ext.tr xw_w1 hxI
          replace ho := ho.ext hxI
          have ha := ha.add (show act_.tmps.getD 28 undef = .bool (decide ((4 : Int) ≤ (x.d.length : Int))) from hp 11 (by kernel_rfl) (by decide))
          have ha := ha.add (show act_.tmps.getD 35 undef = .string (B x.d) from hp 18 (by kernel_rfl) (by decide))
          exact h_gevA (v := .int .u8 ((at_ x.d 1).toNat)) ha rfl rfl rfl (decide_eq_true g4) (e_sat Try.underlying9 rfl rfl (by decide) (by omega)) rfl rfl (Ext.rfl' _)
        · intro Q act_ wI hxI ha hp
          have xw_wI : Ext w wI := Ext.tr xw_w1 hxI
          replace ho := ho.ext hxI
          have ha := ha.add (show act_.tmps.getD 28 undef = .bool (decide ((4 : Int) ≤ (x.d.length : Int))) from hp 11 (by kernel_rfl) (by decide))
          have ha := ha.add (show act_.tmps.getD 36 undef = .int .u8 ((at_ x.d 1).toNat) from hp 19 (by kernel_rfl) (by decide))
          exact h_gevA (v := .int .i64 ((at_ x.d 1).toNat : Int)) ha rfl rfl rfl (decide_eq_true g4) (e_u8int (c := at_ x.d 1) Try.underlying5 Try.underlying3 (by decide) rfl) rfl rfl (Ext.rfl' _)
        · intro Q act_ wI hxI ha hp
          have xw_wI : Ext w wI := Ext.tr xw_w1 hxI
          replace ho := ho.ext hxI
          have ha := ha.add (show act_.tmps.getD 28 undef = .bool (decide ((4 : Int) ≤ (x.d.length : Int))) from hp 11 (by kernel_rfl) (by decide))
          have ha := ha.add (show act_.tmps.getD 34 undef = .int .i64 ((4 : Int) + ((at_ x.d 0).toNat : Int)) from hp 17 (by kernel_rfl) (by decide))
          have ha := ha.add (show act_.tmps.getD 37 undef = .int .i64 ((at_ x.d 1).toNat : Int) from hp 20 (by kernel_rfl) (by decide))
          exact h_gevA (v := .int .i64 (((4 : Int) + ((at_ x.d 0).toNat : Int)) + ((at_ x.d 1).toNat : Int))) ha rfl rfl rfl (decide_eq_true g4) (e_add rfl rfl (by have h0_ := u8_lt (at_ x.d 0); have h1_ := u8_lt (at_ x.d 1); have h2_ := u8_lt (at_ x.d 2); omega)) rfl rfl (Ext.rfl' _)
        · intro Q act_ wI hxI ha hp
          have xw_wI : Ext w wI := Ext.tr xw_w1 hxI
          replace ho := ho.ext hxI
          have ha := ha.add (show act_.tmps.getD 28 undef = .bool (decide ((4 : Int) ≤ (x.d.length : Int))) from hp 11 (by kernel_rfl) (by decide))
          exact h_gevA (v := .string (B x.d)) ha rfl rfl rfl (decide_eq_true g4) (e_move rfl) rfl rfl (Ext.rfl' _)
        · intro Q act_ wI hxI ha hp
          have xw_wI : Ext w wI := Ext.tr xw_w1 hxI
          replace ho := ho.ext hxI
          have ha := ha.add (show act_.tmps.getD 28 undef = .bool (decide ((4 : Int) ≤ (x.d.length : Int))) from hp 11 (by kernel_rfl) (by decide))
          have ha := ha.add (show act_.tmps.getD 39 undef = .string (B x.d) from hp 22 (by kernel_rfl) (by decide))
          exact h_gevA (v := .int .u8 ((at_ x.d 2).toNat)) ha rfl rfl rfl (decide_eq_true g4) (e_sat Try.underlying9 rfl rfl (by decide) (by omega)) rfl rfl (Ext.rfl' _)
        · intro Q act_ wI hxI ha hp
          have xw_wI : Ext w wI := Ext.tr xw_w1 hxI
          replace ho := ho.ext hxI
          have ha := ha.add (show act_.tmps.getD 28 undef = .bool (decide ((4 : Int) ≤ (x.d.length : Int))) from hp 11 (by kernel_rfl) (by decide))
          have ha := ha.add (show act_.tmps.getD 40 undef = .int .u8 ((at_ x.d 2).toNat) from hp 23 (by kernel_rfl) (by decide))
          exact h_gevA (v := .int .i64 ((at_ x.d 2).toNat : Int)) ha rfl rfl rfl (decide_eq_true g4) (e_u8int (c := at_ x.d 2) Try.underlying5 Try.underlying3 (by decide) rfl) rfl rfl (Ext.rfl' _)
        · intro Q act_ wI hxI ha hp
          have xw_wI : Ext w wI := Ext.tr xw_w1 hxI
          replace ho := ho.ext hxI
          have ha := ha.add (show act_.tmps.getD 28 undef = .bool (decide ((4 : Int) ≤ (x.d.length : Int))) from hp 11 (by kernel_rfl) (by decide))
          have ha := ha.add (show act_.tmps.getD 38 undef = .int .i64 (((4 : Int) + ((at_ x.d 0).toNat : Int)) + ((at_ x.d 1).toNat : Int)) from hp 21 (by kernel_rfl) (by decide))
          have ha := ha.add (show act_.tmps.getD 41 undef = .int .i64 ((at_ x.d 2).toNat : Int) from hp 24 (by kernel_rfl) (by decide))
          exact h_gevA (v := .int .i64 ((((4 : Int) + ((at_ x.d 0).toNat : Int)) + ((at_ x.d 1).toNat : Int)) + ((at_ x.d 2).toNat : Int))) ha rfl rfl rfl (decide_eq_true g4) (e_add rfl rfl (by have h0_ := u8_lt (at_ x.d 0); have h1_ := u8_lt (at_ x.d 1); have h2_ := u8_lt (at_ x.d 2); omega)) rfl rfl (Ext.rfl' _)
        · intro Q act_ wI hxI ha hp
          have xw_wI : Ext w wI := Ext.tr xw_w1 hxI
          replace ho := ho.ext hxI
          have ha := ha.add (show act_.tmps.getD 28 undef = .bool (decide ((4 : Int) ≤ (x.d.length : Int))) from hp 11 (by kernel_rfl) (by decide))
          have ha := ha.add (show act_.tmps.getD 30 undef = .int .i64 (x.d.length : Int) from hp 13 (by kernel_rfl) (by decide))
          have ha := ha.add (show act_.tmps.getD 42 undef = .int .i64 ((((4 : Int) + ((at_ x.d 0).toNat : Int)) + ((at_ x.d 1).toNat : Int)) + ((at_ x.d 2).toNat : Int)) from hp 25 (by kernel_rfl) (by decide))
          exact h_gevA (v := .bool (decide ((((4 : Int) + ((at_ x.d 0).toNat : Int)) + ((at_ x.d 1).toNat : Int)) + ((at_ x.d 2).toNat : Int) ≤ (x.d.length : Int)))) ha rfl rfl rfl (decide_eq_true g4) (e_ge rfl rfl) rfl rfl (Ext.rfl' _)
        · intro Q act_ wI hxI ha hp
          have xw_wI : Ext w wI := Ext.tr xw_w1 hxI
          replace ho := ho.ext hxI
          have ha := ha.add (show act_.tmps.getD 28 undef = .bool (decide ((4 : Int) ≤ (x.d.length : Int))) from hp 11 (by kernel_rfl) (by decide))
          have ha := ha.add (show act_.tmps.getD 43 undef = .bool (decide ((((4 : Int) + ((at_ x.d 0).toNat : Int)) + ((at_ x.d 1).toNat : Int)) + ((at_ x.d 2).toNat : Int) ≤ (x.d.length : Int))) from hp 26 (by kernel_rfl) (by decide))
          exact h_evA (v := .bool (decide ((((4 : Int) + ((at_ x.d 0).toNat : Int)) + ((at_ x.d 1).toNat : Int)) + ((at_ x.d 2).toNat : Int) ≤ (x.d.length : Int)))) ha rfl (e_pickT rfl (decide_eq_true g4) rfl) rfl rfl (Ext.rfl' _)
        intro vs_ w5 hx_w5 hvs act_ ha hv
        have xw_w5 : Ext w w5 := Ext.tr xw_w1 hx_w5
        replace ho := ho.ext hx_w5
        have ha := ha.add ((hv 27 (by decide)).trans (show vs_ 27 = .bool (decide ((((4 : Int) + ((at_ x.d 0).toNat : Int)) + ((at_ x.d 1).toNat : Int)) + ((at_ x.d 2).toNat : Int) ≤ (x.d.length : Int))) from hvs 27 (by decide)))
        refine st_go ha ?_
        clear ha hv hvs
        refine st_nil (nrm_k ?_)
        refine sc_ifd rfl (fun c44 => ?_) (fun c44 => ?_)
        ·
          refine sc_reg ?_
          refine Go.XK.s (v := v_) (e_move rfl) ?_
          refine Go.XK.s (v := .string (B x.d)) (e_move rfl) ?_
          refine Go.XK.s (v := .string (B x.d)) (e_move rfl) ?_
          refine Go.XK.s (v := .int .u8 ((at_ x.d 0).toNat)) (e_sat Try.underlying9 rfl rfl (by decide) (by omega)) ?_
          refine Go.XK.s (v := .int .i64 ((at_ x.d 0).toNat : Int)) (e_u8int (c := at_ x.d 0) Try.underlying5 Try.underlying3 (by decide) rfl) ?_
          refine Go.XK.s (v := .int .i64 ((4 : Int) + ((at_ x.d 0).toNat : Int))) (e_add rfl rfl (by have h0_ := u8_lt (at_ x.d 0); have h1_ := u8_lt (at_ x.d 1); have h2_ := u8_lt (at_ x.d 2); omega)) ?_
          refine Go.XK.s (v := .string (B ((x.d.take (4 + (at_ x.d 0).toNat)).drop 4))) (e_sslice (lo := 4) (hi := (4 + (at_ x.d 0).toNat)) Try.underlying9 rfl (Bd.at_ rfl rfl) (Bd.at_ rfl (by omega)) (by omega) (by omega)) ?_
          refine s_bslice (vs := [(0, .string (B ((x.d.take (4 + (at_ x.d 0).toNat)).drop 4)))]) (e := 9) rfl [.string (B ((x.d.take (4 + (at_ x.d 0).toNat)).drop 4))] (by kernel_rfl) ?_
          intro b52 w6 hb52 he52 hs52 hx52
          have no_b52_ho : Value.ownBlock v_ ≠ some b52 := fun h_ => by have h2_ := (Go.XK.Own.lt ho _ h_).2; omega
          have ge_b52 : w.heap.size ≤ b52 := by have h_ := (Below.size xw_w5); omega
          have xw_w6 : Ext w w6 := Ext.tr xw_w5 hx52
          replace ho := ho.ext hx52
          refine s_appendLit2 (w0 := w) (z := .string (B [])) (kk := 1) (bytes := 16) rfl rfl Try.underlying48 (by kernel_rfl) rfl (by decide) (fun _ => rfl) one_encS [(x.d.take (4 + (at_ x.d 0).toNat)).drop 4] ho xw_w6 hb52 rfl rfl (by first | omega | (simp only [maxLen]; omega)) (by first | omega | (simp only [maxLen]; omega)) ?_
          intro v53 w7 ho53 xw_w7 hg53 hat53
          replace hb52 := hb52.grown hg53 no_b52_ho
          refine Go.XK.s (v := v53) (e_assign rfl) ?_
          refine sl_nil (nrm_k ?_)
          refine sc_reg ?_
          refine Go.XK.s (v := .int .i64 (i : Int)) (e_move rfl) ?_
          refine Go.XK.s (v := .int .i64 ((i : Int) + 1)) (e_add rfl rfl (by omega)) ?_
          refine Go.XK.s (v := .int .i64 ((i : Int) + 1)) (e_assign rfl) ?_
          refine sl_nil ?_
          exact nrm_loopq rfl _ _ (by omega) ⟨i + 1, v53, xs ++ [(x.d.take (4 + (at_ x.d 0).toNat)).drop 4], rfl, rfl, xw_w7, ho53, ⟨⟨by omega, by first | omega | (rw [List.length_append]; simp; omega)⟩, by rw [refL_take hx, ← hxs]; first | (rw [refE_yes (by assumption) (by assumption) (by assumption)]) | (rw [refE_no1 (by assumption), List.append_nil]) | (rw [refE_no2 (by assumption), List.append_nil]) | (rw [refE_no3 (by assumption), List.append_nil])⟩⟩ (.cons rfl (.cons rfl (.cons rfl (.nil))))
        ·
          refine sc_skip (nrm_k ?_)
          refine sc_reg ?_
          refine Go.XK.s (v := .int .i64 (i : Int)) (e_move rfl) ?_
          refine Go.XK.s (v := .int .i64 ((i : Int) + 1)) (e_add rfl rfl (by omega)) ?_
          refine Go.XK.s (v := .int .i64 ((i : Int) + 1)) (e_assign rfl) ?_
          refine sl_nil ?_
          exact nrm_loopq rfl _ _ (by omega) ⟨i + 1, v_, xs, rfl, rfl, xw_w5, ho, ⟨⟨by omega, by first | omega | (rw [List.length_append]; simp; omega)⟩, by rw [refL_take hx, ← hxs]; first | (rw [refE_yes (by assumption) (by assumption) (by assumption)]) | (rw [refE_no1 (by assumption), List.append_nil]) | (rw [refE_no2 (by assumption), List.append_nil]) | (rw [refE_no3 (by assumption), List.append_nil])⟩⟩ (.cons rfl (.cons rfl (.cons rfl (.nil))))
      ·
        refine sc_free [(5, .string (B x.d)), (16, .string (B x.d)), (15, .pointer (some (el A 3 (i : Int) 2))), (14, .pointer (some (el A 3 (i : Int) 0))), (13, .int .i64 (i : Int)), (12, .slice A l.length c), (9, .bool (decide ((i : Int) < (l.length : Int)))), (8, .int .i64 (l.length : Int)), (7, .slice A l.length c), (6, .int .i64 (i : Int)), (4, .int .i64 (i : Int)), (3, v_), (0, .slice A l.length c)] [17, 18, 19, 20, 21, 22, 23, 24, 25, 26, 27, 28, 29, 30, 31, 32, 33, 34, 35, 36, 37, 38, 39, 40, 41, 42, 43, 44] [(Is (.slice A l.length c)), (Is (.int .i64 (i : Int))), (Is (.pointer (some (el A 3 (i : Int) 0)))), (Is (.pointer (some (el A 3 (i : Int) 0)))), (Is (.string (B x.g))), (Is (.bool (decide (x.g = [69, 82])))), (Is (.bool (decide (x.g = [69, 82])))), (Is (.string (B x.d))), (Is (.int .i64 (x.d.length : Int))), (Is (.bool (decide ((4 : Int) ≤ (x.d.length : Int))))), (Is (.bool (decide ((4 : Int) ≤ (x.d.length : Int))))), (Is (.bool (decide ((4 : Int) ≤ (x.d.length : Int))))), (Is undef), (Is undef), (Is undef), (Is undef), (Is undef), (Is undef), (Is undef), (Is undef), (Is undef), (Is undef), (Is undef), (Is undef), (Is undef), (Is undef), (Is undef), (Is (.bool false))] [] (by kernel_rfl) (Sub.refl _) (by kernel_rfl) (by kernel_rfl) (by kernel_rfl) rfl (by kernel_rfl) (ds_ext (Stays.spec (.is _ (.is _ (.is _ (.is _ (.is _ (.is _ (.is _ (.is _ (.is _ (.is _ (.is _ (.is _ (.is _ (.is _ (.is _ (.is _ (.is _ (.is _ (.is _ (.is _ (.is _ (.is _ (.is _ (.is _ (.is _ (.is _ (.is _ (.is _ (.nil))))))))))))))))))))))))))))))) ⟨?_, ?_, ?_, ?_, ?_, ?_, ?_, ?_, ?_, ?_, ?_, ?_, ?_, ?_, ?_, ?_, ?_, ?_, ?_, ?_, ?_, ?_, ?_, ?_, ?_, ?_, ?_, ?_, trivial⟩ ?_
        · intro Q act_ wI hxI ha hp
          have xw_wI : Ext w wI := Ext.tr xw_w1 hxI
          replace ho := ho.ext hxI
          exact h_evA (v := .slice A l.length c) ha rfl (e_move rfl) rfl rfl (Ext.rfl' _)
        · intro Q act_ wI hxI ha hp
          have xw_wI : Ext w wI := Ext.tr xw_w1 hxI
          replace ho := ho.ext hxI
          exact h_evA (v := .int .i64 (i : Int)) ha rfl (e_move rfl) rfl rfl (Ext.rfl' _)
        · intro Q act_ wI hxI ha hp
          have xw_wI : Ext w wI := Ext.tr xw_w1 hxI
          replace ho := ho.ext hxI
          have ha := ha.add (show act_.tmps.getD 17 undef = .slice A l.length c from hp 0 (by kernel_rfl) (by decide))
          have ha := ha.add (show act_.tmps.getD 18 undef = .int .i64 (i : Int) from hp 1 (by kernel_rfl) (by decide))
          exact h_evA (v := .pointer (some (el A 3 (i : Int) 0))) ha rfl (e_idxEl (e := x) Try.underlying22 Try.sizeOf41 rfl rfl (hl.1.ext xw_wI) hx (by omega) rfl) rfl rfl (Ext.rfl' _)
        · intro Q act_ wI hxI ha hp
          have xw_wI : Ext w wI := Ext.tr xw_w1 hxI
          replace ho := ho.ext hxI
          have ha := ha.add (show act_.tmps.getD 19 undef = .pointer (some (el A 3 (i : Int) 0)) from hp 2 (by kernel_rfl) (by decide))
          exact h_evA (v := .pointer (some (el A 3 (i : Int) 0))) ha rfl (e_fieldEl (fsz := 1) Try.underlying41 rfl Try.sizeOf9 (by decide) rfl rfl) rfl rfl (Ext.rfl' _)
        · intro Q act_ wI hxI ha hp
          have xw_wI : Ext w wI := Ext.tr xw_w1 hxI
          replace ho := ho.ext hxI
          have ha := ha.add (show act_.tmps.getD 20 undef = .pointer (some (el A 3 (i : Int) 0)) from hp 3 (by kernel_rfl) (by decide))
          exact h_evA (v := .string (B x.g)) ha rfl (e_ldEl (xs := l) (enc := encE) (e := x) rfl (hl.1.ext xw_wI) hx Try.isAgg9 rfl) rfl rfl (Ext.rfl' _)
        · intro Q act_ wI hxI ha hp
          have xw_wI : Ext w wI := Ext.tr xw_w1 hxI
          replace ho := ho.ext hxI
          have ha := ha.add (show act_.tmps.getD 21 undef = .string (B x.g) from hp 4 (by kernel_rfl) (by decide))
          exact h_evA (v := .bool (decide (x.g = [69, 82]))) ha rfl (e_seq rfl rfl) rfl rfl (Ext.rfl' _)
        · intro Q act_ wI hxI ha hp
          have xw_wI : Ext w wI := Ext.tr xw_w1 hxI
          replace ho := ho.ext hxI
          have ha := ha.add (show act_.tmps.getD 22 undef = .bool (decide (x.g = [69, 82])) from hp 5 (by kernel_rfl) (by decide))
          exact h_evA (v := .bool (decide (x.g = [69, 82]))) ha rfl (e_move rfl) rfl rfl (Ext.rfl' _)
        · intro Q act_ wI hxI ha hp
          have xw_wI : Ext w wI := Ext.tr xw_w1 hxI
          replace ho := ho.ext hxI
          have ha := ha.add (show act_.tmps.getD 23 undef = .bool (decide (x.g = [69, 82])) from hp 6 (by kernel_rfl) (by decide))
          exact h_gevA (v := .string (B x.d)) ha rfl rfl rfl (decide_eq_true g3) (e_move rfl) rfl rfl (Ext.rfl' _)
        · intro Q act_ wI hxI ha hp
          have xw_wI : Ext w wI := Ext.tr xw_w1 hxI
          replace ho := ho.ext hxI
          have ha := ha.add (show act_.tmps.getD 23 undef = .bool (decide (x.g = [69, 82])) from hp 6 (by kernel_rfl) (by decide))
          have ha := ha.add (show act_.tmps.getD 24 undef = .string (B x.d) from hp 7 (by kernel_rfl) (by decide))
          exact h_gevA (v := .int .i64 (x.d.length : Int)) ha rfl rfl rfl (decide_eq_true g3) (e_slen Try.underlying9 rfl) rfl rfl (Ext.rfl' _)
        · intro Q act_ wI hxI ha hp
          have xw_wI : Ext w wI := Ext.tr xw_w1 hxI
          replace ho := ho.ext hxI
          have ha := ha.add (show act_.tmps.getD 23 undef = .bool (decide (x.g = [69, 82])) from hp 6 (by kernel_rfl) (by decide))
          have ha := ha.add (show act_.tmps.getD 25 undef = .int .i64 (x.d.length : Int) from hp 8 (by kernel_rfl) (by decide))
          exact h_gevA (v := .bool (decide ((4 : Int) ≤ (x.d.length : Int)))) ha rfl rfl rfl (decide_eq_true g3) (e_ge rfl rfl) rfl rfl (Ext.rfl' _)
        · intro Q act_ wI hxI ha hp
          have xw_wI : Ext w wI := Ext.tr xw_w1 hxI
          replace ho := ho.ext hxI
          have ha := ha.add (show act_.tmps.getD 23 undef = .bool (decide (x.g = [69, 82])) from hp 6 (by kernel_rfl) (by decide))
          have ha := ha.add (show act_.tmps.getD 26 undef = .bool (decide ((4 : Int) ≤ (x.d.length : Int))) from hp 9 (by kernel_rfl) (by decide))
          exact h_evA (v := .bool (decide ((4 : Int) ≤ (x.d.length : Int)))) ha rfl (e_pickT rfl (decide_eq_true g3) rfl) rfl rfl (Ext.rfl' _)
        · intro Q act_ wI hxI ha hp
          have xw_wI : Ext w wI := Ext.tr xw_w1 hxI
          replace ho := ho.ext hxI
          have ha := ha.add (show act_.tmps.getD 27 undef = .bool (decide ((4 : Int) ≤ (x.d.length : Int))) from hp 10 (by kernel_rfl) (by decide))
          exact h_evA (v := .bool (decide ((4 : Int) ≤ (x.d.length : Int)))) ha rfl (e_move rfl) rfl rfl (Ext.rfl' _)
        · intro Q act_ wI hxI ha hp
          have xw_wI : Ext w wI := Ext.tr xw_w1 hxI
          replace ho := ho.ext hxI
          have ha := ha.add (show act_.tmps.getD 28 undef = .bool (decide ((4 : Int) ≤ (x.d.length : Int))) from hp 11 (by kernel_rfl) (by decide))
          exact h_gskip rfl rfl rfl (decide_eq_false g4) ha rfl rfl
        · intro Q act_ wI hxI ha hp
          have xw_wI : Ext w wI := Ext.tr xw_w1 hxI
          replace ho := ho.ext hxI
          have ha := ha.add (show act_.tmps.getD 28 undef = .bool (decide ((4 : Int) ≤ (x.d.length : Int))) from hp 11 (by kernel_rfl) (by decide))
          have ha := ha.add (show act_.tmps.getD 29 undef = undef from hp 12 (by kernel_rfl) (by decide))
          exact h_gskip rfl rfl rfl (decide_eq_false g4) ha rfl rfl
        · intro Q act_ wI hxI ha hp
          have xw_wI : Ext w wI := Ext.tr xw_w1 hxI
          replace ho := ho.ext hxI
          have ha := ha.add (show act_.tmps.getD 28 undef = .bool (decide ((4 : Int) ≤ (x.d.length : Int))) from hp 11 (by kernel_rfl) (by decide))
          exact h_gskip rfl rfl rfl (decide_eq_false g4) ha rfl rfl
        · intro Q act_ wI hxI ha hp
          have xw_wI : Ext w wI := Ext.tr xw_w1 hxI
          replace ho := ho.ext hxI
          have ha := ha.add (show act_.tmps.getD 28 undef = .bool (decide ((4 : Int) ≤ (x.d.length : Int))) from hp 11 (by kernel_rfl) (by decide))
          have ha := ha.add (show act_.tmps.getD 31 undef = undef from hp 14 (by kernel_rfl) (by decide))
          exact h_gskip rfl rfl rfl (decide_eq_false g4) ha rfl rfl
        · intro Q act_ wI hxI ha hp
          have xw_wI : Ext w wI := Ext.tr xw_w1 hxI
          replace ho := ho.ext hxI
          have ha := ha.add (show act_.tmps.getD 28 undef = .bool (decide ((4 : Int) ≤ (x.d.length : Int))) from hp 11 (by kernel_rfl) (by decide))
          have ha := ha.add (show act_.tmps.getD 32 undef = undef from hp 15 (by kernel_rfl) (by decide))
          exact h_gskip rfl rfl rfl (decide_eq_false g4) ha rfl rfl
        · intro Q act_ wI hxI ha hp
          have xw_wI : Ext w wI := Ext.tr xw_w1 hxI
          replace ho := ho.ext hxI
          have ha := ha.add (show act_.tmps.getD 28 undef = .bool (decide ((4 : Int) ≤ (x.d.length : Int))) from hp 11 (by kernel_rfl) (by decide))
          have ha := ha.add (show act_.tmps.getD 33 undef = undef from hp 16 (by kernel_rfl) (by decide))
          exact h_gskip rfl rfl rfl (decide_eq_false g4) ha rfl rfl
        · intro Q act_ wI hxI ha hp
          have xw_wI : Ext w wI := Ext.tr xw_w1 hxI
          replace ho := ho.ext hxI
          have ha := ha.add (show act_.tmps.getD 28 undef = .bool (decide ((4 : Int) ≤ (x.d.length : Int))) from hp 11 (by kernel_rfl) (by decide))
          exact h_gskip rfl rfl rfl (decide_eq_false g4) ha rfl rfl
        · intro Q act_ wI hxI ha hp
          have xw_wI : Ext w wI := Ext.tr xw_w1 hxI
          replace ho := ho.ext hxI
          have ha := ha.add (show act_.tmps.getD 28 undef = .bool (decide ((4 : Int) ≤ (x.d.length : Int))) from hp 11 (by kernel_rfl) (by decide))
          have ha := ha.add (show act_.tmps.getD 35 undef = undef from hp 18 (by kernel_rfl) (by decide))
          exact h_gskip rfl rfl rfl (decide_eq_false g4) ha rfl rfl
        · intro Q act_ wI hxI ha hp
          have xw_wI : Ext w wI := Ext.tr xw_w1 hxI
          replace ho := ho.ext hxI
          have ha := ha.add (show act_.tmps.getD 28 undef = .bool (decide ((4 : Int) ≤ (x.d.length : Int))) from hp 11 (by kernel_rfl) (by decide))
          have ha := ha.add (show act_.tmps.getD 36 undef = undef from hp 19 (by kernel_rfl) (by decide))
          exact h_gskip rfl rfl rfl (decide_eq_false g4) ha rfl rfl
        · intro Q act_ wI hxI ha hp
          have xw_wI : Ext w wI := Ext.tr xw_w1 hxI
          replace ho := ho.ext hxI
          have ha := ha.add (show act_.tmps.getD 28 undef = .bool (decide ((4 : Int) ≤ (x.d.length : Int))) from hp 11 (by kernel_rfl) (by decide))
          have ha := ha.add (show act_.tmps.getD 34 undef = undef from hp 17 (by kernel_rfl) (by decide))
          have ha := ha.add (show act_.tmps.getD 37 undef = undef from hp 20 (by kernel_rfl) (by decide))
          exact h_gskip rfl rfl rfl (decide_eq_false g4) ha rfl rfl
        · intro Q act_ wI hxI ha hp
          have xw_wI : Ext w wI := Ext.tr xw_w1 hxI
          replace ho := ho.ext hxI
          have ha := ha.add (show act_.tmps.getD 28 undef = .bool (decide ((4 : Int) ≤ (x.d.length : Int))) from hp 11 (by kernel_rfl) (by decide))
          exact h_gskip rfl rfl rfl (decide_eq_false g4) ha rfl rfl
        · intro Q act_ wI hxI ha hp
          have xw_wI : Ext w wI := Ext.tr xw_w1 hxI
          replace ho := ho.ext hxI
          have ha := ha.add (show act_.tmps.getD 28 undef = .bool (decide ((4 : Int) ≤ (x.d.length : Int))) from hp 11 (by kernel_rfl) (by decide))
          have ha := ha.add (show act_.tmps.getD 39 undef = undef from hp 22 (by kernel_rfl) (by decide))
          exact h_gskip rfl rfl rfl (decide_eq_false g4) ha rfl rfl
        · intro Q act_ wI hxI ha hp
          have xw_wI : Ext w wI := Ext.tr xw_w1 hxI
          replace ho := ho.ext hxI
          have ha := ha.add (show act_.tmps.getD 28 undef = .bool (decide ((4 : Int) ≤ (x.d.length : Int))) from hp 11 (by kernel_rfl) (by decide))
          have ha := ha.add (show act_.tmps.getD 40 undef = undef from hp 23 (by kernel_rfl) (by decide))
          exact h_gskip rfl rfl rfl (decide_eq_false g4) ha rfl rfl
        · intro Q act_ wI hxI ha hp
          have xw_wI : Ext w wI := Ext.tr xw_w1 hxI
          replace ho := ho.ext hxI
          have ha := ha.add (show act_.tmps.getD 28 undef = .bool (decide ((4 : Int) ≤ (x.d.length : Int))) from hp 11 (by kernel_rfl) (by decide))
          have ha := ha.add (show act_.tmps.getD 38 undef = undef from hp 21 (by kernel_rfl) (by decide))
          have ha := ha.add (show act_.tmps.getD 41 undef = undef from hp 24 (by kernel_rfl) (by decide))
          exact h_gskip rfl rfl rfl (decide_eq_false g4) ha rfl rfl
        · intro Q act_ wI hxI ha hp
          have xw_wI : Ext w wI := Ext.tr xw_w1 hxI
          replace ho := ho.ext hxI
          have ha := ha.add (show act_.tmps.getD 28 undef = .bool (decide ((4 : Int) ≤ (x.d.length : Int))) from hp 11 (by kernel_rfl) (by decide))
          have ha := ha.add (show act_.tmps.getD 30 undef = undef from hp 13 (by kernel_rfl) (by decide))
          have ha := ha.add (show act_.tmps.getD 42 undef = undef from hp 25 (by kernel_rfl) (by decide))
          exact h_gskip rfl rfl rfl (decide_eq_false g4) ha rfl rfl
        · intro Q act_ wI hxI ha hp
          have xw_wI : Ext w wI := Ext.tr xw_w1 hxI
          replace ho := ho.ext hxI
          have ha := ha.add (show act_.tmps.getD 28 undef = .bool (decide ((4 : Int) ≤ (x.d.length : Int))) from hp 11 (by kernel_rfl) (by decide))
          have ha := ha.add (show act_.tmps.getD 43 undef = undef from hp 26 (by kernel_rfl) (by decide))
          exact h_evA (v := .bool false) ha rfl (e_pickF rfl (decide_eq_false g4) rfl) rfl rfl (Ext.rfl' _)
        intro vs_ w8 hx_w8 hvs act_ ha hv
        have xw_w8 : Ext w w8 := Ext.tr xw_w1 hx_w8
        replace ho := ho.ext hx_w8
        have ha := ha.add ((hv 27 (by decide)).trans (show vs_ 27 = .bool false from hvs 27 (by decide)))
        refine st_go ha ?_
        clear ha hv hvs
        refine st_nil (nrm_k ?_)
        refine sc_no rfl rfl ?_
        refine sc_skip (nrm_k ?_)
        refine sc_reg ?_
        refine Go.XK.s (v := .int .i64 (i : Int)) (e_move rfl) ?_
        refine Go.XK.s (v := .int .i64 ((i : Int) + 1)) (e_add rfl rfl (by omega)) ?_
        refine Go.XK.s (v := .int .i64 ((i : Int) + 1)) (e_assign rfl) ?_
        refine sl_nil ?_
        exact nrm_loopq rfl _ _ (by omega) ⟨i + 1, v_, xs, rfl, rfl, xw_w8, ho, ⟨⟨by omega, by first | omega | (rw [List.length_append]; simp; omega)⟩, by rw [refL_take hx, ← hxs]; first | (rw [refE_yes (by assumption) (by assumption) (by assumption)]) | (rw [refE_no1 (by assumption), List.append_nil]) | (rw [refE_no2 (by assumption), List.append_nil]) | (rw [refE_no3 (by assumption), List.append_nil])⟩⟩ (.cons rfl (.cons rfl (.cons rfl (.nil))))
    ·
      rcases Classical.em ((4 : Int) ≤ (x.d.length : Int)) with g9 | g9
      ·
        refine sc_free [(5, .string (B x.d)), (16, .string (B x.d)), (15, .pointer (some (el A 3 (i : Int) 2))), (14, .pointer (some (el A 3 (i : Int) 0))), (13, .int .i64 (i : Int)), (12, .slice A l.length c), (9, .bool (decide ((i : Int) < (l.length : Int)))), (8, .int .i64 (l.length : Int)), (7, .slice A l.length c), (6, .int .i64 (i : Int)), (4, .int .i64 (i : Int)), (3, v_), (0, .slice A l.length c)] [17, 18, 19, 20, 21, 22, 23, 24, 25, 26, 27, 28, 29, 30, 31, 32, 33, 34, 35, 36, 37, 38, 39, 40, 41, 42, 43, 44] [(Is (.slice A l.length c)), (Is (.int .i64 (i : Int))), (Is (.pointer (some (el A 3 (i : Int) 0)))), (Is (.pointer (some (el A 3 (i : Int) 0)))), (Is (.string (B x.g))), (Is (.bool (decide (x.g = [69, 82])))), (Is (.bool (decide (x.g = [69, 82])))), (Is undef), (Is undef), (Is undef), (Is (.bool false)), (Is (.bool false)), (Is undef), (Is undef), (Is undef), (Is undef), (Is undef), (Is undef), (Is undef), (Is undef), (Is undef), (Is undef), (Is undef), (Is undef), (Is undef), (Is undef), (Is undef), (Is (.bool false))] [] (by kernel_rfl) (Sub.refl _) (by kernel_rfl) (by kernel_rfl) (by kernel_rfl) rfl (by kernel_rfl) (ds_ext (Stays.spec (.is _ (.is _ (.is _ (.is _ (.is _ (.is _ (.is _ (.is _ (.is _ (.is _ (.is _ (.is _ (.is _ (.is _ (.is _ (.is _ (.is _ (.is _ (.is _ (.is _ (.is _ (.is _ (.is _ (.is _ (.is _ (.is _ (.is _ (.is _ (.nil))))))))))))))))))))))))))))))) ⟨?_, ?_, ?_, ?_, ?_, ?_, ?_, ?_, ?_, ?_, ?_, ?_, ?_, ?_, ?_, ?_, ?_, ?_, ?_, ?_, ?_, ?_, ?_, ?_, ?_, ?_, ?_, ?_, trivial⟩ ?_
        · intro Q act_ wI hxI ha hp
          have xw_wI : Ext w wI := Ext.tr xw_w1 hxI
          replace ho := ho.ext hxI
          exact h_evA (v := .slice A l.length c) ha rfl (e_move rfl) rfl rfl (Ext.rfl' _)
        · intro Q act_ wI hxI ha hp
          have xw_wI : Ext w wI := Ext.tr xw_w1 hxI
          replace ho := ho.ext hxI
          exact h_evA (v := .int .i64 (i : Int)) ha rfl (e_move rfl) rfl rfl (Ext.rfl' _)
        · intro Q act_ wI hxI ha hp
          have xw_wI : Ext w wI := Ext.tr xw_w1 hxI
          replace ho := ho.ext hxI
          have ha := ha.add (show act_.tmps.getD 17 undef = .slice A l.length c from hp 0 (by kernel_rfl) (by decide))
          have ha := ha.add (show act_.tmps.getD 18 undef = .int .i64 (i : Int) from hp 1 (by kernel_rfl) (by decide))
          exact h_evA (v := .pointer (some (el A 3 (i : Int) 0))) ha rfl (e_idxEl (e := x) Try.underlying22 Try.sizeOf41 rfl rfl (hl.1.ext xw_wI) hx (by omega) rfl) rfl rfl (Ext.rfl' _)
        · intro Q act_ wI hxI ha hp
          have xw_wI : Ext w wI := Ext.tr xw_w1 hxI
          replace ho := ho.ext hxI
          have ha := ha.add (show act_.tmps.getD 19 undef = .pointer (some (el A 3 (i : Int) 0)) from hp 2 (by kernel_rfl) (by decide))
          exact h_evA (v := .pointer (some (el A 3 (i : Int) 0))) ha rfl (e_fieldEl (fsz := 1) Try.underlying41 rfl Try.sizeOf9 (by decide) rfl rfl) rfl rfl (Ext.rfl' _)
        · intro Q act_ wI hxI ha hp
          have xw_wI : Ext w wI := Ext.tr xw_w1 hxI
          replace ho := ho.ext hxI
          have ha := ha.add (show act_.tmps.getD 20 undef = .pointer (some (el A 3 (i : Int) 0)) from hp 3 (by kernel_rfl) (by decide))
          exact h_evA (v := .string (B x.g)) ha rfl (e_ldEl (xs := l) (enc := encE) (e := x) rfl (hl.1.ext xw_wI) hx Try.isAgg9 rfl) rfl rfl (Ext.rfl' _)
        · intro Q act_ wI hxI ha hp
          have xw_wI : Ext w wI := Ext.tr xw_w1 hxI
          replace ho := ho.ext hxI
          have ha := ha.add (show act_.tmps.getD 21 undef = .string (B x.g) from hp 4 (by kernel_rfl) (by decide))
          exact h_evA (v := .bool (decide (x.g = [69, 82]))) ha rfl (e_seq rfl rfl) rfl rfl (Ext.rfl' _)
        · intro Q act_ wI hxI ha hp
          have xw_wI : Ext w wI := Ext.tr xw_w1 hxI
          replace ho := ho.ext hxI
          have ha := ha.add (show act_.tmps.getD 22 undef = .bool (decide (x.g = [69, 82])) from hp 5 (by kernel_rfl) (by decide))
          exact h_evA (v := .bool (decide (x.g = [69, 82]))) ha rfl (e_move rfl) rfl rfl (Ext.rfl' _)
        · intro Q act_ wI hxI ha hp
          have xw_wI : Ext w wI := Ext.tr xw_w1 hxI
          replace ho := ho.ext hxI
          have ha := ha.add (show act_.tmps.getD 23 undef = .bool (decide (x.g = [69, 82])) from hp 6 (by kernel_rfl) (by decide))
          exact h_gskip rfl rfl rfl (decide_eq_false g3) ha rfl rfl
        · intro Q act_ wI hxI ha hp
          have xw_wI : Ext w wI := Ext.tr xw_w1 hxI
          replace ho := ho.ext hxI
          have ha := ha.add (show act_.tmps.getD 23 undef = .bool (decide (x.g = [69, 82])) from hp 6 (by kernel_rfl) (by decide))
          have ha := ha.add (show act_.tmps.getD 24 undef = undef from hp 7 (by kernel_rfl) (by decide))
          exact h_gskip rfl rfl rfl (decide_eq_false g3) ha rfl rfl
        · intro Q act_ wI hxI ha hp
          have xw_wI : Ext w wI := Ext.tr xw_w1 hxI
          replace ho := ho.ext hxI
          have ha := ha.add (show act_.tmps.getD 23 undef = .bool (decide (x.g = [69, 82])) from hp 6 (by kernel_rfl) (by decide))
          have ha := ha.add (show act_.tmps.getD 25 undef = undef from hp 8 (by kernel_rfl) (by decide))
          exact h_gskip rfl rfl rfl (decide_eq_false g3) ha rfl rfl
        · intro Q act_ wI hxI ha hp
          have xw_wI : Ext w wI := Ext.tr xw_w1 hxI
          replace ho := ho.ext hxI
          have ha := ha.add (show act_.tmps.getD 23 undef = .bool (decide (x.g = [69, 82])) from hp 6 (by kernel_rfl) (by decide))
          have ha := ha.add (show act_.tmps.getD 26 undef = undef from hp 9 (by kernel_rfl) (by decide))
          exact h_evA (v := .bool false) ha rfl (e_pickF rfl (decide_eq_false g3) rfl) rfl rfl (Ext.rfl' _)
        · intro Q act_ wI hxI ha hp
          have xw_wI : Ext w wI := Ext.tr xw_w1 hxI
          replace ho := ho.ext hxI
          have ha := ha.add (show act_.tmps.getD 27 undef = .bool false from hp 10 (by kernel_rfl) (by decide))
          exact h_evA (v := .bool false) ha rfl (e_move rfl) rfl rfl (Ext.rfl' _)
        · intro Q act_ wI hxI ha hp
          have xw_wI : Ext w wI := Ext.tr xw_w1 hxI
          replace ho := ho.ext hxI
          have ha := ha.add (show act_.tmps.getD 28 undef = .bool false from hp 11 (by kernel_rfl) (by decide))
          exact h_gskip rfl rfl rfl rfl ha rfl rfl
        · intro Q act_ wI hxI ha hp
          have xw_wI : Ext w wI := Ext.tr xw_w1 hxI
          replace ho := ho.ext hxI
          have ha := ha.add (show act_.tmps.getD 28 undef = .bool false from hp 11 (by kernel_rfl) (by decide))
          have ha := ha.add (show act_.tmps.getD 29 undef = undef from hp 12 (by kernel_rfl) (by decide))
          exact h_gskip rfl rfl rfl rfl ha rfl rfl
        · intro Q act_ wI hxI ha hp
          have xw_wI : Ext w wI := Ext.tr xw_w1 hxI
          replace ho := ho.ext hxI
          have ha := ha.add (show act_.tmps.getD 28 undef = .bool false from hp 11 (by kernel_rfl) (by decide))
          exact h_gskip rfl rfl rfl rfl ha rfl rfl
        · intro Q act_ wI hxI ha hp
          have xw_wI : Ext w wI := Ext.tr xw_w1 hxI
          replace ho := ho.ext hxI
          have ha := ha.add (show act_.tmps.getD 28 undef = .bool false from hp 11 (by kernel_rfl) (by decide))
          have ha := ha.add (show act_.tmps.getD 31 undef = undef from hp 14 (by kernel_rfl) (by decide))
          exact h_gskip rfl rfl rfl rfl ha rfl rfl
        · intro Q act_ wI hxI ha hp
          have xw_wI : Ext w wI := Ext.tr xw_w1 hxI
          replace ho := ho.ext hxI
          have ha := ha.add (show act_.tmps.getD 28 undef = .bool false from hp 11 (by kernel_rfl) (by decide))
          have ha := ha.add (show act_.tmps.getD 32 undef = undef from hp 15 (by kernel_rfl) (by decide))
          exact h_gskip rfl rfl rfl rfl ha rfl rfl
        · intro Q act_ wI hxI ha hp
          have xw_wI : Ext w wI := Ext.tr xw_w1 hxI
          replace ho := ho.ext hxI
          have ha := ha.add (show act_.tmps.getD 28 undef = .bool false from hp 11 (by kernel_rfl) (by decide))
          have ha := ha.add (show act_.tmps.getD 33 undef = undef from hp 16 (by kernel_rfl) (by decide))
          exact h_gskip rfl rfl rfl rfl ha rfl rfl
        · intro Q act_ wI hxI ha hp
          have xw_wI : Ext w wI := Ext.tr xw_w1 hxI
          replace ho := ho.ext hxI
          have ha := ha.add (show act_.tmps.getD 28 undef = .bool false from hp 11 (by kernel_rfl) (by decide))
          exact h_gskip rfl rfl rfl rfl ha rfl rfl
        · intro Q act_ wI hxI ha hp
          have xw_wI : Ext w wI := Ext.tr xw_w1 hxI
          replace ho := ho.ext hxI
          have ha := ha.add (show act_.tmps.getD 28 undef = .bool false from hp 11 (by kernel_rfl) (by decide))
          have ha := ha.add (show act_.tmps.getD 35 undef = undef from hp 18 (by kernel_rfl) (by decide))
          exact h_gskip rfl rfl rfl rfl ha rfl rfl
        · intro Q act_ wI hxI ha hp
          have xw_wI : Ext w wI := Ext.tr xw_w1 hxI
          replace ho := ho.ext hxI
          have ha := ha.add (show act_.tmps.getD 28 undef = .bool false from hp 11 (by kernel_rfl) (by decide))
          have ha := ha.add (show act_.tmps.getD 36 undef = undef from hp 19 (by kernel_rfl) (by decide))
          exact h_gskip rfl rfl rfl rfl ha rfl rfl
        · intro Q act_ wI hxI ha hp
          have xw_wI : Ext w wI := Ext.tr xw_w1 hxI
          replace ho := ho.ext hxI
          have ha := ha.add (show act_.tmps.getD 28 undef = .bool false from hp 11 (by kernel_rfl) (by decide))
          have ha := ha.add (show act_.tmps.getD 34 undef = undef from hp 17 (by kernel_rfl) (by decide))
          have ha := ha.add (show act_.tmps.getD 37 undef = undef from hp 20 (by kernel_rfl) (by decide))
          exact h_gskip rfl rfl rfl rfl ha rfl rfl
        · intro Q act_ wI hxI ha hp
          have xw_wI : Ext w wI := Ext.tr xw_w1 hxI
          replace ho := ho.ext hxI
          have ha := ha.add (show act_.tmps.getD 28 undef = .bool false from hp 11 (by kernel_rfl) (by decide))
          exact h_gskip rfl rfl rfl rfl ha rfl rfl
        · intro Q act_ wI hxI ha hp
          have xw_wI : Ext w wI := Ext.tr xw_w1 hxI
          replace ho := ho.ext hxI
          have ha := ha.add (show act_.tmps.getD 28 undef = .bool false from hp 11 (by kernel_rfl) (by decide))
          have ha := ha.add (show act_.tmps.getD 39 undef = undef from hp 22 (by kernel_rfl) (by decide))
          exact h_gskip rfl rfl rfl rfl ha rfl rfl
        · intro Q act_ wI hxI ha hp
          have xw_wI : Ext w wI := Ext.tr xw_w1 hxI
          replace ho := ho.ext hxI
          have ha := ha.add (show act_.tmps.getD 28 undef = .bool false from hp 11 (by kernel_rfl) (by decide))
          have ha := ha.add (show act_.tmps.getD 40 undef = undef from hp 23 (by kernel_rfl) (by decide))
          exact h_gskip rfl rfl rfl rfl ha rfl rfl
        · intro Q act_ wI hxI ha hp
          have xw_wI : Ext w wI := Ext.tr xw_w1 hxI
          replace ho := ho.ext hxI
          have ha := ha.add (show act_.tmps.getD 28 undef = .bool false from hp 11 (by kernel_rfl) (by decide))
          have ha := ha.add (show act_.tmps.getD 38 undef = undef from hp 21 (by kernel_rfl) (by decide))
          have ha := ha.add (show act_.tmps.getD 41 undef = undef from hp 24 (by kernel_rfl) (by decide))
          exact h_gskip rfl rfl rfl rfl ha rfl rfl
        · intro Q act_ wI hxI ha hp
          have xw_wI : Ext w wI := Ext.tr xw_w1 hxI
          replace ho := ho.ext hxI
          have ha := ha.add (show act_.tmps.getD 28 undef = .bool false from hp 11 (by kernel_rfl) (by decide))
          have ha := ha.add (show act_.tmps.getD 30 undef = undef from hp 13 (by kernel_rfl) (by decide))
          have ha := ha.add (show act_.tmps.getD 42 undef = undef from hp 25 (by kernel_rfl) (by decide))
          exact h_gskip rfl rfl rfl rfl ha rfl rfl
        · intro Q act_ wI hxI ha hp
          have xw_wI : Ext w wI := Ext.tr xw_w1 hxI
          replace ho := ho.ext hxI
          have ha := ha.add (show act_.tmps.getD 28 undef = .bool false from hp 11 (by kernel_rfl) (by decide))
          have ha := ha.add (show act_.tmps.getD 43 undef = undef from hp 26 (by kernel_rfl) (by decide))
          exact h_evA (v := .bool false) ha rfl (e_pickF rfl rfl rfl) rfl rfl (Ext.rfl' _)
        intro vs_ w10 hx_w10 hvs act_ ha hv
        have xw_w10 : Ext w w10 := Ext.tr xw_w1 hx_w10
        replace ho := ho.ext hx_w10
        have ha := ha.add ((hv 27 (by decide)).trans (show vs_ 27 = .bool false from hvs 27 (by decide)))
        refine st_go ha ?_
        clear ha hv hvs
        refine st_nil (nrm_k ?_)
        refine sc_no rfl rfl ?_
        refine sc_skip (nrm_k ?_)
        refine sc_reg ?_
        refine Go.XK.s (v := .int .i64 (i : Int)) (e_move rfl) ?_
        refine Go.XK.s (v := .int .i64 ((i : Int) + 1)) (e_add rfl rfl (by omega)) ?_
        refine Go.XK.s (v := .int .i64 ((i : Int) + 1)) (e_assign rfl) ?_
        refine sl_nil ?_
        exact nrm_loopq rfl _ _ (by omega) ⟨i + 1, v_, xs, rfl, rfl, xw_w10, ho, ⟨⟨by omega, by first | omega | (rw [List.length_append]; simp; omega)⟩, by rw [refL_take hx, ← hxs]; first | (rw [refE_yes (by assumption) (by assumption) (by assumption)]) | (rw [refE_no1 (by assumption), List.append_nil]) | (rw [refE_no2 (by assumption), List.append_nil]) | (rw [refE_no3 (by assumption), List.append_nil])⟩⟩ (.cons rfl (.cons rfl (.cons rfl (.nil))))
      ·
        refine sc_free [(5, .string (B x.d)), (16, .string (B x.d)), (15, .pointer (some (el A 3 (i : Int) 2))), (14, .pointer (some (el A 3 (i : Int) 0))), (13, .int .i64 (i : Int)), (12, .slice A l.length c), (9, .bool (decide ((i : Int) < (l.length : Int)))), (8, .int .i64 (l.length : Int)), (7, .slice A l.length c), (6, .int .i64 (i : Int)), (4, .int .i64 (i : Int)), (3, v_), (0, .slice A l.length c)] [17, 18, 19, 20, 21, 22, 23, 24, 25, 26, 27, 28, 29, 30, 31, 32, 33, 34, 35, 36, 37, 38, 39, 40, 41, 42, 43, 44] [(Is (.slice A l.length c)), (Is (.int .i64 (i : Int))), (Is (.pointer (some (el A 3 (i : Int) 0)))), (Is (.pointer (some (el A 3 (i : Int) 0)))), (Is (.string (B x.g))), (Is (.bool (decide (x.g = [69, 82])))), (Is (.bool (decide (x.g = [69, 82])))), (Is undef), (Is undef), (Is undef), (Is (.bool false)), (Is (.bool false)), (Is undef), (Is undef), (Is undef), (Is undef), (Is undef), (Is undef), (Is undef), (Is undef), (Is undef), (Is undef), (Is undef), (Is undef), (Is undef), (Is undef), (Is undef), (Is (.bool false))] [] (by kernel_rfl) (Sub.refl _) (by kernel_rfl) (by kernel_rfl) (by kernel_rfl) rfl (by kernel_rfl) (ds_ext (Stays.spec (.is _ (.is _ (.is _ (.is _ (.is _ (.is _ (.is _ (.is _ (.is _ (.is _ (.is _ (.is _ (.is _ (.is _ (.is _ (.is _ (.is _ (.is _ (.is _ (.is _ (.is _ (.is _ (.is _ (.is _ (.is _ (.is _ (.is _ (.is _ (.nil))))))))))))))))))))))))))))))) ⟨?_, ?_, ?_, ?_, ?_, ?_, ?_, ?_, ?_, ?_, ?_, ?_, ?_, ?_, ?_, ?_, ?_, ?_, ?_, ?_, ?_, ?_, ?_, ?_, ?_, ?_, ?_, ?_, trivial⟩ ?_
        · intro Q act_ wI hxI ha hp
          have xw_wI : Ext w wI := Ext.tr xw_w1 hxI
          replace ho := ho.ext hxI
          exact h_evA (v := .slice A l.length c) ha rfl (e_move rfl) rfl rfl (Ext.rfl' _)
        · intro Q act_ wI hxI ha hp
          have xw_wI : Ext w wI := Ext.tr xw_w1 hxI
          replace ho := ho.ext hxI
          exact h_evA (v := .int .i64 (i : Int)) ha rfl (e_move rfl) rfl rfl (Ext.rfl' _)
        · intro Q act_ wI hxI ha hp
          have xw_wI : Ext w wI := Ext.tr xw_w1 hxI
          replace ho := ho.ext hxI
          have ha := ha.add (show act_.tmps.getD 17 undef = .slice A l.length c from hp 0 (by kernel_rfl) (by decide))
          have ha := ha.add (show act_.tmps.getD 18 undef = .int .i64 (i : Int) from hp 1 (by kernel_rfl) (by decide))
          exact h_evA (v := .pointer (some (el A 3 (i : Int) 0))) ha rfl (e_idxEl (e := x) Try.underlying22 Try.sizeOf41 rfl rfl (hl.1.ext xw_wI) hx (by omega) rfl) rfl rfl (Ext.rfl' _)
        · intro Q act_ wI hxI ha hp
          have xw_wI : Ext w wI := Ext.tr xw_w1 hxI
          replace ho := ho.ext hxI
          have ha := ha.add (show act_.tmps.getD 19 undef = .pointer (some (el A 3 (i : Int) 0)) from hp 2 (by kernel_rfl) (by decide))
          exact h_evA (v := .pointer (some (el A 3 (i : Int) 0))) ha rfl (e_fieldEl (fsz := 1) Try.underlying41 rfl Try.sizeOf9 (by decide) rfl rfl) rfl rfl (Ext.rfl' _)
        · intro Q act_ wI hxI ha hp
          have xw_wI : Ext w wI := Ext.tr xw_w1 hxI
          replace ho := ho.ext hxI
          have ha := ha.add (show act_.tmps.getD 20 undef = .pointer (some (el A 3 (i : Int) 0)) from hp 3 (by kernel_rfl) (by decide))
          exact h_evA (v := .string (B x.g)) ha rfl (e_ldEl (xs := l) (enc := encE) (e := x) rfl (hl.1.ext xw_wI) hx Try.isAgg9 rfl) rfl rfl (Ext.rfl' _)
        · intro Q act_ wI hxI ha hp
          have xw_wI : Ext w wI := Ext.tr xw_w1 hxI
          replace ho := ho.ext hxI
          have ha := ha.add (show act_.tmps.getD 21 undef = .string (B x.g) from hp 4 (by kernel_rfl) (by decide))
          exact h_evA (v := .bool (decide (x.g = [69, 82]))) ha rfl (e_seq rfl rfl) rfl rfl (Ext.rfl' _)
        · intro Q act_ wI hxI ha hp
          have xw_wI : Ext w wI := Ext.tr xw_w1 hxI
          replace ho := ho.ext hxI
          have ha := ha.add (show act_.tmps.getD 22 undef = .bool (decide (x.g = [69, 82])) from hp 5 (by kernel_rfl) (by decide))
          exact h_evA (v := .bool (decide (x.g = [69, 82]))) ha rfl (e_move rfl) rfl rfl (Ext.rfl' _)
        · intro Q act_ wI hxI ha hp
          have xw_wI : Ext w wI := Ext.tr xw_w1 hxI
          replace ho := ho.ext hxI
          have ha := ha.add (show act_.tmps.getD 23 undef = .bool (decide (x.g = [69, 82])) from hp 6 (by kernel_rfl) (by decide))
          exact h_gskip rfl rfl rfl (decide_eq_false g3) ha rfl rfl
        · intro Q act_ wI hxI ha hp
          have xw_wI : Ext w wI := Ext.tr xw_w1 hxI
          replace ho := ho.ext hxI
          have ha := ha.add (show act_.tmps.getD 23 undef = .bool (decide (x.g = [69, 82])) from hp 6 (by kernel_rfl) (by decide))
          have ha := ha.add (show act_.tmps.getD 24 undef = undef from hp 7 (by kernel_rfl) (by decide))
          exact h_gskip rfl rfl rfl (decide_eq_false g3) ha rfl rfl
        · intro Q act_ wI hxI ha hp
          have xw_wI : Ext w wI := Ext.tr xw_w1 hxI
          replace ho := ho.ext hxI
          have ha := ha.add (show act_.tmps.getD 23 undef = .bool (decide (x.g = [69, 82])) from hp 6 (by kernel_rfl) (by decide))
          have ha := ha.add (show act_.tmps.getD 25 undef = undef from hp 8 (by kernel_rfl) (by decide))
          exact h_gskip rfl rfl rfl (decide_eq_false g3) ha rfl rfl
        · intro Q act_ wI hxI ha hp
          have xw_wI : Ext w wI := Ext.tr xw_w1 hxI
          replace ho := ho.ext hxI
          have ha := ha.add (show act_.tmps.getD 23 undef = .bool (decide (x.g = [69, 82])) from hp 6 (by kernel_rfl) (by decide))
          have ha := ha.add (show act_.tmps.getD 26 undef = undef from hp 9 (by kernel_rfl) (by decide))
          exact h_evA (v := .bool false) ha rfl (e_pickF rfl (decide_eq_false g3) rfl) rfl rfl (Ext.rfl' _)
        · intro Q act_ wI hxI ha hp
          have xw_wI : Ext w wI := Ext.tr xw_w1 hxI
          replace ho := ho.ext hxI
          have ha := ha.add (show act_.tmps.getD 27 undef = .bool false from hp 10 (by kernel_rfl) (by decide))
          exact h_evA (v := .bool false) ha rfl (e_move rfl) rfl rfl (Ext.rfl' _)
        · intro Q act_ wI hxI ha hp
          have xw_wI : Ext w wI := Ext.tr xw_w1 hxI
          replace ho := ho.ext hxI
          have ha := ha.add (show act_.tmps.getD 28 undef = .bool false from hp 11 (by kernel_rfl) (by decide))
          exact h_gskip rfl rfl rfl rfl ha rfl rfl
        · intro Q act_ wI hxI ha hp
          have xw_wI : Ext w wI := Ext.tr xw_w1 hxI
          replace ho := ho.ext hxI
          have ha := ha.add (show act_.tmps.getD 28 undef = .bool false from hp 11 (by kernel_rfl) (by decide))
          have ha := ha.add (show act_.tmps.getD 29 undef = undef from hp 12 (by kernel_rfl) (by decide))
          exact h_gskip rfl rfl rfl rfl ha rfl rfl
        · intro Q act_ wI hxI ha hp
          have xw_wI : Ext w wI := Ext.tr xw_w1 hxI
          replace ho := ho.ext hxI
          have ha := ha.add (show act_.tmps.getD 28 undef = .bool false from hp 11 (by kernel_rfl) (by decide))
          exact h_gskip rfl rfl rfl rfl ha rfl rfl
        · intro Q act_ wI hxI ha hp
          have xw_wI : Ext w wI := Ext.tr xw_w1 hxI
          replace ho := ho.ext hxI
          have ha := ha.add (show act_.tmps.getD 28 undef = .bool false from hp 11 (by kernel_rfl) (by decide))
          have ha := ha.add (show act_.tmps.getD 31 undef = undef from hp 14 (by kernel_rfl) (by decide))
          exact h_gskip rfl rfl rfl rfl ha rfl rfl
        · intro Q act_ wI hxI ha hp
          have xw_wI : Ext w wI := Ext.tr xw_w1 hxI
          replace ho := ho.ext hxI
          have ha := ha.add (show act_.tmps.getD 28 undef = .bool false from hp 11 (by kernel_rfl) (by decide))
          have ha := ha.add (show act_.tmps.getD 32 undef = undef from hp 15 (by kernel_rfl) (by decide))
          exact h_gskip rfl rfl rfl rfl ha rfl rfl
        · intro Q act_ wI hxI ha hp
          have xw_wI : Ext w wI := Ext.tr xw_w1 hxI
          replace ho := ho.ext hxI
          have ha := ha.add (show act_.tmps.getD 28 undef = .bool false from hp 11 (by kernel_rfl) (by decide))
          have ha := ha.add (show act_.tmps.getD 33 undef = undef from hp 16 (by kernel_rfl) (by decide))
          exact h_gskip rfl rfl rfl rfl ha rfl rfl
        · intro Q act_ wI hxI ha hp
          have xw_wI : Ext w wI := Ext.tr xw_w1 hxI
          replace ho := ho.ext hxI
          have ha := ha.add (show act_.tmps.getD 28 undef = .bool false from hp 11 (by kernel_rfl) (by decide))
          exact h_gskip rfl rfl rfl rfl ha rfl rfl
        · intro Q act_ wI hxI ha hp
          have xw_wI : Ext w wI := Ext.tr xw_w1 hxI
          replace ho := ho.ext hxI
          have ha := ha.add (show act_.tmps.getD 28 undef = .bool false from hp 11 (by kernel_rfl) (by decide))
          have ha := ha.add (show act_.tmps.getD 35 undef = undef from hp 18 (by kernel_rfl) (by decide))
          exact h_gskip rfl rfl rfl rfl ha rfl rfl
        · intro Q act_ wI hxI ha hp
          have xw_wI : Ext w wI := Ext.tr xw_w1 hxI
          replace ho := ho.ext hxI
          have ha := ha.add (show act_.tmps.getD 28 undef = .bool false from hp 11 (by kernel_rfl) (by decide))
          have ha := ha.add (show act_.tmps.getD 36 undef = undef from hp 19 (by kernel_rfl) (by decide))
          exact h_gskip rfl rfl rfl rfl ha rfl rfl
        · intro Q act_ wI hxI ha hp
          have xw_wI : Ext w wI := Ext.tr xw_w1 hxI
          replace ho := ho.ext hxI
          have ha := ha.add (show act_.tmps.getD 28 undef = .bool false from hp 11 (by kernel_rfl) (by decide))
          have ha := ha.add (show act_.tmps.getD 34 undef = undef from hp 17 (by kernel_rfl) (by decide))
          have ha := ha.add (show act_.tmps.getD 37 undef = undef from hp 20 (by kernel_rfl) (by decide))
          exact h_gskip rfl rfl rfl rfl ha rfl rfl
        · intro Q act_ wI hxI ha hp
          have xw_wI : Ext w wI := Ext.tr xw_w1 hxI
          replace ho := ho.ext hxI
          have ha := ha.add (show act_.tmps.getD 28 undef = .bool false from hp 11 (by kernel_rfl) (by decide))
          exact h_gskip rfl rfl rfl rfl ha rfl rfl
        · intro Q act_ wI hxI ha hp
          have xw_wI : Ext w wI := Ext.tr xw_w1 hxI
          replace ho := ho.ext hxI
          have ha := ha.add (show act_.tmps.getD 28 undef = .bool false from hp 11 (by kernel_rfl) (by decide))
          have ha := ha.add (show act_.tmps.getD 39 undef = undef from hp 22 (by kernel_rfl) (by decide))
          exact h_gskip rfl rfl rfl rfl ha rfl rfl
        · intro Q act_ wI hxI ha hp
          have xw_wI : Ext w wI := Ext.tr xw_w1 hxI
          replace ho := ho.ext hxI
          have ha := ha.add (show act_.tmps.getD 28 undef = .bool false from hp 11 (by kernel_rfl) (by decide))
          have ha := ha.add (show act_.tmps.getD 40 undef = undef from hp 23 (by kernel_rfl) (by decide))
          exact h_gskip rfl rfl rfl rfl ha rfl rfl
        · intro Q act_ wI hxI ha hp
          have xw_wI : Ext w wI := Ext.tr xw_w1 hxI
          replace ho := ho.ext hxI
          have ha := ha.add (show act_.tmps.getD 28 undef = .bool false from hp 11 (by kernel_rfl) (by decide))
          have ha := ha.add (show act_.tmps.getD 38 undef = undef from hp 21 (by kernel_rfl) (by decide))
          have ha := ha.add (show act_.tmps.getD 41 undef = undef from hp 24 (by kernel_rfl) (by decide))
          exact h_gskip rfl rfl rfl rfl ha rfl rfl
        · intro Q act_ wI hxI ha hp
          have xw_wI : Ext w wI := Ext.tr xw_w1 hxI
          replace ho := ho.ext hxI
          have ha := ha.add (show act_.tmps.getD 28 undef = .bool false from hp 11 (by kernel_rfl) (by decide))
          have ha := ha.add (show act_.tmps.getD 30 undef = undef from hp 13 (by kernel_rfl) (by decide))
          have ha := ha.add (show act_.tmps.getD 42 undef = undef from hp 25 (by kernel_rfl) (by decide))
          exact h_gskip rfl rfl rfl rfl ha rfl rfl
        · intro Q act_ wI hxI ha hp
          have xw_wI : Ext w wI := Ext.tr xw_w1 hxI
          replace ho := ho.ext hxI
          have ha := ha.add (show act_.tmps.getD 28 undef = .bool false from hp 11 (by kernel_rfl) (by decide))
          have ha := ha.add (show act_.tmps.getD 43 undef = undef from hp 26 (by kernel_rfl) (by decide))
          exact h_evA (v := .bool false) ha rfl (e_pickF rfl rfl rfl) rfl rfl (Ext.rfl' _)
        intro vs_ w11 hx_w11 hvs act_ ha hv
        have xw_w11 : Ext w w11 := Ext.tr xw_w1 hx_w11
        replace ho := ho.ext hx_w11
        have ha := ha.add ((hv 27 (by decide)).trans (show vs_ 27 = .bool false from hvs 27 (by decide)))
        refine st_go ha ?_
        clear ha hv hvs
        refine st_nil (nrm_k ?_)
        refine sc_no rfl rfl ?_
        refine sc_skip (nrm_k ?_)
        refine sc_reg ?_
        refine Go.XK.s (v := .int .i64 (i : Int)) (e_move rfl) ?_
        refine Go.XK.s (v := .int .i64 ((i : Int) + 1)) (e_add rfl rfl (by omega)) ?_
        refine Go.XK.s (v := .int .i64 ((i : Int) + 1)) (e_assign rfl) ?_
        refine sl_nil ?_
        exact nrm_loopq rfl _ _ (by omega) ⟨i + 1, v_, xs, rfl, rfl, xw_w11, ho, ⟨⟨by omega, by first | omega | (rw [List.length_append]; simp; omega)⟩, by rw [refL_take hx, ← hxs]; first | (rw [refE_yes (by assumption) (by assumption) (by assumption)]) | (rw [refE_no1 (by assumption), List.append_nil]) | (rw [refE_no2 (by assumption), List.append_nil]) | (rw [refE_no3 (by assumption), List.append_nil])⟩⟩ (.cons rfl (.cons rfl (.cons rfl (.nil))))
  ·
    refine sc_exit rfl (nrm_k ?_)
    refine sc_seq ?_
    refine sc_reg ?_
    refine Go.XK.s (v := v_) (e_move rfl) ?_
    refine Go.XK.s (v := v_) (e_assign rfl) ?_
    refine sl_nil (nrm_k ?_)
    refine sc_retf rfl (ret1 Try.results32 (rvt rfl) ?_)
    rw [List.take_of_length_le (show l.length ≤ i by omega)] at hxs
    rw [hxs] at ho
    exact ⟨ho, xw_w1⟩

end Go.Proofs.Ytnbclhbpjlpcoaa
