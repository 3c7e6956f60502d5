/- Chapter 27: C3. Printed by my program wip/tools/wk.py. -/
import Derived.Test.YtlgkjpmaekkpjaaC2
import Derived.Test.YtlgkjpmaekkpjaaC3a
set_option linter.unusedVariables false
set_option linter.unusedSimpArgs false
set_option maxRecDepth 4000
set_option maxHeartbeats 1000000
namespace Go.Proofs.Ytlgkjpmaekkpjaa
open Go.XK Go.RowKit
/-- slices.Index[[]int,int] (function 64) -/
theorem index_c (l : List Int) (A : Option Addr) (c : Nat) (n : Int) (w : World) (hl : Rd w A 1 encI l) (hc : l.length ≤ 1099511627776) : CallR Try.prog 64 [.slice A l.length c, .int .i64 n] w (fun v w' => ∃ r : Int, v = .int .i64 r ∧ (0 ≤ r ↔ n ∈ l) ∧ Ext w w') := by
  refine callR_of (n := 19) [(0, .slice A l.length c), (1, .int .i64 n)] Try.func64 rfl rfl (Nat.le_of_ble_eq_true rfl) rfl ?_
  refine sc_seq ?_
  refine sc_reg ?_
  refine Go.XK.s (v := .int .i64 0) (e_assign rfl) ?_
  refine sl_nil (nrm_k ?_)
  refine sc_seq ?_
  refine sc_seq ?_
  refine sc_reg ?_
  refine Go.XK.s (v := .slice A l.length c) (e_move rfl) ?_
  refine Go.XK.s (v := .int .i64 (l.length : Int)) (e_len Try.underlying78 rfl) ?_
  refine Go.XK.s (v := .int .i64 0) (e_move rfl) ?_
  refine sl_nil (nrm_k ?_)
  refine sc_block ?_
  refine sc_loop (fun m_ l_ w_ => ∃ (k : Nat), m_ = l.length - k ∧ l_ = [(8, .int .i64 (k : Int)), (0, .slice A l.length c), (1, .int .i64 n), (7, .int .i64 (l.length : Int))] ∧ Ext w w_ ∧ k ≤ l.length ∧ ∀ (j : Nat), j < k → l[j]? ≠ some n) _ [(8, .int .i64 (0 : Int)), (0, .slice A l.length c), (1, .int .i64 n), (7, .int .i64 (l.length : Int))] ⟨0, rfl, rfl, (Ext.rfl' w), ⟨Nat.zero_le _, fun j hj => by omega⟩⟩ (.cons rfl (.cons rfl (.cons rfl (.cons rfl (.nil))))) ?_
  rintro j2 _ w1 ⟨k, rfl, rfl, xw_w1, ⟨hk, hno⟩⟩
  refine sc_seq ?_
  refine sc_reg ?_
  refine Go.XK.s (v := .bool (decide ((k : Int) < (l.length : Int)))) (e_lt rfl rfl) ?_
  refine sl_nil (nrm_k ?_)
  refine sc_seq ?_
  refine sc_ifd rfl (fun c9 => ?_) (fun c9 => ?_)
  ·
    obtain ⟨x, hx⟩ : ∃ x, l[k]? = some x := ⟨_, List.getElem?_eq_getElem (by omega)⟩
    refine sc_skip (nrm_k ?_)
    refine sc_seq ?_
    refine sc_block ?_
    refine sc_seq ?_
    refine sc_reg ?_
    refine Go.XK.s (v := .int .i64 (k : Int)) (e_move rfl) ?_
    refine Go.XK.s (v := .int .i64 (k : Int)) (e_assign rfl) ?_
    refine sl_nil (nrm_k ?_)
    refine sc_seq ?_
    refine sc_reg ?_
    refine Go.XK.s (v := .int .i64 n) (e_move rfl) ?_
    refine Go.XK.s (v := .slice A l.length c) (e_move rfl) ?_
    refine Go.XK.s (v := .int .i64 (k : Int)) (e_move rfl) ?_
    refine Go.XK.s (v := .pointer (some (el A 1 (k : Int) 0))) (e_idxEl (e := x) Try.underlying78 Try.sizeOf3 rfl rfl (hl.ext xw_w1) hx (by omega) rfl) ?_
    refine Go.XK.s (v := .int .i64 x) (e_ldEl (xs := l) (enc := encI) (e := x) rfl (hl.ext xw_w1) hx Try.isAgg3 rfl) ?_
    refine Go.XK.s (v := .bool (decide (n = x))) (e_eq rfl rfl) ?_
    refine sl_nil (nrm_k ?_)
    refine sc_ifd rfl (fun c16 => ?_) (fun c16 => ?_)
    ·
      refine sc_seq ?_
      refine sc_reg ?_
      refine Go.XK.s (v := .int .i64 (k : Int)) (e_move rfl) ?_
      refine Go.XK.s (v := .int .i64 (k : Int)) (e_assign rfl) ?_
      refine sl_nil (nrm_k ?_)
      refine sc_retf rfl (ret1 Try.results64 (rvt rfl) ?_)
      exact ⟨_, rfl, ⟨fun _ => by rw [c16]; exact List.mem_of_getElem? hx, fun _ => by omega⟩, xw_w1⟩
    ·
      refine sc_skip (nrm_k ?_)
      refine sc_reg ?_
      refine Go.XK.s (v := .int .i64 ((k : Int) + 1)) (e_add rfl rfl (by omega)) ?_
      refine Go.XK.s (v := .int .i64 ((k : Int) + 1)) (e_move rfl) ?_
      refine sl_nil ?_
      exact nrm_loopq rfl _ _ (by omega) ⟨k + 1, rfl, rfl, xw_w1, ⟨by omega, fun j hj he => by
        rcases Nat.lt_or_ge j k with h_ | h_
        · exact hno j h_ he
        · rw [show j = k from by omega, hx] at he; exact c16 (Option.some.inj he).symm⟩⟩ (.cons rfl (.cons rfl (.cons rfl (.cons rfl (.nil)))))
  ·
    refine sc_exit rfl (nrm_k ?_)
    refine sc_seq ?_
    refine sc_reg ?_
    refine Go.XK.s (v := .int .i64 (-1)) (e_assign rfl) ?_
    refine sl_nil (nrm_k ?_)
    refine sc_retf rfl (ret1 Try.results64 (rvt rfl) ?_)
    exact ⟨_, rfl, ⟨fun h_ => by omega, fun h_ => by
      obtain ⟨j, hj⟩ := List.getElem?_of_mem h_
      exact absurd hj (hno j (by
        have := (List.getElem?_eq_some_iff.1 hj).1; omega))⟩, xw_w1⟩

/-- slices.Contains[[]int,int] (function 50) -/
theorem contains_c (l : List Int) (A : Option Addr) (c : Nat) (n : Int) (w : World) (hl : Rd w A 1 encI l) (hc : l.length ≤ 1099511627776) : CallR Try.prog 50 [.slice A l.length c, .int .i64 n] w (fun v w' => v = .bool (decide (n ∈ l)) ∧ Ext w w') := by
  refine callR_of (n := 9) [(0, .slice A l.length c), (1, .int .i64 n)] Try.func50 rfl rfl (Nat.le_of_ble_eq_true rfl) rfl ?_
  refine sc_seq ?_
  refine sc_reg ?_
  refine Go.XK.s (v := .bool false) (e_assign rfl) ?_
  refine sl_nil (nrm_k ?_)
  refine sc_seq ?_
  refine sc_reg ?_
  refine Go.XK.s (v := .slice A l.length c) (e_move rfl) ?_
  refine Go.XK.s (v := .int .i64 n) (e_move rfl) ?_
  refine sl_call ent64 rfl rfl (index_c _ _ _ _ w (hl.ext (Ext.rfl' w)) (by omega)) (by decide) ?_
  rintro _ w1 ⟨r, rfl, hr, hw1⟩
  have xw_w1 : Ext w w1 := Ext.tr (Ext.rfl' w) hw1
  refine Go.XK.s (v := .bool (decide ((0 : Int) ≤ r))) (e_ge rfl rfl) ?_
  refine Go.XK.s (v := .bool (decide ((0 : Int) ≤ r))) (e_assign rfl) ?_
  refine sl_nil (nrm_k ?_)
  refine sc_retf rfl (ret1 Try.results50 (rvt rfl) ?_)
  exact ⟨congrArg Value.bool (decide_eq_decide.2 hr), xw_w1⟩

/-- masterdisc/eltorito.isPlatform (function 34) -/
theorem plat_c (n : Int) (w : World) : CallR Try.prog 34 [.int .i64 n] w (fun v w' => v = .bool (plat n) ∧ Ext w w') := by
  refine callR_of (n := 6) [(0, .int .i64 n)] Try.func34 rfl rfl (Nat.le_of_ble_eq_true rfl) rfl ?_
  refine sc_seq ?_
  refine sc_reg ?_
  refine Go.XK.s (v := .bool false) (e_assign rfl) ?_
  refine sl_nil (nrm_k ?_)
  refine sc_seq ?_
  refine sc_reg ?_
  refine s_bslice (vs := [(0, .int .i64 0), (1, .int .i64 1), (2, .int .i64 2), (3, .int .i64 239)]) (e := 3) rfl [.int .i64 0, .int .i64 1, .int .i64 2, .int .i64 239] (by kernel_rfl) ?_
  intro b3 w1 hb3 he3 hs3 hx3
  have ge_b3 : w.heap.size ≤ b3 := by have h_ := (Below.size (Ext.rfl' w)); omega
  have xw_w1 : Ext w w1 := Ext.tr (Ext.rfl' w) hx3
  refine Go.XK.s (v := .int .i64 n) (e_move rfl) ?_
  refine sl_call ent50 rfl rfl (contains_c [0, 1, 2, 239] _ _ _ w1 (Rd.ofBlk (xs := [0, 1, 2, 239]) hb3 (fun _ => rfl)) (by decide)) (by decide) ?_
  rintro _ w2 ⟨rfl, hw2⟩
  have xw_w2 : Ext w w2 := Ext.tr xw_w1 hw2
  replace hb3 := hb3.ext hw2
  refine Go.XK.s (v := .bool (decide (n ∈ ([0, 1, 2, 239] : List Int)))) (e_assign rfl) ?_
  refine sl_nil (nrm_k ?_)
  refine sc_retf rfl (ret1 Try.results34 (rvt rfl) ?_)
  exact ⟨congrArg Value.bool (by simp [plat, Bool.or_assoc]), xw_w2⟩

/-- masterdisc/eltorito.isValid (function 21) -/
theorem valid_c (x : Img) (w : World) : CallR Try.prog 21 [.agg #[.int .i64 x.P, .int .i64 x.M, .int .i64 x.S, .int .i64 x.C, .int .i64 x.L, .bool x.b]] w (fun v w' => v = .bool x.valid ∧ Ext w w') := by
  refine callR_of (n := 31) [(0, .agg #[.int .i64 x.P, .int .i64 x.M, .int .i64 x.S, .int .i64 x.C, .int .i64 x.L, .bool x.b])] Try.func21 rfl rfl (Nat.le_of_ble_eq_true rfl) rfl ?_
  refine sc_seq ?_
  refine sc_reg ?_
  refine s_box (cs := [.int .i64 x.P, .int .i64 x.M, .int .i64 x.S, .int .i64 x.C, .int .i64 x.L, .bool x.b]) rfl rfl ?_
  intro b1 w1 hb1 he1 hs1 hx1
  have ge_b1 : w.heap.size ≤ b1 := by have h_ := (Below.size (Ext.rfl' w)); omega
  have xw_w1 : Ext w w1 := Ext.tr (Ext.rfl' w) hx1
  refine Go.XK.s (v := .bool false) (e_assign rfl) ?_
  refine sl_nil (nrm_k ?_)
  refine sc_seq ?_
  refine sc_reg ?_
  refine Go.XK.s (v := .func (.func 43) #[] #[]) (e_assign rfl) ?_
  refine sl_nil (nrm_k ?_)
  refine sc_seq ?_
  refine sc_reg ?_
  refine Go.XK.s (v := .pointer (some ⟨b1, 0, none⟩)) (e_fieldB (sz := 1) Try.underlying34 rfl Try.sizeOf3 (by decide) rfl rfl) ?_
  refine Go.XK.s (v := .int .i64 x.P) (e_load rfl (load1 Try.isAgg3 (hb1.cell (j := 0) rfl))) ?_
  refine sl_call ent34 rfl rfl (plat_c _ w1) (by decide) ?_
  rintro _ w2 ⟨rfl, hw2⟩
  have xw_w2 : Ext w w2 := Ext.tr xw_w1 hw2
  replace hb1 := hb1.ext hw2
  refine Go.XK.s (v := .bool (plat x.P)) (e_move rfl) ?_
  refine sl_mergeW 5 12 (.bool ((plat x.P) && (inR x.M 4))) (fun w_ => Ext w2 w_) ?_ (fun w3 hw3 => ?_)
  · refine sl_case (t := 7) rfl (fun g2_3 => ?_) (fun g2_3 => ?_)
    ·
      refine sl_gev (v := .func (.func 43) #[] #[]) rfl rfl g2_3 (e_move rfl) rfl (by decide) ?_
      refine sl_gev (v := .pointer (some ⟨b1, 1, none⟩)) rfl rfl g2_3 (e_fieldB (sz := 1) Try.underlying34 rfl Try.sizeOf3 (by decide) rfl rfl) rfl (by decide) ?_
      refine sl_gev (v := .int .i64 x.M) rfl rfl g2_3 (e_load rfl (load1 Try.isAgg3 (hb1.cell (j := 1) rfl))) rfl (by decide) ?_
      refine sl_gcall rfl rfl g2_3 ent43 rfl rfl (inR_c _ _ w2) (by decide) ?_
      rintro _ w4 ⟨rfl, hw4⟩
      have xw_w4 : Ext w w4 := Ext.tr xw_w2 hw4
      have xw2_w4 : Ext w2 w4 := Ext.tr (Ext.rfl' w2) hw4
      replace hb1 := hb1.ext hw4
      refine Go.XK.s (v := .bool (inR x.M 4)) (e_pickT rfl g2_3 rfl) ?_
      exact sl_nil (fun a ha => ⟨xw2_w4, ha.sub (.cons (by rw [g2_3]; rfl) (sub_self_cons (sub_self_cons (sub_self_cons (sub_self_cons (sub_self_cons (Sub.refl _) rfl) rfl) rfl) rfl) rfl))⟩)
    ·
      refine sl_gskip rfl rfl g2_3 (by decide) ?_
      refine sl_gskip rfl rfl g2_3 (by decide) ?_
      refine sl_gskip rfl rfl g2_3 (by decide) ?_
      refine sl_gskip rfl rfl g2_3 (by decide) ?_
      refine Go.XK.s (v := .bool false) (e_pickF rfl g2_3 rfl) ?_
      exact sl_nil (fun a ha => ⟨(Ext.rfl' w2), ha.sub (.cons (by rw [g2_3]; rfl) (sub_self_cons (sub_self_cons (sub_self_cons (sub_self_cons (sub_self_cons (Sub.refl _) rfl) rfl) rfl) rfl) rfl))⟩)
  have xw_w3 : Ext w w3 := Ext.tr xw_w2 hw3
  replace hb1 := hb1.ext hw3
  refine Go.XK.s (v := .bool ((plat x.P) && (inR x.M 4))) (e_move rfl) ?_
  refine sl_mergeW 5 18 (.bool (((plat x.P) && (inR x.M 4)) && (inR x.S 65535))) (fun w_ => Ext w3 w_) ?_ (fun w5 hw5 => ?_)
  · refine sl_case (t := 13) rfl (fun g2_9 => ?_) (fun g2_9 => ?_)
    ·
      refine sl_gev (v := .func (.func 43) #[] #[]) rfl rfl g2_9 (e_move rfl) rfl (by decide) ?_
      refine sl_gev (v := .pointer (some ⟨b1, 2, none⟩)) rfl rfl g2_9 (e_fieldB (sz := 1) Try.underlying34 rfl Try.sizeOf3 (by decide) rfl rfl) rfl (by decide) ?_
      refine sl_gev (v := .int .i64 x.S) rfl rfl g2_9 (e_load rfl (load1 Try.isAgg3 (hb1.cell (j := 2) rfl))) rfl (by decide) ?_
      refine sl_gcall rfl rfl g2_9 ent43 rfl rfl (inR_c _ _ w3) (by decide) ?_
      rintro _ w6 ⟨rfl, hw6⟩
      have xw_w6 : Ext w w6 := Ext.tr xw_w3 hw6
      have xw3_w6 : Ext w3 w6 := Ext.tr (Ext.rfl' w3) hw6
      replace hb1 := hb1.ext hw6
      refine Go.XK.s (v := .bool (inR x.S 65535)) (e_pickT rfl g2_9 rfl) ?_
      exact sl_nil (fun a ha => ⟨xw3_w6, ha.sub (.cons (by rw [g2_9]; rfl) (sub_self_cons (sub_self_cons (sub_self_cons (sub_self_cons (sub_self_cons (Sub.refl _) rfl) rfl) rfl) rfl) rfl))⟩)
    ·
      refine sl_gskip rfl rfl g2_9 (by decide) ?_
      refine sl_gskip rfl rfl g2_9 (by decide) ?_
      refine sl_gskip rfl rfl g2_9 (by decide) ?_
      refine sl_gskip rfl rfl g2_9 (by decide) ?_
      refine Go.XK.s (v := .bool false) (e_pickF rfl g2_9 rfl) ?_
      exact sl_nil (fun a ha => ⟨(Ext.rfl' w3), ha.sub (.cons (by rw [g2_9]; rfl) (sub_self_cons (sub_self_cons (sub_self_cons (sub_self_cons (sub_self_cons (Sub.refl _) rfl) rfl) rfl) rfl) rfl))⟩)
  have xw_w5 : Ext w w5 := Ext.tr xw_w3 hw5
  replace hb1 := hb1.ext hw5
  refine Go.XK.s (v := .bool (((plat x.P) && (inR x.M 4)) && (inR x.S 65535))) (e_move rfl) ?_
  refine sl_mergeW 5 24 (.bool ((((plat x.P) && (inR x.M 4)) && (inR x.S 65535)) && (inR x.C 65535))) (fun w_ => Ext w5 w_) ?_ (fun w7 hw7 => ?_)
  · refine sl_case (t := 19) rfl (fun g2_15 => ?_) (fun g2_15 => ?_)
    ·
      refine sl_gev (v := .func (.func 43) #[] #[]) rfl rfl g2_15 (e_move rfl) rfl (by decide) ?_
      refine sl_gev (v := .pointer (some ⟨b1, 3, none⟩)) rfl rfl g2_15 (e_fieldB (sz := 1) Try.underlying34 rfl Try.sizeOf3 (by decide) rfl rfl) rfl (by decide) ?_
      refine sl_gev (v := .int .i64 x.C) rfl rfl g2_15 (e_load rfl (load1 Try.isAgg3 (hb1.cell (j := 3) rfl))) rfl (by decide) ?_
      refine sl_gcall rfl rfl g2_15 ent43 rfl rfl (inR_c _ _ w5) (by decide) ?_
      rintro _ w8 ⟨rfl, hw8⟩
      have xw_w8 : Ext w w8 := Ext.tr xw_w5 hw8
      have xw5_w8 : Ext w5 w8 := Ext.tr (Ext.rfl' w5) hw8
      replace hb1 := hb1.ext hw8
      refine Go.XK.s (v := .bool (inR x.C 65535)) (e_pickT rfl g2_15 rfl) ?_
      exact sl_nil (fun a ha => ⟨xw5_w8, ha.sub (.cons (by rw [g2_15]; rfl) (sub_self_cons (sub_self_cons (sub_self_cons (sub_self_cons (sub_self_cons (Sub.refl _) rfl) rfl) rfl) rfl) rfl))⟩)
    ·
      refine sl_gskip rfl rfl g2_15 (by decide) ?_
      refine sl_gskip rfl rfl g2_15 (by decide) ?_
      refine sl_gskip rfl rfl g2_15 (by decide) ?_
      refine sl_gskip rfl rfl g2_15 (by decide) ?_
      refine Go.XK.s (v := .bool false) (e_pickF rfl g2_15 rfl) ?_
      exact sl_nil (fun a ha => ⟨(Ext.rfl' w5), ha.sub (.cons (by rw [g2_15]; rfl) (sub_self_cons (sub_self_cons (sub_self_cons (sub_self_cons (sub_self_cons (Sub.refl _) rfl) rfl) rfl) rfl) rfl))⟩)
  have xw_w7 : Ext w w7 := Ext.tr xw_w5 hw7
  replace hb1 := hb1.ext hw7
  refine Go.XK.s (v := .bool ((((plat x.P) && (inR x.M 4)) && (inR x.S 65535)) && (inR x.C 65535))) (e_move rfl) ?_
  refine sl_mergeW 5 30 (.bool (((((plat x.P) && (inR x.M 4)) && (inR x.S 65535)) && (inR x.C 65535)) && (inR x.L 4294967295))) (fun w_ => Ext w7 w_) ?_ (fun w9 hw9 => ?_)
  · refine sl_case (t := 25) rfl (fun g2_21 => ?_) (fun g2_21 => ?_)
    ·
      refine sl_gev (v := .func (.func 43) #[] #[]) rfl rfl g2_21 (e_move rfl) rfl (by decide) ?_
      refine sl_gev (v := .pointer (some ⟨b1, 4, none⟩)) rfl rfl g2_21 (e_fieldB (sz := 1) Try.underlying34 rfl Try.sizeOf3 (by decide) rfl rfl) rfl (by decide) ?_
      refine sl_gev (v := .int .i64 x.L) rfl rfl g2_21 (e_load rfl (load1 Try.isAgg3 (hb1.cell (j := 4) rfl))) rfl (by decide) ?_
      refine sl_gcall rfl rfl g2_21 ent43 rfl rfl (inR_c _ _ w7) (by decide) ?_
      rintro _ w10 ⟨rfl, hw10⟩
      have xw_w10 : Ext w w10 := Ext.tr xw_w7 hw10
      have xw7_w10 : Ext w7 w10 := Ext.tr (Ext.rfl' w7) hw10
      replace hb1 := hb1.ext hw10
      refine Go.XK.s (v := .bool (inR x.L 4294967295)) (e_pickT rfl g2_21 rfl) ?_
      exact sl_nil (fun a ha => ⟨xw7_w10, ha.sub (.cons (by rw [g2_21]; rfl) (sub_self_cons (sub_self_cons (sub_self_cons (sub_self_cons (sub_self_cons (Sub.refl _) rfl) rfl) rfl) rfl) rfl))⟩)
    ·
      refine sl_gskip rfl rfl g2_21 (by decide) ?_
      refine sl_gskip rfl rfl g2_21 (by decide) ?_
      refine sl_gskip rfl rfl g2_21 (by decide) ?_
      refine sl_gskip rfl rfl g2_21 (by decide) ?_
      refine Go.XK.s (v := .bool false) (e_pickF rfl g2_21 rfl) ?_
      exact sl_nil (fun a ha => ⟨(Ext.rfl' w7), ha.sub (.cons (by rw [g2_21]; rfl) (sub_self_cons (sub_self_cons (sub_self_cons (sub_self_cons (sub_self_cons (Sub.refl _) rfl) rfl) rfl) rfl) rfl))⟩)
  have xw_w9 : Ext w w9 := Ext.tr xw_w7 hw9
  replace hb1 := hb1.ext hw9
  refine Go.XK.s (v := .bool (((((plat x.P) && (inR x.M 4)) && (inR x.S 65535)) && (inR x.C 65535)) && (inR x.L 4294967295))) (e_assign rfl) ?_
  refine sl_nil (nrm_k ?_)
  refine sc_retf rfl (ret1 Try.results21 (rvt rfl) ?_)
  exact ⟨rfl, xw_w9⟩

/-- masterdisc/eltorito.Encode$1 (function 20) -/
theorem invalid_c (x : Img) (w : World) : CallR Try.prog 20 [.agg #[.int .i64 x.P, .int .i64 x.M, .int .i64 x.S, .int .i64 x.C, .int .i64 x.L, .bool x.b]] w (fun v w' => v = .bool (!x.valid) ∧ Ext w w') := by
  refine callR_of (n := 6) [(0, .agg #[.int .i64 x.P, .int .i64 x.M, .int .i64 x.S, .int .i64 x.C, .int .i64 x.L, .bool x.b])] Try.func20 rfl rfl (Nat.le_of_ble_eq_true rfl) rfl ?_
  refine sc_seq ?_
  refine sc_reg ?_
  refine s_box (cs := [.int .i64 x.P, .int .i64 x.M, .int .i64 x.S, .int .i64 x.C, .int .i64 x.L, .bool x.b]) rfl rfl ?_
  intro b1 w1 hb1 he1 hs1 hx1
  have ge_b1 : w.heap.size ≤ b1 := by have h_ := (Below.size (Ext.rfl' w)); omega
  have xw_w1 : Ext w w1 := Ext.tr (Ext.rfl' w) hx1
  refine Go.XK.s (v := .bool false) (e_assign rfl) ?_
  refine sl_nil (nrm_k ?_)
  refine sc_seq ?_
  refine sc_reg ?_
  refine Go.XK.s (v := .agg #[.int .i64 x.P, .int .i64 x.M, .int .i64 x.S, .int .i64 x.C, .int .i64 x.L, .bool x.b]) (e_load rfl (hb1.loadA Try.isAgg34 Try.sizeOf34 rfl)) ?_
  refine sl_call ent21 rfl rfl (valid_c x w1) (by decide) ?_
  rintro _ w2 ⟨rfl, hw2⟩
  have xw_w2 : Ext w w2 := Ext.tr xw_w1 hw2
  replace hb1 := hb1.ext hw2
  refine Go.XK.s (v := .bool (!x.valid)) (e_not rfl) ?_
  refine Go.XK.s (v := .bool (!x.valid)) (e_assign rfl) ?_
  refine sl_nil (nrm_k ?_)
  refine sc_retf rfl (ret1 Try.results20 (rvt rfl) ?_)
  exact ⟨rfl, xw_w2⟩

/-- masterdisc/masterdiscref27.Valid (function 29) -/
theorem rvalid_c (x : Img) (w : World) : CallR Try.prog 29 [.agg #[.int .i64 x.P, .int .i64 x.M, .int .i64 x.S, .int .i64 x.C, .int .i64 x.L, .bool x.b]] w (fun v w' => v = .bool x.valid ∧ Ext w w') := by
  refine callR_of (n := 46) [(0, .agg #[.int .i64 x.P, .int .i64 x.M, .int .i64 x.S, .int .i64 x.C, .int .i64 x.L, .bool x.b])] Try.func29 rfl rfl (Nat.le_of_ble_eq_true rfl) rfl ?_
  refine sc_seq ?_
  refine sc_reg ?_
  refine s_box (cs := [.int .i64 x.P, .int .i64 x.M, .int .i64 x.S, .int .i64 x.C, .int .i64 x.L, .bool x.b]) rfl rfl ?_
  intro b1 w1 hb1 he1 hs1 hx1
  have ge_b1 : w.heap.size ≤ b1 := by have h_ := (Below.size (Ext.rfl' w)); omega
  have xw_w1 : Ext w w1 := Ext.tr (Ext.rfl' w) hx1
  refine Go.XK.s (v := .bool false) (e_assign rfl) ?_
  refine sl_nil (nrm_k ?_)
  refine sc_seq ?_
  refine sc_reg ?_
  refine Go.XK.s (v := .pointer (some ⟨b1, 0, none⟩)) (e_fieldB (sz := 1) Try.underlying34 rfl Try.sizeOf3 (by decide) rfl rfl) ?_
  refine Go.XK.s (v := .int .i64 x.P) (e_load rfl (load1 Try.isAgg3 (hb1.cell (j := 0) rfl))) ?_
  refine sl_call ent36 rfl rfl (rplat_c _ w1) (by decide) ?_
  rintro _ w2 ⟨rfl, hw2⟩
  have xw_w2 : Ext w w2 := Ext.tr xw_w1 hw2
  replace hb1 := hb1.ext hw2
  refine Go.XK.s (v := .bool (plat x.P)) (e_move rfl) ?_
  refine sl_merge 4 10 (.bool ((plat x.P) && (decide ((0 : Int) ≤ x.M)))) ?_ ?_
  · refine sl_case (t := 6) rfl (fun g1_3 => ?_) (fun g1_3 => ?_)
    ·
      refine sl_gev (v := .pointer (some ⟨b1, 1, none⟩)) rfl rfl g1_3 (e_fieldB (sz := 1) Try.underlying34 rfl Try.sizeOf3 (by decide) rfl rfl) rfl (by decide) ?_
      refine sl_gev (v := .int .i64 x.M) rfl rfl g1_3 (e_load rfl (load1 Try.isAgg3 (hb1.cell (j := 1) rfl))) rfl (by decide) ?_
      refine sl_gev (v := .bool (decide ((0 : Int) ≤ x.M))) rfl rfl g1_3 (e_ge rfl rfl) rfl (by decide) ?_
      refine Go.XK.s (v := .bool (decide ((0 : Int) ≤ x.M))) (e_pickT rfl g1_3 rfl) ?_
      exact sl_nil (fun a ha => ⟨rfl, ha.sub (.cons (by rw [g1_3]; rfl) (sub_self_cons (sub_self_cons (sub_self_cons (sub_self_cons (Sub.refl _) rfl) rfl) rfl) rfl))⟩)
    ·
      refine sl_gskip rfl rfl g1_3 (by decide) ?_
      refine sl_gskip rfl rfl g1_3 (by decide) ?_
      refine sl_gskip rfl rfl g1_3 (by decide) ?_
      refine Go.XK.s (v := .bool false) (e_pickF rfl g1_3 rfl) ?_
      exact sl_nil (fun a ha => ⟨rfl, ha.sub (.cons (by rw [g1_3]; rfl) (sub_self_cons (sub_self_cons (sub_self_cons (sub_self_cons (Sub.refl _) rfl) rfl) rfl) rfl))⟩)
  refine Go.XK.s (v := .bool ((plat x.P) && (decide ((0 : Int) ≤ x.M)))) (e_move rfl) ?_
  refine sl_merge 4 15 (.bool (((plat x.P) && (decide ((0 : Int) ≤ x.M))) && (decide (x.M ≤ 4)))) ?_ ?_
  · refine sl_case (t := 11) rfl (fun g1_8 => ?_) (fun g1_8 => ?_)
    ·
      refine sl_gev (v := .pointer (some ⟨b1, 1, none⟩)) rfl rfl g1_8 (e_fieldB (sz := 1) Try.underlying34 rfl Try.sizeOf3 (by decide) rfl rfl) rfl (by decide) ?_
      refine sl_gev (v := .int .i64 x.M) rfl rfl g1_8 (e_load rfl (load1 Try.isAgg3 (hb1.cell (j := 1) rfl))) rfl (by decide) ?_
      refine sl_gev (v := .bool (decide (x.M ≤ 4))) rfl rfl g1_8 (e_le rfl rfl) rfl (by decide) ?_
      refine Go.XK.s (v := .bool (decide (x.M ≤ 4))) (e_pickT rfl g1_8 rfl) ?_
      exact sl_nil (fun a ha => ⟨rfl, ha.sub (.cons (by rw [g1_8]; rfl) (sub_self_cons (sub_self_cons (sub_self_cons (sub_self_cons (Sub.refl _) rfl) rfl) rfl) rfl))⟩)
    ·
      refine sl_gskip rfl rfl g1_8 (by decide) ?_
      refine sl_gskip rfl rfl g1_8 (by decide) ?_
      refine sl_gskip rfl rfl g1_8 (by decide) ?_
      refine Go.XK.s (v := .bool false) (e_pickF rfl g1_8 rfl) ?_
      exact sl_nil (fun a ha => ⟨rfl, ha.sub (.cons (by rw [g1_8]; rfl) (sub_self_cons (sub_self_cons (sub_self_cons (sub_self_cons (Sub.refl _) rfl) rfl) rfl) rfl))⟩)
  refine Go.XK.s (v := .bool (((plat x.P) && (decide ((0 : Int) ≤ x.M))) && (decide (x.M ≤ 4)))) (e_move rfl) ?_
  refine sl_merge 4 20 (.bool ((((plat x.P) && (decide ((0 : Int) ≤ x.M))) && (decide (x.M ≤ 4))) && (decide ((0 : Int) ≤ x.S)))) ?_ ?_
  · refine sl_case (t := 16) rfl (fun g1_13 => ?_) (fun g1_13 => ?_)
    ·
      refine sl_gev (v := .pointer (some ⟨b1, 2, none⟩)) rfl rfl g1_13 (e_fieldB (sz := 1) Try.underlying34 rfl Try.sizeOf3 (by decide) rfl rfl) rfl (by decide) ?_
      refine sl_gev (v := .int .i64 x.S) rfl rfl g1_13 (e_load rfl (load1 Try.isAgg3 (hb1.cell (j := 2) rfl))) rfl (by decide) ?_
      refine sl_gev (v := .bool (decide ((0 : Int) ≤ x.S))) rfl rfl g1_13 (e_ge rfl rfl) rfl (by decide) ?_
      refine Go.XK.s (v := .bool (decide ((0 : Int) ≤ x.S))) (e_pickT rfl g1_13 rfl) ?_
      exact sl_nil (fun a ha => ⟨rfl, ha.sub (.cons (by rw [g1_13]; rfl) (sub_self_cons (sub_self_cons (sub_self_cons (sub_self_cons (Sub.refl _) rfl) rfl) rfl) rfl))⟩)
    ·
      refine sl_gskip rfl rfl g1_13 (by decide) ?_
      refine sl_gskip rfl rfl g1_13 (by decide) ?_
      refine sl_gskip rfl rfl g1_13 (by decide) ?_
      refine Go.XK.s (v := .bool false) (e_pickF rfl g1_13 rfl) ?_
      exact sl_nil (fun a ha => ⟨rfl, ha.sub (.cons (by rw [g1_13]; rfl) (sub_self_cons (sub_self_cons (sub_self_cons (sub_self_cons (Sub.refl _) rfl) rfl) rfl) rfl))⟩)
  refine Go.XK.s (v := .bool ((((plat x.P) && (decide ((0 : Int) ≤ x.M))) && (decide (x.M ≤ 4))) && (decide ((0 : Int) ≤ x.S)))) (e_move rfl) ?_
  refine sl_merge 4 25 (.bool (((((plat x.P) && (decide ((0 : Int) ≤ x.M))) && (decide (x.M ≤ 4))) && (decide ((0 : Int) ≤ x.S))) && (decide (x.S ≤ 65535)))) ?_ ?_
  · refine sl_case (t := 21) rfl (fun g1_18 => ?_) (fun g1_18 => ?_)
    ·
      refine sl_gev (v := .pointer (some ⟨b1, 2, none⟩)) rfl rfl g1_18 (e_fieldB (sz := 1) Try.underlying34 rfl Try.sizeOf3 (by decide) rfl rfl) rfl (by decide) ?_
      refine sl_gev (v := .int .i64 x.S) rfl rfl g1_18 (e_load rfl (load1 Try.isAgg3 (hb1.cell (j := 2) rfl))) rfl (by decide) ?_
      refine sl_gev (v := .bool (decide (x.S ≤ 65535))) rfl rfl g1_18 (e_le rfl rfl) rfl (by decide) ?_
      refine Go.XK.s (v := .bool (decide (x.S ≤ 65535))) (e_pickT rfl g1_18 rfl) ?_
      exact sl_nil (fun a ha => ⟨rfl, ha.sub (.cons (by rw [g1_18]; rfl) (sub_self_cons (sub_self_cons (sub_self_cons (sub_self_cons (Sub.refl _) rfl) rfl) rfl) rfl))⟩)
    ·
      refine sl_gskip rfl rfl g1_18 (by decide) ?_
      refine sl_gskip rfl rfl g1_18 (by decide) ?_
      refine sl_gskip rfl rfl g1_18 (by decide) ?_
      refine Go.XK.s (v := .bool false) (e_pickF rfl g1_18 rfl) ?_
      exact sl_nil (fun a ha => ⟨rfl, ha.sub (.cons (by rw [g1_18]; rfl) (sub_self_cons (sub_self_cons (sub_self_cons (sub_self_cons (Sub.refl _) rfl) rfl) rfl) rfl))⟩)
  refine Go.XK.s (v := .bool (((((plat x.P) && (decide ((0 : Int) ≤ x.M))) && (decide (x.M ≤ 4))) && (decide ((0 : Int) ≤ x.S))) && (decide (x.S ≤ 65535)))) (e_move rfl) ?_
  refine sl_merge 4 30 (.bool ((((((plat x.P) && (decide ((0 : Int) ≤ x.M))) && (decide (x.M ≤ 4))) && (decide ((0 : Int) ≤ x.S))) && (decide (x.S ≤ 65535))) && (decide ((0 : Int) ≤ x.C)))) ?_ ?_
  · refine sl_case (t := 26) rfl (fun g1_23 => ?_) (fun g1_23 => ?_)
    ·
      refine sl_gev (v := .pointer (some ⟨b1, 3, none⟩)) rfl rfl g1_23 (e_fieldB (sz := 1) Try.underlying34 rfl Try.sizeOf3 (by decide) rfl rfl) rfl (by decide) ?_
      refine sl_gev (v := .int .i64 x.C) rfl rfl g1_23 (e_load rfl (load1 Try.isAgg3 (hb1.cell (j := 3) rfl))) rfl (by decide) ?_
      refine sl_gev (v := .bool (decide ((0 : Int) ≤ x.C))) rfl rfl g1_23 (e_ge rfl rfl) rfl (by decide) ?_
      refine Go.XK.s (v := .bool (decide ((0 : Int) ≤ x.C))) (e_pickT rfl g1_23 rfl) ?_
      exact sl_nil (fun a ha => ⟨rfl, ha.sub (.cons (by rw [g1_23]; rfl) (sub_self_cons (sub_self_cons (sub_self_cons (sub_self_cons (Sub.refl _) rfl) rfl) rfl) rfl))⟩)
    ·
      refine sl_gskip rfl rfl g1_23 (by decide) ?_
      refine sl_gskip rfl rfl g1_23 (by decide) ?_
      refine sl_gskip rfl rfl g1_23 (by decide) ?_
      refine Go.XK.s (v := .bool false) (e_pickF rfl g1_23 rfl) ?_
      exact sl_nil (fun a ha => ⟨rfl, ha.sub (.cons (by rw [g1_23]; rfl) (sub_self_cons (sub_self_cons (sub_self_cons (sub_self_cons (Sub.refl _) rfl) rfl) rfl) rfl))⟩)
  refine Go.XK.s (v := .bool ((((((plat x.P) && (decide ((0 : Int) ≤ x.M))) && (decide (x.M ≤ 4))) && (decide ((0 : Int) ≤ x.S))) && (decide (x.S ≤ 65535))) && (decide ((0 : Int) ≤ x.C)))) (e_move rfl) ?_
  refine sl_merge 4 35 (.bool (((((((plat x.P) && (decide ((0 : Int) ≤ x.M))) && (decide (x.M ≤ 4))) && (decide ((0 : Int) ≤ x.S))) && (decide (x.S ≤ 65535))) && (decide ((0 : Int) ≤ x.C))) && (decide (x.C ≤ 65535)))) ?_ ?_
  · refine sl_case (t := 31) rfl (fun g1_28 => ?_) (fun g1_28 => ?_)
    ·
      refine sl_gev (v := .pointer (some ⟨b1, 3, none⟩)) rfl rfl g1_28 (e_fieldB (sz := 1) Try.underlying34 rfl Try.sizeOf3 (by decide) rfl rfl) rfl (by decide) ?_
      refine sl_gev (v := .int .i64 x.C) rfl rfl g1_28 (e_load rfl (load1 Try.isAgg3 (hb1.cell (j := 3) rfl))) rfl (by decide) ?_
      refine sl_gev (v := .bool (decide (x.C ≤ 65535))) rfl rfl g1_28 (e_le rfl rfl) rfl (by decide) ?_
      refine Go.XK.s (v := .bool (decide (x.C ≤ 65535))) (e_pickT rfl g1_28 rfl) ?_
      exact sl_nil (fun a ha => ⟨rfl, ha.sub (.cons (by rw [g1_28]; rfl) (sub_self_cons (sub_self_cons (sub_self_cons (sub_self_cons (Sub.refl _) rfl) rfl) rfl) rfl))⟩)
    ·
      refine sl_gskip rfl rfl g1_28 (by decide) ?_
      refine sl_gskip rfl rfl g1_28 (by decide) ?_
      refine sl_gskip rfl rfl g1_28 (by decide) ?_
      refine Go.XK.s (v := .bool false) (e_pickF rfl g1_28 rfl) ?_
      exact sl_nil (fun a ha => ⟨rfl, ha.sub (.cons (by rw [g1_28]; rfl) (sub_self_cons (sub_self_cons (sub_self_cons (sub_self_cons (Sub.refl _) rfl) rfl) rfl) rfl))⟩)
  refine Go.XK.s (v := .bool (((((((plat x.P) && (decide ((0 : Int) ≤ x.M))) && (decide (x.M ≤ 4))) && (decide ((0 : Int) ≤ x.S))) && (decide (x.S ≤ 65535))) && (decide ((0 : Int) ≤ x.C))) && (decide (x.C ≤ 65535)))) (e_move rfl) ?_
  refine sl_merge 4 40 (.bool ((((((((plat x.P) && (decide ((0 : Int) ≤ x.M))) && (decide (x.M ≤ 4))) && (decide ((0 : Int) ≤ x.S))) && (decide (x.S ≤ 65535))) && (decide ((0 : Int) ≤ x.C))) && (decide (x.C ≤ 65535))) && (decide ((0 : Int) ≤ x.L)))) ?_ ?_
  · refine sl_case (t := 36) rfl (fun g1_33 => ?_) (fun g1_33 => ?_)
    ·
      refine sl_gev (v := .pointer (some ⟨b1, 4, none⟩)) rfl rfl g1_33 (e_fieldB (sz := 1) Try.underlying34 rfl Try.sizeOf3 (by decide) rfl rfl) rfl (by decide) ?_
      refine sl_gev (v := .int .i64 x.L) rfl rfl g1_33 (e_load rfl (load1 Try.isAgg3 (hb1.cell (j := 4) rfl))) rfl (by decide) ?_
      refine sl_gev (v := .bool (decide ((0 : Int) ≤ x.L))) rfl rfl g1_33 (e_ge rfl rfl) rfl (by decide) ?_
      refine Go.XK.s (v := .bool (decide ((0 : Int) ≤ x.L))) (e_pickT rfl g1_33 rfl) ?_
      exact sl_nil (fun a ha => ⟨rfl, ha.sub (.cons (by rw [g1_33]; rfl) (sub_self_cons (sub_self_cons (sub_self_cons (sub_self_cons (Sub.refl _) rfl) rfl) rfl) rfl))⟩)
    ·
      refine sl_gskip rfl rfl g1_33 (by decide) ?_
      refine sl_gskip rfl rfl g1_33 (by decide) ?_
      refine sl_gskip rfl rfl g1_33 (by decide) ?_
      refine Go.XK.s (v := .bool false) (e_pickF rfl g1_33 rfl) ?_
      exact sl_nil (fun a ha => ⟨rfl, ha.sub (.cons (by rw [g1_33]; rfl) (sub_self_cons (sub_self_cons (sub_self_cons (sub_self_cons (Sub.refl _) rfl) rfl) rfl) rfl))⟩)
  refine Go.XK.s (v := .bool ((((((((plat x.P) && (decide ((0 : Int) ≤ x.M))) && (decide (x.M ≤ 4))) && (decide ((0 : Int) ≤ x.S))) && (decide (x.S ≤ 65535))) && (decide ((0 : Int) ≤ x.C))) && (decide (x.C ≤ 65535))) && (decide ((0 : Int) ≤ x.L)))) (e_move rfl) ?_
  refine sl_merge 4 45 (.bool (((((((((plat x.P) && (decide ((0 : Int) ≤ x.M))) && (decide (x.M ≤ 4))) && (decide ((0 : Int) ≤ x.S))) && (decide (x.S ≤ 65535))) && (decide ((0 : Int) ≤ x.C))) && (decide (x.C ≤ 65535))) && (decide ((0 : Int) ≤ x.L))) && (decide (x.L ≤ 4294967295)))) ?_ ?_
  · refine sl_case (t := 41) rfl (fun g1_38 => ?_) (fun g1_38 => ?_)
    ·
      refine sl_gev (v := .pointer (some ⟨b1, 4, none⟩)) rfl rfl g1_38 (e_fieldB (sz := 1) Try.underlying34 rfl Try.sizeOf3 (by decide) rfl rfl) rfl (by decide) ?_
      refine sl_gev (v := .int .i64 x.L) rfl rfl g1_38 (e_load rfl (load1 Try.isAgg3 (hb1.cell (j := 4) rfl))) rfl (by decide) ?_
      refine sl_gev (v := .bool (decide (x.L ≤ 4294967295))) rfl rfl g1_38 (e_le rfl rfl) rfl (by decide) ?_
      refine Go.XK.s (v := .bool (decide (x.L ≤ 4294967295))) (e_pickT rfl g1_38 rfl) ?_
      exact sl_nil (fun a ha => ⟨rfl, ha.sub (.cons (by rw [g1_38]; rfl) (sub_self_cons (sub_self_cons (sub_self_cons (sub_self_cons (Sub.refl _) rfl) rfl) rfl) rfl))⟩)
    ·
      refine sl_gskip rfl rfl g1_38 (by decide) ?_
      refine sl_gskip rfl rfl g1_38 (by decide) ?_
      refine sl_gskip rfl rfl g1_38 (by decide) ?_
      refine Go.XK.s (v := .bool false) (e_pickF rfl g1_38 rfl) ?_
      exact sl_nil (fun a ha => ⟨rfl, ha.sub (.cons (by rw [g1_38]; rfl) (sub_self_cons (sub_self_cons (sub_self_cons (sub_self_cons (Sub.refl _) rfl) rfl) rfl) rfl))⟩)
  refine Go.XK.s (v := .bool (((((((((plat x.P) && (decide ((0 : Int) ≤ x.M))) && (decide (x.M ≤ 4))) && (decide ((0 : Int) ≤ x.S))) && (decide (x.S ≤ 65535))) && (decide ((0 : Int) ≤ x.C))) && (decide (x.C ≤ 65535))) && (decide ((0 : Int) ≤ x.L))) && (decide (x.L ≤ 4294967295)))) (e_assign rfl) ?_
  refine sl_nil (nrm_k ?_)
  refine sc_retf rfl (ret1 Try.results29 (rvt rfl) ?_)
  exact ⟨congrArg Value.bool (by simp only [Img.valid, inR, Bool.and_assoc]), xw_w2⟩

/-- slices.IndexFunc[[]masterdisc/api.BootImage,masterdisc/api.BootImage] (function 42) -/
theorem indexF_c (l : List Img) (A : Option Addr) (c : Nat) (w : World) (hl : Rd w A 6 Img.enc l) (hc : l.length ≤ 1099511627776) : CallR Try.prog 42 [.slice A l.length c, .func (.func 20) #[] #[]] w (fun v w' => ∃ r : Int, v = .int .i64 r ∧ (0 ≤ r ↔ l.all Img.valid = false) ∧ Ext w w') := by
  refine callR_of (n := 19) [(0, .slice A l.length c), (1, .func (.func 20) #[] #[])] Try.func42 rfl rfl (Nat.le_of_ble_eq_true rfl) rfl ?_
  refine sc_seq ?_
  refine sc_reg ?_
  refine Go.XK.s (v := .int .i64 0) (e_assign rfl) ?_
  refine sl_nil (nrm_k ?_)
  refine sc_seq ?_
  refine sc_seq ?_
  refine sc_reg ?_
  refine Go.XK.s (v := .slice A l.length c) (e_move rfl) ?_
  refine Go.XK.s (v := .int .i64 (l.length : Int)) (e_len Try.underlying22 rfl) ?_
  refine Go.XK.s (v := .int .i64 0) (e_move rfl) ?_
  refine sl_nil (nrm_k ?_)
  refine sc_block ?_
  refine sc_loop (fun m_ l_ w_ => ∃ (k : Nat), m_ = l.length - k ∧ l_ = [(8, .int .i64 (k : Int)), (0, .slice A l.length c), (1, .func (.func 20) #[] #[]), (7, .int .i64 (l.length : Int))] ∧ Ext w w_ ∧ k ≤ l.length ∧ ∀ (j : Nat) (y : Img), j < k → l[j]? = some y → y.valid = true) _ [(8, .int .i64 (0 : Int)), (0, .slice A l.length c), (1, .func (.func 20) #[] #[]), (7, .int .i64 (l.length : Int))] ⟨0, rfl, rfl, (Ext.rfl' w), ⟨Nat.zero_le _, fun j _ hj => by omega⟩⟩ (.cons rfl (.cons rfl (.cons rfl (.cons rfl (.nil))))) ?_
  rintro j2 _ w1 ⟨k, rfl, rfl, xw_w1, ⟨hk, hno⟩⟩
  refine sc_seq ?_
  refine sc_reg ?_
  refine Go.XK.s (v := .bool (decide ((k : Int) < (l.length : Int)))) (e_lt rfl rfl) ?_
  refine sl_nil (nrm_k ?_)
  refine sc_seq ?_
  refine sc_ifd rfl (fun c9 => ?_) (fun c9 => ?_)
  ·
    obtain ⟨x, hx⟩ : ∃ x, l[k]? = some x := ⟨_, List.getElem?_eq_getElem (by omega)⟩
    refine sc_skip (nrm_k ?_)
    refine sc_seq ?_
    refine sc_block ?_
    refine sc_seq ?_
    refine sc_reg ?_
    refine Go.XK.s (v := .int .i64 (k : Int)) (e_move rfl) ?_
    refine Go.XK.s (v := .int .i64 (k : Int)) (e_assign rfl) ?_
    refine sl_nil (nrm_k ?_)
    refine sc_seq ?_
    refine sc_reg ?_
    refine Go.XK.s (v := .func (.func 20) #[] #[]) (e_move rfl) ?_
    refine Go.XK.s (v := .slice A l.length c) (e_move rfl) ?_
    refine Go.XK.s (v := .int .i64 (k : Int)) (e_move rfl) ?_
    refine Go.XK.s (v := .pointer (some (el A 6 (k : Int) 0))) (e_idxEl (e := x) Try.underlying22 Try.sizeOf34 rfl rfl (hl.ext xw_w1) hx (by omega) rfl) ?_
    refine Go.XK.s (v := .agg #[.int .i64 x.P, .int .i64 x.M, .int .i64 x.S, .int .i64 x.C, .int .i64 x.L, .bool x.b]) (e_ldElA (xs := l) (enc := Img.enc) (e := x) rfl (hl.ext xw_w1) hx Try.isAgg34 Try.sizeOf34 rfl) ?_
    refine sl_call ent20 rfl rfl (invalid_c x w1) (by decide) ?_
    rintro _ w3 ⟨rfl, hw3⟩
    have xw_w3 : Ext w w3 := Ext.tr xw_w1 hw3
    refine sl_nil (nrm_k ?_)
    refine sc_if rfl (fun c16 => ?_) (fun c16 => ?_)
    ·
      refine sc_seq ?_
      refine sc_reg ?_
      refine Go.XK.s (v := .int .i64 (k : Int)) (e_move rfl) ?_
      refine Go.XK.s (v := .int .i64 (k : Int)) (e_assign rfl) ?_
      refine sl_nil (nrm_k ?_)
      refine sc_retf rfl (ret1 Try.results42 (rvt rfl) ?_)
      exact ⟨_, rfl, ⟨fun _ => by
        rw [List.all_eq_false]; exact ⟨x, List.mem_of_getElem? hx, by simpa using c16⟩, fun _ => by omega⟩, xw_w3⟩
    ·
      refine sc_skip (nrm_k ?_)
      refine sc_reg ?_
      refine Go.XK.s (v := .int .i64 ((k : Int) + 1)) (e_add rfl rfl (by omega)) ?_
      refine Go.XK.s (v := .int .i64 ((k : Int) + 1)) (e_move rfl) ?_
      refine sl_nil ?_
      exact nrm_loopq rfl _ _ (by omega) ⟨k + 1, rfl, rfl, xw_w3, ⟨by omega, fun j y hj he => by
        rcases Nat.lt_or_ge j k with h_ | h_
        · exact hno j y h_ he
        · rw [show j = k from by omega, hx] at he; cases he; simpa using c16⟩⟩ (.cons rfl (.cons rfl (.cons rfl (.cons rfl (.nil)))))
  ·
    refine sc_exit rfl (nrm_k ?_)
    refine sc_seq ?_
    refine sc_reg ?_
    refine Go.XK.s (v := .int .i64 (-1)) (e_assign rfl) ?_
    refine sl_nil (nrm_k ?_)
    refine sc_retf rfl (ret1 Try.results42 (rvt rfl) ?_)
    exact ⟨_, rfl, ⟨fun h_ => by omega, fun h_ => by
      rw [List.all_eq_false] at h_
      obtain ⟨y, hm, hy⟩ := h_
      obtain ⟨j, hj⟩ := List.getElem?_of_mem hm
      exact absurd (hno j y (by
        have := (List.getElem?_eq_some_iff.1 hj).1; omega) hj) hy⟩, xw_w1⟩

/-- slices.ContainsFunc[[]masterdisc/api.BootImage,masterdisc/api.BootImage] (function 19) -/
theorem containsF_c (l : List Img) (A : Option Addr) (c : Nat) (w : World) (hl : Rd w A 6 Img.enc l) (hc : l.length ≤ 1099511627776) : CallR Try.prog 19 [.slice A l.length c, .func (.func 20) #[] #[]] w (fun v w' => v = .bool (!l.all Img.valid) ∧ Ext w w') := by
  refine callR_of (n := 9) [(0, .slice A l.length c), (1, .func (.func 20) #[] #[])] Try.func19 rfl rfl (Nat.le_of_ble_eq_true rfl) rfl ?_
  refine sc_seq ?_
  refine sc_reg ?_
  refine Go.XK.s (v := .bool false) (e_assign rfl) ?_
  refine sl_nil (nrm_k ?_)
  refine sc_seq ?_
  refine sc_reg ?_
  refine Go.XK.s (v := .slice A l.length c) (e_move rfl) ?_
  refine Go.XK.s (v := .func (.func 20) #[] #[]) (e_move rfl) ?_
  refine sl_call ent42 rfl rfl (indexF_c _ _ _ w (hl.ext (Ext.rfl' w)) (by omega)) (by decide) ?_
  rintro _ w1 ⟨r, rfl, hr, hw1⟩
  have xw_w1 : Ext w w1 := Ext.tr (Ext.rfl' w) hw1
  refine Go.XK.s (v := .bool (decide ((0 : Int) ≤ r))) (e_ge rfl rfl) ?_
  refine Go.XK.s (v := .bool (decide ((0 : Int) ≤ r))) (e_assign rfl) ?_
  refine sl_nil (nrm_k ?_)
  refine sc_retf rfl (ret1 Try.results19 (rvt rfl) ?_)
  exact ⟨congrArg Value.bool (by rw [Bool.eq_iff_iff]; simp only [decide_eq_true_eq, Bool.not_eq_true', hr]), xw_w1⟩

end Go.Proofs.Ytlgkjpmaekkpjaa
