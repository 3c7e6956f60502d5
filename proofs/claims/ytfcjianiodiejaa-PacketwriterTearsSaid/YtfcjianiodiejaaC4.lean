/- Chapter 52: C4. Printed by my program wip/tools/wk.py. -/
import Derived.Test.YtfcjianiodiejaaMath2
set_option linter.unusedVariables false
set_option linter.unusedSimpArgs false
set_option maxRecDepth 4000
set_option maxHeartbeats 4000000
namespace Go.Proofs.Ytfcjianiodiejaa
open Go.XK Go.RowKit
/-- masterdisc/packetwriter.Record (function 14) -/
theorem record_c (im : Img) (A : Option Addr) (c : Nat) (ws : List Wr) (Aw : Option Addr) (cw : Nat) (w : World) (hl : SlR w A c 1 encS im) (hw : SlR w Aw cw 4 encW ws) (hin : Inn w ws) (hs : (stL ws).length ≤ 4611686018427387904) : CallR Try.prog 14 [.slice A im.length c, .slice Aw ws.length cw] w (fun v w' => ∃ v1, v = .tuple #[v1, .int .i64 (cutR im ws ((stL ws).length : Int)).2] ∧ Go.XK.Own w' w.heap.size 9 1 encS v1 (cutR im ws ((stL ws).length : Int)).1 ∧ Ext w w') := by
  refine callR_of (n := 13) [(0, .slice A im.length c), (1, .slice Aw ws.length cw)] Try.func14 rfl rfl (Nat.le_of_ble_eq_true rfl) rfl ?_
  refine sc_seq ?_
  refine sc_reg ?_
  refine Go.XK.s (v := .slice none 0 0) (e_assign rfl) ?_
  refine Go.XK.s (v := .int .i64 0) (e_assign rfl) ?_
  refine sl_nil (nrm_k ?_)
  refine sc_seq ?_
  refine sc_reg ?_
  refine Go.XK.s (v := .slice A im.length c) (e_move rfl) ?_
  refine Go.XK.s (v := .slice Aw ws.length cw) (e_move rfl) ?_
  refine Go.XK.s (v := .slice Aw ws.length cw) (e_move rfl) ?_
  refine sl_call ent19 rfl rfl (steps2_c _ _ _ w (hw.ext (Ext.rfl' w)) (hin.ext (Ext.rfl' w)) (by omega)) (by decide) ?_
  rintro _ w1 ⟨rfl, hw1⟩
  have xw_w1 : Ext w w1 := Ext.tr (Ext.rfl' w) hw1
  refine sl_call ent16 rfl rfl (cut_c _ _ _ _ _ _ _ w1 (hl.ext xw_w1) (hw.ext xw_w1) (hin.ext xw_w1)) (by decide) ?_
  rintro _ w2 ⟨vK1, rfl, hoK1, hw2⟩
  replace hoK1 := Own.low hoK1 (Below.size xw_w1)
  have xw_w2 : Ext w w2 := Ext.tr xw_w1 hw2
  refine Go.XK.s (v := vK1) (e_extract (vs := [vK1, .int .i64 ((cutR im ws ((stL ws).length : Int)).2)]) rfl rfl) ?_
  refine Go.XK.s (v := .int .i64 ((cutR im ws ((stL ws).length : Int)).2)) (e_extract (vs := [vK1, .int .i64 ((cutR im ws ((stL ws).length : Int)).2)]) rfl rfl) ?_
  refine Go.XK.s (v := vK1) (e_assign rfl) ?_
  refine Go.XK.s (v := .int .i64 ((cutR im ws ((stL ws).length : Int)).2)) (e_assign rfl) ?_
  refine sl_nil (nrm_k ?_)
  refine sc_retf rfl (ret2 Try.results14 (rvt rfl) (rvt rfl) ?_)
  exact ⟨_, rfl, hoK1, xw_w2⟩

/-- masterdisc/packetwriter.Once (function 20) -/
theorem once_c (im : Img) (A : Option Addr) (c : Nat) (ws : List Wr) (Aw : Option Addr) (cw : Nat) (w : World) (hl : SlR w A c 1 encS im) (hw : SlR w Aw cw 4 encW ws) (hin : Inn w ws) : CallR Try.prog 20 [.slice A im.length c, .slice Aw ws.length cw] w (fun v w' => v = .bool (onceR im ws) ∧ Ext w w') := by
  have hmx0 := hl.lenle
  simp only [maxLen] at hmx0
  have hmx1 := hw.lenle
  simp only [maxLen] at hmx1
  refine callR_ofM (n := 37) [(0, .slice A im.length c), (1, .slice Aw ws.length cw)] Try.func20 rfl rfl (Nat.le_of_ble_eq_true rfl) rfl ?_
  refine sc_seq ?_
  refine sc_reg ?_
  refine s_alloc (cs := [.bool false]) Try.zeroValue4 rfl ?_
  intro b4 w1 hb4 he4 hs4 hx4
  have ge_b4 : w.heap.size ≤ b4 := by have h_ := (Below.size (Ext.rfl' w)); omega
  have xw_w1 : Ext w w1 := Ext.tr (Ext.rfl' w) hx4
  refine sl_nil (nrm_k ?_)
  refine sc_seq ?_
  refine sc_seq ?_
  refine sc_reg ?_
  refine Go.XK.s (v := .slice A im.length c) (e_move rfl) ?_
  refine Go.XK.s (v := .slice Aw ws.length cw) (e_move rfl) ?_
  refine sl_call ent17 rfl rfl (valid_c _ _ _ _ _ _ w1 (hl.ext xw_w1) (hw.ext xw_w1) (hin.ext xw_w1)) (by decide) ?_
  rintro _ w2 ⟨rfl, hw2⟩
  have xw_w2 : Ext w w2 := Ext.tr xw_w1 hw2
  replace hb4 := hb4.ext hw2
  refine Go.XK.s (v := .bool (!(valid im ws))) (e_not rfl) ?_
  refine sl_nil (nrm_k ?_)
  refine sc_if rfl (fun c10 => ?_) (fun c10 => ?_)
  ·
    refine sc_seq ?_
    refine sc_reg ?_
    refine su_blkV [.bool false] [.bool false] rfl rfl hb4 rfl Try.sizeOf4 (Nat.le_of_ble_eq_true rfl) rfl rfl ?_
    intro w3 hn_ hm_w3 hs_w3
    have ho_ := hb4
    replace hb4 := hn_
    clear hn_
    have xw_w3 : Ext w w3 := below_mut xw_w2 (Below.size xw_w2) hm_w3 ge_b4
    refine sl_nil (nrm_k ?_)
    refine sc_retM rfl (ret1 Try.results20 (rvc rfl (load1 Try.isAgg4 (hb4.cell (j := 0) rfl))) ?_)
    exact ⟨congrArg Value.bool (by rw [onceR, show valid im ws = false by simpa using c10]; rfl), xw_w3⟩
  ·
    have hv : valid im ws = true := by simpa using c10
    obtain ⟨hm1, hm2, hm3, hokw⟩ := valid_spec hv
    have hmL := valid_len hv
    refine sc_skip (nrm_k ?_)
    refine sc_seq ?_
    refine sc_reg ?_
    refine Go.XK.s (v := .slice A im.length c) (e_move rfl) ?_
    refine sl_call ent57 rfl rfl (clone_c _ _ _ w2 (hl.ext xw_w2) (by omega)) (by decide) ?_
    rintro vC w4 ⟨hoC, hw4⟩
    replace hoC := Own.low hoC (Below.size xw_w2)
    have xw_w4 : Ext w w4 := Ext.tr xw_w2 hw4
    replace hb4 := hb4.ext hw4
    refine s_alloc (cs := [.slice none 0 0]) Try.zeroValue23 rfl ?_
    intro b5 w5 hb5 he5 hs5 hx5
    have ne_b5_b4 : b5 ≠ b4 := by have h_ := hb4.lt; omega
    have no_b5_hoC : Value.ownBlock vC ≠ some b5 := fun h_ => by have h2_ := (Go.XK.Own.lt hoC _ h_).2; omega
    have ge_b5 : w.heap.size ≤ b5 := by have h_ := (Below.size xw_w4); omega
    have xw_w5 : Ext w w5 := Ext.tr xw_w4 hx5
    replace hb4 := hb4.ext hx5
    replace hoC := hoC.ext hx5
    refine su_blkV [vC] [vC] rfl rfl hb5 (own_cells hoC).1 Try.sizeOf23 (Nat.le_of_ble_eq_true rfl) (own_cells hoC).2 rfl ?_
    intro w6 hn_ hm_w6 hs_w6
    have ho_ := hb5
    replace hb5 := hn_
    clear hn_
    replace hb4 := hb4.mut hm_w6 (Ne.symm ne_b5_b4)
    replace hoC := hoC.mut hm_w6 no_b5_hoC
    have xw_w6 : Ext w w6 := below_mut xw_w5 (Below.size xw_w5) hm_w6 ge_b5
    refine sl_nil (nrm_k ?_)
    refine sc_seq ?_
    refine sc_seq ?_
    refine sc_reg ?_
    refine Go.XK.s (v := .slice Aw ws.length cw) (e_move rfl) ?_
    refine sl_call ent58 rfl rfl (steps_c _ _ _ w6) (by decide) ?_
    rintro _ w7 ⟨b58, rfl, hb58, hg58, hw7⟩
    have ne_b58_b4 : b58 ≠ b4 := by have h_ := hb4.lt; omega
    have ne_b58_b5 : b58 ≠ b5 := by have h_ := hb5.lt; omega
    have ge_b58 : w.heap.size ≤ b58 := by have h_ := Below.size xw_w6; omega
    have xw_w7 : Ext w w7 := Ext.tr xw_w6 hw7
    replace hb4 := hb4.ext hw7
    replace hb5 := hb5.ext hw7
    replace hoC := hoC.ext hw7
    refine sl_nil (nrm_k ?_)
    refine sc_block ?_
    have hB5_ : w.heap.size ≤ w7.heap.size := Below.size xw_w7
    refine sc_rangeFx (α := StpIn (stL ws)) (β := Nat) (lb := [.pointer (some ⟨b58, 0, none⟩)]) (ps := [15]) (fun x => [.agg (encT x.1).toArray]) (KpT [24, 49] w.heap.size) (fun xs => raw xs = stL ws) (fun pre => raw pre <+: stL ws) ((stL ws).length) (fun (pre : List (StpIn (stL ws))) (W : World) => ∃ v : Value, Ext w W ∧ Go.XK.Own W w.heap.size 9 1 encS v (runL (raw pre) im) ∧ Blk W b4 4 [.bool false] ∧ Blk W b5 23 [v] ∧ Blk W b58 24 [.slice Aw ws.length cw] ∧ ∀ rest, onceL (raw pre ++ rest) im = onceL rest (runL (raw pre) im)) 99 (fun (pre : List (StpIn (stL ws))) (W : World) => Ext w W ∧ Blk W b4 4 [.bool false] ∧ ∀ rest, onceL (raw pre ++ rest) im = false) (fun _ _ => False) (fun x bx => [(6, .pointer (some ⟨bx, 0, none⟩)), (4, .pointer (some ⟨b4, 0, none⟩)), (5, .pointer (some ⟨b5, 0, none⟩))]) (fun x bx W => Blk W bx 101 [.int .i64 x.1.p, .string (B x.1.b), .bool x.1.cl] ∧ w.heap.size ≤ bx) rfl ent78 (iter_c ws Aw cw b58 w w7 hw hin xw_w7 hb58) (fun _ => rfl) (by decide) KpT.tr (KpT.put hB5_) (by rintro pre_ A_ B_ row_ ⟨v, xw_W, ho, hb4, hb5, hb58, hon⟩ hg_ hr_; exact ⟨v, ext_rowed xw_W hg_ hr_ hB5_, Go.XK.Own.rowed ho hg_ hr_, Blk.rowed hb4 hg_ hr_, Blk.rowed hb5 hg_ hr_, Blk.rowed hb58 hg_ hr_, hon⟩) (by rintro pre_ A_ B_ row_ ⟨xw_W, hb4, hno⟩ hg_ hr_; exact ⟨ext_rowed xw_W hg_ hr_ hB5_, Blk.rowed hb4 hg_ hr_, hno⟩) (fun _ _ _ _ h_ _ _ => h_.elim) (fun x b_ _ A_ B_ row_ h_ hg_ hr_ => ⟨h_.1.rowed hg_ hr_, h_.2⟩) ⟨vC, xw_w7, hoC, hb4, hb5, hb58, fun rest => rfl⟩ ?_ ?_ ?_ ?_ ?_
    · intro id pre x W hI_
      obtain ⟨v, xw_W, ho, hb4, hb5, hb58, hon⟩ := hI_
      refine sc_reg ?_
      refine s_alloc (cs := [.int .i64 0, .string (B []), .bool false]) Try.zeroValue101 rfl ?_
      intro b6 w8 hb6 he6 hs6 hx6
      have ne_b6_b4 : b6 ≠ b4 := by have h_ := hb4.lt; omega
      have ne_b6_b5 : b6 ≠ b5 := by have h_ := hb5.lt; omega
      have ne_b6_b58 : b6 ≠ b58 := by have h_ := hb58.lt; omega
      have no_b6_ho : Value.ownBlock v ≠ some b6 := fun h_ => by have h2_ := (Go.XK.Own.lt ho _ h_).2; omega
      have ge_b6 : w.heap.size ≤ b6 := by have h_ := (Below.size xw_W); omega
      have geW_b6 : W.heap.size ≤ b6 := by have h_ := (Below.size (Ext.rfl' W)); omega
      have xw_w8 : Ext w w8 := Ext.tr xw_W hx6
      have xW_w8 : Ext W w8 := Ext.tr (Ext.rfl' W) hx6
      have nW_w8 : NC W w8 := NC.tr (NC.rfl' W) (NC.ofExt hx6)
      replace hb4 := hb4.ext hx6
      replace hb5 := hb5.ext hx6
      replace hb58 := hb58.ext hx6
      replace ho := ho.ext hx6
      refine su_blkV [.int .i64 x.1.p, .string (B x.1.b), .bool x.1.cl] [.int .i64 x.1.p, .string (B x.1.b), .bool x.1.cl] rfl rfl hb6 rfl Try.sizeOf101 (Nat.le_of_ble_eq_true rfl) rfl rfl ?_
      intro w9 hn_ hm_w9 hs_w9
      have ho_ := hb6
      replace hb6 := hn_
      clear hn_
      replace hb4 := hb4.mut hm_w9 (Ne.symm ne_b6_b4)
      replace hb5 := hb5.mut hm_w9 (Ne.symm ne_b6_b5)
      replace hb58 := hb58.mut hm_w9 (Ne.symm ne_b6_b58)
      replace ho := ho.mut hm_w9 no_b6_ho
      have nW_w9 : NC W w9 := NC.tr nW_w8 (NC.ofMut hm_w9 ho_)
      have xw_w9 : Ext w w9 := below_mut xw_w8 (Below.size xw_w8) hm_w9 ge_b6
      have xW_w9 : Ext W w9 := below_mut xW_w8 (Below.size xW_w8) hm_w9 geW_b6
      exact sl_nil (fun a_ ha_ => ⟨NC.keeps nW_w9 _, KpT.ofExt xW_w9, ⟨v, xw_w9, ho, hb4, hb5, hb58, hon⟩, b6, ⟨hb6, ge_b6⟩, ha_.sub (.cons rfl (.cons rfl (.cons rfl (.nil))))⟩)
    · intro id pre x bx W hI_ hbx hlt
      obtain ⟨v, xw_W, ho, hb4, hb5, hb58, hon⟩ := hI_
      obtain ⟨hbx, ge_bx⟩ := hbx
      have ne_bx_b4 : bx ≠ b4 := by exact Blk.ne hbx hb4 (by decide)
      have ne_bx_b5 : bx ≠ b5 := by exact Blk.ne hbx hb5 (by decide)
      have ne_bx_b58 : bx ≠ b58 := by exact Blk.ne hbx hb58 (by decide)
      have hm4 := runL_length (raw pre) im (fun s_ hs_ hc_ => (okL_mem hokw (by obtain ⟨y_, _, rfl⟩ := List.mem_map.1 hs_; exact y_.2) hc_).2.1) hm1
      have hokx := okL_mem hokw x.2
      refine sc_block ?_
      refine sc_seq ?_
      refine sc_seq ?_
      refine sc_reg ?_
      refine Go.XK.s (v := .pointer (some ⟨bx, 2, none⟩)) (e_fieldB (sz := 1) Try.underlying101 rfl Try.sizeOf4 (by decide) rfl rfl) ?_
      refine Go.XK.s (v := .bool x.1.cl) (e_load rfl (load1 Try.isAgg4 (hbx.cell (j := 2) rfl))) ?_
      refine sl_nil (nrm_k ?_)
      refine sc_if rfl (fun c17 => ?_) (fun c17 => ?_)
      ·
        refine sc_exit rfl ?_
        have he_ : runL (raw (pre ++ [x])) im = runL (raw pre) im := by rw [raw_snoc, runL_snoc, putS, if_pos c17]
        rw [← he_] at ho
        have hon2 : ∀ rest, onceL (raw (pre ++ [x]) ++ rest) im = onceL rest (runL (raw (pre ++ [x])) im) := fun rest => by
          rw [he_, raw_snoc, List.append_assoc, hon]; exact once_close c17
        exact fun a_ ha_ => ⟨NC.keeps (NC.rfl' W) _, (KpT.rfl' W), ⟨v, xw_W, ho, hb4, hb5, hb58, hon2⟩⟩
      ·
        refine sc_skip (nrm_k ?_)
        refine sc_seq ?_
        refine sc_seq ?_
        obtain ⟨y, hyd⟩ : ∃ y, y = (runL (raw pre) im).getD x.1.p.toNat [] := ⟨_, rfl⟩
        refine sc_reg ?_
        refine Go.XK.s (v := .pointer (some ⟨bx, 0, none⟩)) (e_fieldB (sz := 1) Try.underlying101 rfl Try.sizeOf3 (by decide) rfl rfl) ?_
        refine Go.XK.s (v := .int .i64 x.1.p) (e_load rfl (load1 Try.isAgg3 (hbx.cell (j := 0) rfl))) ?_
        refine Go.XK.s (v := v) (e_load rfl (load1 Try.isAgg23 (hb5.cell (j := 0) rfl))) ?_
        refine Go.XK.s (v := .int .i64 ((runL (raw pre) im).length : Int)) (e_lenOwn Try.underlying23 rfl ho (fun _ => rfl)) ?_
        refine Go.XK.s (v := .bool (decide (x.1.p < ((runL (raw pre) im).length : Int)))) (e_lt rfl rfl) ?_
        refine Go.XK.s (v := .bool (decide (x.1.p < ((runL (raw pre) im).length : Int)))) (e_move rfl) ?_
        refine sl_merge 7 30 (.bool ((decide (x.1.p < ((runL (raw pre) im).length : Int))) && (decide (y ≠ [])))) ?_ ?_
        · refine sl_case (t := 23) rfl (fun g7_5 => ?_) (fun g7_5 => ?_)
          ·
            have hg_ := of_decide_eq_true g7_5
            have hp_ := hokx c17
            have hy : (runL (raw pre) im)[x.1.p.toNat]? = some y := by rw [hyd, List.getD_eq_getElem?_getD, List.getElem?_eq_getElem (by omega)]; rfl
            refine sl_gev (v := v) rfl rfl g7_5 (e_load rfl (load1 Try.isAgg23 (hb5.cell (j := 0) rfl))) rfl (by decide) ?_
            refine sl_gev (v := .pointer (some ⟨bx, 0, none⟩)) rfl rfl g7_5 (e_fieldB (sz := 1) Try.underlying101 rfl Try.sizeOf3 (by decide) rfl rfl) rfl (by decide) ?_
            refine sl_gev (v := .int .i64 x.1.p) rfl rfl g7_5 (e_load rfl (load1 Try.isAgg3 (hbx.cell (j := 0) rfl))) rfl (by decide) ?_
            refine sl_gev (v := .pointer (some (el (ownA v) 1 x.1.p 0))) rfl rfl g7_5 (e_idxOwn (x0 := y) Try.underlying23 Try.sizeOf9 rfl rfl ho (fun _ => rfl) hy (by omega)) rfl (by decide) ?_
            refine sl_gev (v := .string (B y)) rfl rfl g7_5 (e_ldEl (xs := runL (raw pre) im) (enc := encS) (e := y) rfl (Go.XK.Own.rd ho (fun _ => rfl)) hy Try.isAgg9 rfl) rfl (by decide) ?_
            refine sl_gev (v := .bool (decide (y ≠ []))) rfl rfl g7_5 (e_sne rfl rfl) rfl (by decide) ?_
            refine Go.XK.s (v := .bool (decide (y ≠ []))) (e_pickT rfl g7_5 rfl) ?_
            exact sl_nil (fun a ha => ⟨rfl, ha.sub (.cons (by rw [g7_5]; rfl) (sub_self_cons (sub_self_cons (sub_self_cons (sub_self_cons (sub_self_cons (sub_self_cons (sub_self_cons (Sub.refl _) rfl) rfl) rfl) rfl) rfl) rfl) rfl))⟩)
          ·
            refine sl_gskip rfl rfl g7_5 (by decide) ?_
            refine sl_gskip rfl rfl g7_5 (by decide) ?_
            refine sl_gskip rfl rfl g7_5 (by decide) ?_
            refine sl_gskip rfl rfl g7_5 (by decide) ?_
            refine sl_gskip rfl rfl g7_5 (by decide) ?_
            refine sl_gskip rfl rfl g7_5 (by decide) ?_
            refine Go.XK.s (v := .bool false) (e_pickF rfl g7_5 rfl) ?_
            exact sl_nil (fun a ha => ⟨rfl, ha.sub (.cons (by rw [g7_5]; rfl) (sub_self_cons (sub_self_cons (sub_self_cons (sub_self_cons (sub_self_cons (sub_self_cons (sub_self_cons (Sub.refl _) rfl) rfl) rfl) rfl) rfl) rfl) rfl))⟩)
        refine sl_nil (nrm_k ?_)
        refine sc_if rfl (fun c30 => ?_) (fun c30 => ?_)
        ·
          refine sc_seq ?_
          refine sc_reg ?_
          refine su_blkV [.bool false] [.bool false] rfl rfl hb4 rfl Try.sizeOf4 (Nat.le_of_ble_eq_true rfl) rfl rfl ?_
          intro w10 hn_ hm_w10 hs_w10
          have ho_ := hb4
          replace hb4 := hn_
          clear hn_
          replace hb5 := hb5.mut hm_w10 ne_b5_b4
          replace hb58 := hb58.mut hm_w10 ne_b58_b4
          replace hbx := hbx.mut hm_w10 ne_bx_b4
          replace ho := ho.mut hm_w10 (Own.ne ho ho_ (by decide))
          have nW_w10 : NC W w10 := NC.tr (NC.rfl' W) (NC.ofMut hm_w10 ho_)
          have kW_w10 : KpT [24, 49] w.heap.size W w10 := KpT.tr (KpT.rfl' W) (KpT.ofMut hm_w10 ho_ ge_b4 (by decide))
          have xw_w10 : Ext w w10 := below_mut xw_W (Below.size xw_W) hm_w10 ge_b4
          refine sl_nil (nrm_k ?_)
          refine sc_ret (fun a_ ha_ => ?_)
          exact ⟨NC.keeps nW_w10 _, ⟨xw_w10, hb4, (fun rest => by rw [raw_snoc, List.append_assoc, hon]; exact once_bad c17 (by rw [← hyd]; exact c30))⟩⟩
        ·
          refine sc_skip (nrm_k ?_)
          refine sc_reg ?_
          refine Go.XK.s (v := v) (e_load rfl (load1 Try.isAgg23 (hb5.cell (j := 0) rfl))) ?_
          refine Go.XK.s (v := .pointer (some ⟨bx, 0, none⟩)) (e_fieldB (sz := 1) Try.underlying101 rfl Try.sizeOf3 (by decide) rfl rfl) ?_
          refine Go.XK.s (v := .int .i64 x.1.p) (e_load rfl (load1 Try.isAgg3 (hbx.cell (j := 0) rfl))) ?_
          refine Go.XK.s (v := .pointer (some ⟨bx, 1, none⟩)) (e_fieldB (sz := 1) Try.underlying101 rfl Try.sizeOf9 (by decide) rfl rfl) ?_
          refine Go.XK.s (v := .string (B x.1.b)) (e_load rfl (load1 Try.isAgg9 (hbx.cell (j := 1) rfl))) ?_
          refine sl_call ent59 rfl rfl (put_c w _ _ _ _ W xw_W ho (by have h_ := hokx c17; omega) (by omega)) (by decide) ?_
          rintro vP w11 ⟨hoP, hgrP, hw11⟩
          have xw_w11 := hw11
          replace hb4 := hb4.grown hgrP.1 (Own.ne ho hb4 (by decide))
          replace hb5 := hb5.grown hgrP.1 (Own.ne ho hb5 (by decide))
          replace hb58 := hb58.grown hgrP.1 (Own.ne ho hb58 (by decide))
          replace hbx := hbx.grown hgrP.1 (Own.ne ho hbx (by decide))
          have nW_w11 : NC W w11 := NC.tr (NC.rfl' W) (NC.ofOwn ho hgrP.1)
          have kW_w11 : KpT [24, 49] w.heap.size W w11 := KpT.tr (KpT.rfl' W) (KpT.ofGrown ho hgrP.1 (Nat.le_refl _) (by decide))
          refine su_blkV [vP] [vP] rfl rfl hb5 (own_cells hoP).1 Try.sizeOf23 (Nat.le_of_ble_eq_true rfl) (own_cells hoP).2 rfl ?_
          intro w12 hn_ hm_w12 hs_w12
          have ho_ := hb5
          replace hb5 := hn_
          clear hn_
          replace hb4 := hb4.mut hm_w12 (Ne.symm ne_b5_b4)
          replace hb58 := hb58.mut hm_w12 ne_b58_b5
          replace hbx := hbx.mut hm_w12 ne_bx_b5
          replace hoP := hoP.mut hm_w12 (Own.ne hoP ho_ (by decide))
          have nW_w12 : NC W w12 := NC.tr nW_w11 (NC.ofMut hm_w12 ho_)
          have kW_w12 : KpT [24, 49] w.heap.size W w12 := KpT.tr kW_w11 (KpT.ofMut hm_w12 ho_ ge_b5 (by decide))
          have xw_w12 : Ext w w12 := below_mut xw_w11 (Below.size xw_w11) hm_w12 ge_b5
          refine sl_nil ?_
          have he_ : runL (raw (pre ++ [x])) im = putI (runL (raw pre) im) x.1.p x.1.b := by rw [raw_snoc, runL_snoc, putS, if_neg (by simp [c17])]
          rw [← he_] at hoP
          have hon2 : ∀ rest, onceL (raw (pre ++ [x]) ++ rest) im = onceL rest (runL (raw (pre ++ [x])) im) := fun rest => by
            rw [he_, raw_snoc, List.append_assoc, hon]; exact once_ok c17 (by rw [← hyd]; exact c30)
          exact fun a_ ha_ => ⟨NC.keeps nW_w12 _, kW_w12, ⟨vP, xw_w12, hoP, hb4, hb5, hb58, hon2⟩⟩
    · intro D xs W hDle hS hI_ hDD
      obtain ⟨v, xw_W, ho, hb4, hb5, hb58, hon⟩ := hI_
      refine nrm_k ?_
      refine sc_seq ?_
      refine sc_reg ?_
      refine su_blkV [.bool true] [.bool true] rfl rfl hb4 rfl Try.sizeOf4 (Nat.le_of_ble_eq_true rfl) rfl rfl ?_
      intro w13 hn_ hm_w13 hs_w13
      have ho_ := hb4
      replace hb4 := hn_
      clear hn_
      replace hb5 := hb5.mut hm_w13 ne_b5_b4
      replace hb58 := hb58.mut hm_w13 ne_b58_b4
      replace ho := ho.mut hm_w13 (Own.ne ho ho_ (by decide))
      have nW_w13 : NC W w13 := NC.tr (NC.rfl' W) (NC.ofMut hm_w13 ho_)
      have xw_w13 : Ext w w13 := below_mut xw_W (Below.size xw_W) hm_w13 ge_b4
      refine sl_nil (nrm_k ?_)
      replace hDD := nW_w13.2 _ _ hDD rfl
      obtain ⟨wz, hwz⟩ : ∃ wz, wz = World.putObj w13 D (.deferred none) := ⟨_, rfl⟩
      have hmz : Mut w13 wz D := by rw [hwz]; exact mut_put _ _ _
      replace hb4 := hb4.mut hmz (hb4.ne_of hDD rfl)
      replace hb5 := hb5.mut hmz (hb5.ne_of hDD rfl)
      replace hb58 := hb58.mut hmz (hb58.ne_of hDD rfl)
      replace ho := Go.XK.Own.mut ho hmz (own_ne_of ho hDD rfl)
      have xw_wz : Ext w wz := below_mut xw_w13 (Below.size xw_w13) hmz (Nat.le_trans hB5_ hDle)
      refine sc_retMk rfl hDD ?_
      rw [← hwz]
      refine ret1 Try.results20 (rvc rfl (load1 Try.isAgg4 (hb4.cell (j := 0) rfl))) ?_
      first
        | (have h_ := hon []
           rw [hS, List.append_nil] at h_
           exact ⟨congrArg Value.bool (by rw [onceR, hv, h_]; rfl), xw_wz⟩)
        | (obtain ⟨r_, hr_⟩ := hS
           have h_ := hno r_
           rw [hr_] at h_
           exact ⟨congrArg Value.bool (by rw [onceR, hv, h_]; rfl), xw_wz⟩)
    · intro D pre W hDle hS hI_ hDD
      obtain ⟨xw_W, hb4, hno⟩ := hI_
      replace hDD := (NC.rfl' W).2 _ _ hDD rfl
      obtain ⟨wz, hwz⟩ : ∃ wz, wz = World.putObj W D (.deferred none) := ⟨_, rfl⟩
      have hmz : Mut W wz D := by rw [hwz]; exact mut_put _ _ _
      replace hb4 := hb4.mut hmz (hb4.ne_of hDD rfl)
      have xw_wz : Ext w wz := below_mut xw_W (Below.size xw_W) hmz (Nat.le_trans hB5_ hDle)
      refine fin_markq rfl hDD ?_
      rw [← hwz]
      refine ret1 Try.results20 (rvc rfl (load1 Try.isAgg4 (hb4.cell (j := 0) rfl))) ?_
      first
        | (have h_ := hon []
           rw [hS, List.append_nil] at h_
           exact ⟨congrArg Value.bool (by rw [onceR, hv, h_]; rfl), xw_wz⟩)
        | (obtain ⟨r_, hr_⟩ := hS
           have h_ := hno r_
           rw [hr_] at h_
           exact ⟨congrArg Value.bool (by rw [onceR, hv, h_]; rfl), xw_wz⟩)
    · intro D pre W hDle hS hI_ hDD
      exact hI_.elim

end Go.Proofs.Ytfcjianiodiejaa
