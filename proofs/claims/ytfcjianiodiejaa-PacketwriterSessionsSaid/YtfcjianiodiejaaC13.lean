/- Chapter 52: C13. Printed by my program wip/tools/wk.py. -/
import Derived.Test.YtfcjianiodiejaaC12
import Derived.Test.YtfcjianiodiejaaMath6
set_option linter.unusedVariables false
set_option linter.unusedSimpArgs false
set_option maxRecDepth 4000
set_option maxHeartbeats 4000000
namespace Go.Proofs.Ytfcjianiodiejaa
open Go.XK Go.RowKit
/-- slices.Clone[[]masterdisc/api.Session,masterdisc/api.Session] (function 66) -/
theorem clonex_c (ss : List Ses) (As : Option Addr) (cs : Nat) (w : World) (hs : SlR w As cs 3 encX ss) (him : ss.length ≤ 1000000) : CallR Try.prog 66 [.slice As ss.length cs] w (fun v w' => Go.XK.Own w' w.heap.size 65 3 encX v ss ∧ Ext w w') := by
  refine callR_of (n := 8) [(0, .slice As ss.length cs)] Try.func66 rfl rfl (Nat.le_of_ble_eq_true rfl) rfl ?_
  refine sc_seq ?_
  refine sc_reg ?_
  refine Go.XK.s (v := .slice none 0 0) (e_assign rfl) ?_
  refine sl_nil (nrm_k ?_)
  refine sc_seq ?_
  refine sc_seq ?_
  refine sc_reg ?_
  refine Go.XK.s (v := .slice As ss.length cs) (e_move rfl) ?_
  refine Go.XK.s (v := .bool (decide (As = none))) (e_sleqnil Try.underlying53 rfl rfl) ?_
  refine sl_nil (nrm_k ?_)
  refine sc_ifd rfl (fun c4 => ?_) (fun c4 => ?_)
  ·
    refine sc_seq ?_
    refine sc_reg ?_
    refine Go.XK.s (v := .slice none 0 0) (e_assign rfl) ?_
    refine sl_nil (nrm_k ?_)
    refine sc_retf rfl (ret1 Try.results66 (rvt rfl) ?_)
    obtain ⟨rfl, rfl⟩ := hs.none_ c4
    exact ⟨Go.XK.Own.nil _ _ _ _ _, (Ext.rfl' w)⟩
  ·
    refine sc_skip (nrm_k ?_)
    refine sc_seq ?_
    refine sc_reg ?_
    refine s_bslice (vs := []) (e := 65) rfl [] (by kernel_rfl) ?_
    intro b5 w1 hb5 he5 hs5 hx5
    have ge_b5 : w.heap.size ≤ b5 := by have h_ := (Below.size (Ext.rfl' w)); omega
    have xw_w1 : Ext w w1 := Ext.tr (Ext.rfl' w) hx5
    have ho5 : Go.XK.Own w1 w.heap.size 65 3 encX (.slice (some ⟨b5, 0, none⟩) 0 0) [] := Go.XK.Own.ofBlk (xs := []) hb5 ge_b5 (fun _ => rfl) (by simp)
    refine Go.XK.s (v := .slice As ss.length cs) (e_move rfl) ?_
    refine s_appendRd (w0 := w) (z := .agg #[.int .i64 0, .int .i64 0, .bool false]) (kk := 3) (bytes := 24) rfl rfl Try.underlying53 (by kernel_rfl) rfl (by decide) (fun _ => rfl) one_encX ss ho5 xw_w1 (hs.ext xw_w1) rfl (by simp only [maxLen, List.length_nil]; omega) (by simp only [maxLen, List.length_nil]; omega) ?_
    intro v7 w2 ho7 xw_w2 hg7 hat7
    rw [List.nil_append] at ho7
    refine Go.XK.s (v := v7) (e_assign rfl) ?_
    refine sl_nil (nrm_k ?_)
    refine sc_retf rfl (ret1 Try.results66 (rvt rfl) ?_)
    exact ⟨ho7, xw_w2⟩

/-- masterdisc/packetwriter.Execute (function 31) -/
theorem execute_c (im : Img) (A : Option Addr) (c : Nat) (ss : List Ses) (As : Option Addr) (cs : Nat) (st ct : Int) (ws : List Wr) (Aw : Option Addr) (cw : Nat) (z : Int) (w : World) (hl : SlR w A c 1 encS im) (hs : SlR w As cs 3 encX ss) (hw : SlR w Aw cw 4 encW ws) (hin : Inn w ws) (hsl : ss.length ≤ 20) : CallR Try.prog 31 [.agg #[.slice A im.length c, .slice As ss.length cs], .agg #[.int .i64 st, .int .i64 ct], .slice Aw ws.length cw, .int .i64 z] w (fun v w' => ∃ v1 v2, v = .tuple #[.agg #[v1, v2], .int .i64 (exR im ss st ct ws z).2.2] ∧ Go.XK.Own w' w.heap.size 9 1 encS v1 (exR im ss st ct ws z).1 ∧ Go.XK.Own w' w.heap.size 65 3 encX v2 (exR im ss st ct ws z).2.1 ∧ Ext w w') := by
  have hmx0 := hl.lenle
  simp only [maxLen] at hmx0
  have hmx1 := hw.lenle
  simp only [maxLen] at hmx1
  have hmx2 := hs.lenle
  simp only [maxLen] at hmx2
  obtain ⟨o, e, hcut⟩ : ∃ o e, cutR im ws z = (o, e) := ⟨_, _, rfl⟩
  refine callR_ofM (n := 75) [(0, .agg #[.slice A im.length c, .slice As ss.length cs]), (1, .agg #[.int .i64 st, .int .i64 ct]), (2, .slice Aw ws.length cw), (3, .int .i64 z)] Try.func31 rfl rfl (Nat.le_of_ble_eq_true rfl) rfl ?_
  refine sc_seq ?_
  refine sc_reg ?_
  refine s_box (cs := [.slice A im.length c, .slice As ss.length cs]) rfl rfl ?_
  intro b4 w1 hb4 he4 hs4 hx4
  have ge_b4 : w.heap.size ≤ b4 := by have h_ := (Below.size (Ext.rfl' w)); omega
  have xw_w1 : Ext w w1 := Ext.tr (Ext.rfl' w) hx4
  refine s_box (cs := [.int .i64 st, .int .i64 ct]) rfl rfl ?_
  intro b5 w2 hb5 he5 hs5 hx5
  have ne_b5_b4 : b5 ≠ b4 := by have h_ := hb4.lt; omega
  have ge_b5 : w.heap.size ≤ b5 := by have h_ := (Below.size xw_w1); omega
  have xw_w2 : Ext w w2 := Ext.tr xw_w1 hx5
  replace hb4 := hb4.ext hx5
  refine s_box (cs := [.int .i64 z]) rfl rfl ?_
  intro b7 w3 hb7 he7 hs7 hx7
  have ne_b7_b4 : b7 ≠ b4 := by have h_ := hb4.lt; omega
  have ne_b7_b5 : b7 ≠ b5 := by have h_ := hb5.lt; omega
  have ge_b7 : w.heap.size ≤ b7 := by have h_ := (Below.size xw_w2); omega
  have xw_w3 : Ext w w3 := Ext.tr xw_w2 hx7
  replace hb4 := hb4.ext hx7
  replace hb5 := hb5.ext hx7
  refine s_alloc (cs := [.slice none 0 0, .slice none 0 0]) Try.zeroValue55 rfl ?_
  intro b8 w4 hb8 he8 hs8 hx8
  have ne_b8_b4 : b8 ≠ b4 := by have h_ := hb4.lt; omega
  have ne_b8_b5 : b8 ≠ b5 := by have h_ := hb5.lt; omega
  have ne_b8_b7 : b8 ≠ b7 := by have h_ := hb7.lt; omega
  have ge_b8 : w.heap.size ≤ b8 := by have h_ := (Below.size xw_w3); omega
  have xw_w4 : Ext w w4 := Ext.tr xw_w3 hx8
  replace hb4 := hb4.ext hx8
  replace hb5 := hb5.ext hx8
  replace hb7 := hb7.ext hx8
  refine Go.XK.s (v := .int .i64 0) (e_assign rfl) ?_
  refine sl_nil (nrm_k ?_)
  refine sc_seq ?_
  refine sc_reg ?_
  refine Go.XK.s (v := .pointer (some ⟨b4, 0, none⟩)) (e_fieldB (sz := 1) Try.underlying55 rfl Try.sizeOf23 (by decide) rfl rfl) ?_
  refine Go.XK.s (v := .slice A im.length c) (e_load rfl (load1 Try.isAgg23 (hb4.cell (j := 0) rfl))) ?_
  refine Go.XK.s (v := .slice Aw ws.length cw) (e_move rfl) ?_
  refine Go.XK.s (v := .int .i64 z) (e_load rfl (load1 Try.isAgg3 (hb7.cell (j := 0) rfl))) ?_
  refine sl_call ent16 rfl rfl (cut_d _ _ _ _ _ _ _ w4 (hl.ext xw_w4) (hw.ext xw_w4) (hin.ext xw_w4) hcut) (by decide) ?_
  rintro _ w5 ⟨vIx, rfl, hoIx, hw5⟩
  replace hoIx := Own.low hoIx (Below.size xw_w4)
  have xw_w5 : Ext w w5 := Ext.tr xw_w4 hw5
  replace hb4 := hb4.ext hw5
  replace hb5 := hb5.ext hw5
  replace hb7 := hb7.ext hw5
  replace hb8 := hb8.ext hw5
  obtain ⟨AIx, cIx, eIx_, hlcIx, hcmIx, _⟩ := Go.XK.Own.shape hoIx (fun _ => rfl)
  subst eIx_
  refine Go.XK.s (v := .tuple #[.slice AIx o.length cIx, .int .i64 e]) (e_move rfl) ?_
  refine Go.XK.s (v := .slice AIx o.length cIx) (e_extract (vs := [.slice AIx o.length cIx, .int .i64 e]) rfl rfl) ?_
  refine Go.XK.s (v := .int .i64 e) (e_extract (vs := [.slice AIx o.length cIx, .int .i64 e]) rfl rfl) ?_
  refine Go.XK.s (v := .slice AIx o.length cIx) (e_assign rfl) ?_
  refine Go.XK.s (v := .int .i64 e) (e_assign rfl) ?_
  refine sl_nil (nrm_k ?_)
  refine sc_seq ?_
  refine sc_seq ?_
  refine sc_reg ?_
  refine Go.XK.s (v := .int .i64 e) (e_move rfl) ?_
  refine Go.XK.s (v := .bool (decide (e ≠ 0))) (e_ne rfl rfl) ?_
  refine sl_nil (nrm_k ?_)
  refine sc_ifd rfl (fun c25 => ?_) (fun c25 => ?_)
  ·
    refine sc_seq ?_
    refine sc_reg ?_
    refine Go.XK.s (v := .agg #[.slice none 0 0, .slice none 0 0]) (e_build (vs := []) rfl (by kernel_rfl)) ?_
    refine Go.XK.s (v := .int .i64 e) (e_move rfl) ?_
    refine su_blkV [.slice none 0 0, .slice none 0 0] [.slice none 0 0, .slice none 0 0] rfl rfl hb8 rfl Try.sizeOf55 (Nat.le_of_ble_eq_true rfl) rfl rfl ?_
    intro w6 hn_ hm_w6 hs_w6
    have ho_ := hb8
    replace hb8 := hn_
    clear hn_
    replace hb4 := hb4.mut hm_w6 (Ne.symm ne_b8_b4)
    replace hb5 := hb5.mut hm_w6 (Ne.symm ne_b8_b5)
    replace hb7 := hb7.mut hm_w6 (Ne.symm ne_b8_b7)
    replace hoIx := hoIx.mut hm_w6 (Own.ne hoIx ho_ (by decide))
    have xw_w6 : Ext w w6 := below_mut xw_w5 (Below.size xw_w5) hm_w6 ge_b8
    refine Go.XK.s (v := .int .i64 e) (e_assign rfl) ?_
    refine sl_nil (nrm_k ?_)
    refine sc_retM rfl (ret2 Try.results31 (rvc rfl (hb8.loadA Try.isAgg55 Try.sizeOf55 rfl)) (rvt rfl) ?_)
    have hR : exR im ss st ct ws z = ([], [], e) := by rw [exR, hcut, if_pos c25]
    exact ⟨.slice none 0 0, .slice none 0 0, by rw [hR], by rw [hR]; exact Go.XK.Own.nil _ _ _ _ _, by rw [hR]; exact Go.XK.Own.nil _ _ _ _ _, xw_w6⟩
  ·
    have he0 : e = 0 := Classical.not_not.1 c25
    have hcut0 : cutR im ws z = (o, 0) := by rw [hcut, he0]
    obtain ⟨hv, hz0, hz1, hcc⟩ := cut_range (by rw [hcut0])
    obtain ⟨hm1, hm2, hm3, hokw⟩ := valid_spec hv
    have hmL := valid_len hv
    refine sc_skip (nrm_k ?_)
    refine sc_seq ?_
    refine sc_reg ?_
    refine Go.XK.s (v := .pointer (some ⟨b4, 1, none⟩)) (e_fieldB (sz := 1) Try.underlying55 rfl Try.sizeOf53 (by decide) rfl rfl) ?_
    refine Go.XK.s (v := .slice As ss.length cs) (e_load rfl (load1 Try.isAgg53 (hb4.cell (j := 1) rfl))) ?_
    refine sl_call ent66 rfl rfl (clonex_c _ _ _ w5 (hs.ext xw_w5) (by omega)) (by decide) ?_
    rintro vX w7 ⟨hoX, hw7⟩
    replace hoX := Own.low hoX (Below.size xw_w5)
    have xw_w7 : Ext w w7 := Ext.tr xw_w5 hw7
    replace hb4 := hb4.ext hw7
    replace hb5 := hb5.ext hw7
    replace hb7 := hb7.ext hw7
    replace hb8 := hb8.ext hw7
    replace hoIx := hoIx.ext hw7
    refine s_alloc (cs := [.slice none 0 0]) Try.zeroValue53 rfl ?_
    intro b12 w8 hb12 he12 hs12 hx12
    have ne_b12_b4 : b12 ≠ b4 := by have h_ := hb4.lt; omega
    have ne_b12_b5 : b12 ≠ b5 := by have h_ := hb5.lt; omega
    have ne_b12_b7 : b12 ≠ b7 := by have h_ := hb7.lt; omega
    have ne_b12_b8 : b12 ≠ b8 := by have h_ := hb8.lt; omega
    have no_b12_hoIx : Value.ownBlock (.slice AIx o.length cIx) ≠ some b12 := fun h_ => by have h2_ := (Go.XK.Own.lt hoIx _ h_).2; omega
    have no_b12_hoX : Value.ownBlock vX ≠ some b12 := fun h_ => by have h2_ := (Go.XK.Own.lt hoX _ h_).2; omega
    have ge_b12 : w.heap.size ≤ b12 := by have h_ := (Below.size xw_w7); omega
    have xw_w8 : Ext w w8 := Ext.tr xw_w7 hx12
    replace hb4 := hb4.ext hx12
    replace hb5 := hb5.ext hx12
    replace hb7 := hb7.ext hx12
    replace hb8 := hb8.ext hx12
    replace hoIx := hoIx.ext hx12
    replace hoX := hoX.ext hx12
    refine su_blkV [vX] [vX] rfl rfl hb12 (own_cells hoX).1 Try.sizeOf53 (Nat.le_of_ble_eq_true rfl) (own_cells hoX).2 rfl ?_
    intro w9 hn_ hm_w9 hs_w9
    have ho_ := hb12
    replace hb12 := hn_
    clear hn_
    replace hb4 := hb4.mut hm_w9 (Ne.symm ne_b12_b4)
    replace hb5 := hb5.mut hm_w9 (Ne.symm ne_b12_b5)
    replace hb7 := hb7.mut hm_w9 (Ne.symm ne_b12_b7)
    replace hb8 := hb8.mut hm_w9 (Ne.symm ne_b12_b8)
    replace hoIx := hoIx.mut hm_w9 no_b12_hoIx
    replace hoX := hoX.mut hm_w9 no_b12_hoX
    have xw_w9 : Ext w w9 := below_mut xw_w8 (Below.size xw_w8) hm_w9 ge_b12
    refine sl_nil (nrm_k ?_)
    refine sc_seq ?_
    refine sc_reg ?_
    refine s_alloc (cs := [.int .i64 0]) Try.zeroValue3 rfl ?_
    intro b13 w10 hb13 he13 hs13 hx13
    have ne_b13_b4 : b13 ≠ b4 := by have h_ := hb4.lt; omega
    have ne_b13_b5 : b13 ≠ b5 := by have h_ := hb5.lt; omega
    have ne_b13_b7 : b13 ≠ b7 := by have h_ := hb7.lt; omega
    have ne_b13_b8 : b13 ≠ b8 := by have h_ := hb8.lt; omega
    have ne_b13_b12 : b13 ≠ b12 := by have h_ := hb12.lt; omega
    have no_b13_hoIx : Value.ownBlock (.slice AIx o.length cIx) ≠ some b13 := fun h_ => by have h2_ := (Go.XK.Own.lt hoIx _ h_).2; omega
    have no_b13_hoX : Value.ownBlock vX ≠ some b13 := fun h_ => by have h2_ := (Go.XK.Own.lt hoX _ h_).2; omega
    have ge_b13 : w.heap.size ≤ b13 := by have h_ := (Below.size xw_w9); omega
    have xw_w10 : Ext w w10 := Ext.tr xw_w9 hx13
    replace hb4 := hb4.ext hx13
    replace hb5 := hb5.ext hx13
    replace hb7 := hb7.ext hx13
    replace hb8 := hb8.ext hx13
    replace hb12 := hb12.ext hx13
    replace hoIx := hoIx.ext hx13
    replace hoX := hoX.ext hx13
    refine su_blkV [.int .i64 0] [.int .i64 0] rfl rfl hb13 rfl Try.sizeOf3 (Nat.le_of_ble_eq_true rfl) rfl rfl ?_
    intro w11 hn_ hm_w11 hs_w11
    have ho_ := hb13
    replace hb13 := hn_
    clear hn_
    replace hb4 := hb4.mut hm_w11 (Ne.symm ne_b13_b4)
    replace hb5 := hb5.mut hm_w11 (Ne.symm ne_b13_b5)
    replace hb7 := hb7.mut hm_w11 (Ne.symm ne_b13_b7)
    replace hb8 := hb8.mut hm_w11 (Ne.symm ne_b13_b8)
    replace hb12 := hb12.mut hm_w11 (Ne.symm ne_b13_b12)
    replace hoIx := hoIx.mut hm_w11 no_b13_hoIx
    replace hoX := hoX.mut hm_w11 no_b13_hoX
    have xw_w11 : Ext w w11 := below_mut xw_w10 (Below.size xw_w10) hm_w11 ge_b13
    refine sl_nil (nrm_k ?_)
    refine sc_seq ?_
    refine sc_seq ?_
    refine sc_reg ?_
    refine Go.XK.s (v := .slice Aw ws.length cw) (e_move rfl) ?_
    refine sl_call ent58 rfl rfl (steps_c _ _ _ w11) (by decide) ?_
    rintro _ w12 ⟨b58, rfl, hb58, hg58, hw12⟩
    have ne_b58_b4 : b58 ≠ b4 := by have h_ := hb4.lt; omega
    have ne_b58_b5 : b58 ≠ b5 := by have h_ := hb5.lt; omega
    have ne_b58_b7 : b58 ≠ b7 := by have h_ := hb7.lt; omega
    have ne_b58_b8 : b58 ≠ b8 := by have h_ := hb8.lt; omega
    have ne_b58_b12 : b58 ≠ b12 := by have h_ := hb12.lt; omega
    have ne_b58_b13 : b58 ≠ b13 := by have h_ := hb13.lt; omega
    have ge_b58 : w.heap.size ≤ b58 := by have h_ := Below.size xw_w11; omega
    have xw_w12 : Ext w w12 := Ext.tr xw_w11 hw12
    replace hb4 := hb4.ext hw12
    replace hb5 := hb5.ext hw12
    replace hb7 := hb7.ext hw12
    replace hb8 := hb8.ext hw12
    replace hb12 := hb12.ext hw12
    replace hb13 := hb13.ext hw12
    replace hoIx := hoIx.ext hw12
    replace hoX := hoX.ext hw12
    refine sl_nil (nrm_k ?_)
    refine sc_block ?_
    have hB5_ : w.heap.size ≤ w12.heap.size := Below.size xw_w12
    refine sc_rangeFx (α := StpIn (stL ws)) (β := Nat) (lb := [.pointer (some ⟨b58, 0, none⟩)]) (ps := [33]) (fun x => [.agg (encT x.1).toArray]) (KpT [24, 49] w.heap.size) (fun xs => raw xs = stL ws) (fun pre => raw pre <+: stL ws) ((stL ws).length) (fun (pre : List (StpIn (stL ws))) (W : World) => ∃ v : Value, Ext w W ∧ Go.XK.Own W w.heap.size 9 1 encS (.slice AIx o.length cIx) o ∧ Go.XK.Own W w.heap.size 65 3 encX v (runX st ct (raw pre) ss) ∧ Blk W b4 55 [.slice A im.length c, .slice As ss.length cs] ∧ Blk W b5 57 [.int .i64 st, .int .i64 ct] ∧ Blk W b7 3 [.int .i64 z] ∧ Blk W b8 55 [.slice none 0 0, .slice none 0 0] ∧ Blk W b12 53 [v] ∧ Blk W b13 3 [.int .i64 (pre.length : Int)] ∧ Blk W b58 24 [.slice Aw ws.length cw] ∧ (pre.length : Int) ≤ z) 0 (fun _ _ => False) (fun (pre : List (StpIn (stL ws))) (W : World) => ∃ v : Value, Ext w W ∧ Go.XK.Own W w.heap.size 9 1 encS (.slice AIx o.length cIx) o ∧ Go.XK.Own W w.heap.size 65 3 encX v (runX st ct ((raw pre).take z.toNat) ss) ∧ Blk W b4 55 [.slice A im.length c, .slice As ss.length cs] ∧ Blk W b5 57 [.int .i64 st, .int .i64 ct] ∧ Blk W b7 3 [.int .i64 z] ∧ Blk W b8 55 [.slice none 0 0, .slice none 0 0] ∧ Blk W b12 53 [v] ∧ z.toNat ≤ pre.length) (fun x bx => [(14, .pointer (some ⟨bx, 0, none⟩)), (4, .pointer (some ⟨b4, 0, none⟩)), (5, .pointer (some ⟨b5, 0, none⟩)), (7, .pointer (some ⟨b7, 0, none⟩)), (8, .pointer (some ⟨b8, 0, none⟩)), (9, .int .i64 0), (10, .slice AIx o.length cIx), (11, .int .i64 e), (12, .pointer (some ⟨b12, 0, none⟩)), (13, .pointer (some ⟨b13, 0, none⟩))]) (fun x bx W => Blk W bx 101 [.int .i64 x.1.p, .string (B x.1.b), .bool x.1.cl] ∧ w.heap.size ≤ bx) rfl ent78 (iter_c ws Aw cw b58 w w12 hw hin xw_w12 hb58) (fun _ => rfl) (by decide) KpT.tr (KpT.put hB5_) (by rintro pre_ A_ B_ row_ ⟨v, xw_W, hoIx, hoX, hb4, hb5, hb7, hb8, hb12, hb13, hb58, hpz⟩ hg_ hr_; exact ⟨v, ext_rowed xw_W hg_ hr_ hB5_, Go.XK.Own.rowed hoIx hg_ hr_, Go.XK.Own.rowed hoX hg_ hr_, Blk.rowed hb4 hg_ hr_, Blk.rowed hb5 hg_ hr_, Blk.rowed hb7 hg_ hr_, Blk.rowed hb8 hg_ hr_, Blk.rowed hb12 hg_ hr_, Blk.rowed hb13 hg_ hr_, Blk.rowed hb58 hg_ hr_, hpz⟩) (fun _ _ _ _ h_ _ _ => h_.elim) (by rintro pre_ A_ B_ row_ ⟨v, xw_W, hoIx, hoX, hb4, hb5, hb7, hb8, hb12, hzp⟩ hg_ hr_; exact ⟨v, ext_rowed xw_W hg_ hr_ hB5_, Go.XK.Own.rowed hoIx hg_ hr_, Go.XK.Own.rowed hoX hg_ hr_, Blk.rowed hb4 hg_ hr_, Blk.rowed hb5 hg_ hr_, Blk.rowed hb7 hg_ hr_, Blk.rowed hb8 hg_ hr_, Blk.rowed hb12 hg_ hr_, hzp⟩) (fun x b_ _ A_ B_ row_ h_ hg_ hr_ => ⟨h_.1.rowed hg_ hr_, h_.2⟩) ⟨vX, xw_w12, hoIx, hoX, hb4, hb5, hb7, hb8, hb12, hb13, hb58, by simp; omega⟩ ?_ ?_ ?_ ?_ ?_
    · intro id pre x W hI_
      obtain ⟨v, xw_W, hoIx, hoX, hb4, hb5, hb7, hb8, hb12, hb13, hb58, hpz⟩ := hI_
      refine sc_reg ?_
      refine s_alloc (cs := [.int .i64 0, .string (B []), .bool false]) Try.zeroValue101 rfl ?_
      intro b14 w13 hb14 he14 hs14 hx14
      have ne_b14_b4 : b14 ≠ b4 := by have h_ := hb4.lt; omega
      have ne_b14_b5 : b14 ≠ b5 := by have h_ := hb5.lt; omega
      have ne_b14_b7 : b14 ≠ b7 := by have h_ := hb7.lt; omega
      have ne_b14_b8 : b14 ≠ b8 := by have h_ := hb8.lt; omega
      have ne_b14_b12 : b14 ≠ b12 := by have h_ := hb12.lt; omega
      have ne_b14_b13 : b14 ≠ b13 := by have h_ := hb13.lt; omega
      have ne_b14_b58 : b14 ≠ b58 := by have h_ := hb58.lt; omega
      have no_b14_hoIx : Value.ownBlock (.slice AIx o.length cIx) ≠ some b14 := fun h_ => by have h2_ := (Go.XK.Own.lt hoIx _ h_).2; omega
      have no_b14_hoX : Value.ownBlock v ≠ some b14 := fun h_ => by have h2_ := (Go.XK.Own.lt hoX _ h_).2; omega
      have ge_b14 : w.heap.size ≤ b14 := by have h_ := (Below.size xw_W); omega
      have geW_b14 : W.heap.size ≤ b14 := by have h_ := (Below.size (Ext.rfl' W)); omega
      have xw_w13 : Ext w w13 := Ext.tr xw_W hx14
      have xW_w13 : Ext W w13 := Ext.tr (Ext.rfl' W) hx14
      have nW_w13 : NC W w13 := NC.tr (NC.rfl' W) (NC.ofExt hx14)
      replace hb4 := hb4.ext hx14
      replace hb5 := hb5.ext hx14
      replace hb7 := hb7.ext hx14
      replace hb8 := hb8.ext hx14
      replace hb12 := hb12.ext hx14
      replace hb13 := hb13.ext hx14
      replace hb58 := hb58.ext hx14
      replace hoIx := hoIx.ext hx14
      replace hoX := hoX.ext hx14
      refine su_blkV [.int .i64 x.1.p, .string (B x.1.b), .bool x.1.cl] [.int .i64 x.1.p, .string (B x.1.b), .bool x.1.cl] rfl rfl hb14 rfl Try.sizeOf101 (Nat.le_of_ble_eq_true rfl) rfl rfl ?_
      intro w14 hn_ hm_w14 hs_w14
      have ho_ := hb14
      replace hb14 := hn_
      clear hn_
      replace hb4 := hb4.mut hm_w14 (Ne.symm ne_b14_b4)
      replace hb5 := hb5.mut hm_w14 (Ne.symm ne_b14_b5)
      replace hb7 := hb7.mut hm_w14 (Ne.symm ne_b14_b7)
      replace hb8 := hb8.mut hm_w14 (Ne.symm ne_b14_b8)
      replace hb12 := hb12.mut hm_w14 (Ne.symm ne_b14_b12)
      replace hb13 := hb13.mut hm_w14 (Ne.symm ne_b14_b13)
      replace hb58 := hb58.mut hm_w14 (Ne.symm ne_b14_b58)
      replace hoIx := hoIx.mut hm_w14 no_b14_hoIx
      replace hoX := hoX.mut hm_w14 no_b14_hoX
      have nW_w14 : NC W w14 := NC.tr nW_w13 (NC.ofMut hm_w14 ho_)
      have xw_w14 : Ext w w14 := below_mut xw_w13 (Below.size xw_w13) hm_w14 ge_b14
      have xW_w14 : Ext W w14 := below_mut xW_w13 (Below.size xW_w13) hm_w14 geW_b14
      exact sl_nil (fun a_ ha_ => ⟨NC.keeps nW_w14 _, KpT.ofExt xW_w14, ⟨v, xw_w14, hoIx, hoX, hb4, hb5, hb7, hb8, hb12, hb13, hb58, hpz⟩, b14, ⟨hb14, ge_b14⟩, ha_.sub (.cons rfl (.cons rfl (.cons rfl (.cons rfl (.cons rfl (.cons rfl (.cons rfl (.cons rfl (.cons rfl (.cons rfl (.nil)))))))))))⟩)
    · intro id pre x bx W hI_ hbx hlt
      obtain ⟨v, xw_W, hoIx, hoX, hb4, hb5, hb7, hb8, hb12, hb13, hb58, hpz⟩ := hI_
      obtain ⟨hbx, ge_bx⟩ := hbx
      have ne_bx_b4 : bx ≠ b4 := by exact Blk.ne hbx hb4 (by decide)
      have ne_bx_b5 : bx ≠ b5 := by exact Blk.ne hbx hb5 (by decide)
      have ne_bx_b7 : bx ≠ b7 := by exact Blk.ne hbx hb7 (by decide)
      have ne_bx_b8 : bx ≠ b8 := by exact Blk.ne hbx hb8 (by decide)
      have ne_bx_b12 : bx ≠ b12 := by exact Blk.ne hbx hb12 (by decide)
      have ne_bx_b13 : bx ≠ b13 := by exact Blk.ne hbx hb13 (by decide)
      have ne_bx_b58 : bx ≠ b58 := by exact Blk.ne hbx hb58 (by decide)
      have hxl4 := runX_length st ct (raw pre) ss
      rw [raw_length] at hxl4
      have hltL := hlt
      refine sc_block ?_
      refine sc_seq ?_
      refine sc_seq ?_
      refine sc_reg ?_
      refine Go.XK.s (v := .int .i64 (pre.length : Int)) (e_load rfl (load1 Try.isAgg3 (hb13.cell (j := 0) rfl))) ?_
      refine Go.XK.s (v := .int .i64 z) (e_load rfl (load1 Try.isAgg3 (hb7.cell (j := 0) rfl))) ?_
      refine Go.XK.s (v := .bool (decide ((pre.length : Int) = z))) (e_eq rfl rfl) ?_
      refine sl_nil (nrm_k ?_)
      refine sc_ifd rfl (fun c36 => ?_) (fun c36 => ?_)
      ·
        refine sc_exit rfl ?_
        have he_ : runX st ct ((raw (pre ++ [x])).take z.toNat) ss = runX st ct (raw pre) ss := by rw [raw_snoc, List.take_left' (by rw [raw_length]; omega)]
        rw [← he_] at hoX
        exact fun a_ ha_ => ⟨NC.keeps (NC.rfl' W) _, ⟨v, xw_W, hoIx, hoX, hb4, hb5, hb7, hb8, hb12, (by simp; omega)⟩⟩
      ·
        have hne : (pre.length : Int) < z := by omega
        refine sc_skip (nrm_k ?_)
        refine sc_seq ?_
        refine sc_reg ?_
        refine Go.XK.s (v := .int .i64 (pre.length : Int)) (e_load rfl (load1 Try.isAgg3 (hb13.cell (j := 0) rfl))) ?_
        refine Go.XK.s (v := .int .i64 ((pre.length : Int) + 1)) (e_add rfl rfl (by omega)) ?_
        refine su_blkV [.int .i64 ((pre.length : Int) + 1)] [.int .i64 ((pre.length : Int) + 1)] rfl rfl hb13 rfl Try.sizeOf3 (Nat.le_of_ble_eq_true rfl) rfl rfl ?_
        intro w15 hn_ hm_w15 hs_w15
        have ho_ := hb13
        replace hb13 := hn_
        clear hn_
        replace hb4 := hb4.mut hm_w15 (Ne.symm ne_b13_b4)
        replace hb5 := hb5.mut hm_w15 (Ne.symm ne_b13_b5)
        replace hb7 := hb7.mut hm_w15 (Ne.symm ne_b13_b7)
        replace hb8 := hb8.mut hm_w15 (Ne.symm ne_b13_b8)
        replace hb12 := hb12.mut hm_w15 (Ne.symm ne_b13_b12)
        replace hb58 := hb58.mut hm_w15 ne_b58_b13
        replace hbx := hbx.mut hm_w15 ne_bx_b13
        replace hoIx := hoIx.mut hm_w15 (Own.ne hoIx ho_ (by decide))
        replace hoX := hoX.mut hm_w15 (Own.ne hoX ho_ (by decide))
        have nW_w15 : NC W w15 := NC.tr (NC.rfl' W) (NC.ofMut hm_w15 ho_)
        have kW_w15 : KpT [24, 49] w.heap.size W w15 := KpT.tr (KpT.rfl' W) (KpT.ofMut hm_w15 ho_ ge_b13 (by decide))
        have xw_w15 : Ext w w15 := below_mut xw_W (Below.size xw_W) hm_w15 ge_b13
        refine sl_nil (nrm_k ?_)
        refine sc_seq ?_
        refine sc_seq ?_
        refine sc_reg ?_
        refine Go.XK.s (v := .pointer (some ⟨bx, 2, none⟩)) (e_fieldB (sz := 1) Try.underlying101 rfl Try.sizeOf4 (by decide) rfl rfl) ?_
        refine Go.XK.s (v := .bool x.1.cl) (e_load rfl (load1 Try.isAgg4 (hbx.cell (j := 2) rfl))) ?_
        refine Go.XK.s (v := .bool (!x.1.cl)) (e_not rfl) ?_
        refine sl_nil (nrm_k ?_)
        refine sc_if rfl (fun c41 => ?_) (fun c41 => ?_)
        ·
          have hcl : x.1.cl = false := by simpa using c41
          refine sc_exit rfl ?_
          have hlen_ : ((pre ++ [x]).length : Int) = (pre.length : Int) + 1 := by simp
          rw [← hlen_] at hb13
          have he_ : runX st ct (raw (pre ++ [x])) ss = runX st ct (raw pre) ss := by rw [raw_snoc, runX_snoc, stepX, if_neg (by simp [hcl])]
          rw [← he_] at hoX
          exact fun a_ ha_ => ⟨NC.keeps nW_w15 _, kW_w15, ⟨v, xw_w15, hoIx, hoX, hb4, hb5, hb7, hb8, hb12, hb13, hb58, (by simp; omega)⟩⟩
        ·
          have hcl : x.1.cl = true := by simpa using c41
          refine sc_skip (nrm_k ?_)
          refine sc_seq ?_
          refine sc_reg ?_
          refine Go.XK.s (v := v) (e_load rfl (load1 Try.isAgg53 (hb12.cell (j := 0) rfl))) ?_
          refine Go.XK.s (v := .int .i64 ((runX st ct (raw pre) ss).length : Int)) (e_lenOwn Try.underlying53 rfl hoX (fun _ => rfl)) ?_
          refine Go.XK.s (v := .int .i64 ((runX st ct (raw pre) ss).length : Int)) (e_assign rfl) ?_
          refine sl_nil (nrm_k ?_)
          refine sc_seq ?_
          obtain ⟨y, hyd⟩ : ∃ y : Ses, y = ((runX st ct (raw pre) ss)[(runX st ct (raw pre) ss).length - 1]?).getD ⟨0, 0, false⟩ := ⟨_, rfl⟩
          have hix : (((runX st ct (raw pre) ss).length : Int) - 1).toNat = (runX st ct (raw pre) ss).length - 1 := by omega
          refine sc_reg ?_
          refine Go.XK.s (v := .int .i64 ((runX st ct (raw pre) ss).length : Int)) (e_move rfl) ?_
          refine Go.XK.s (v := .bool (decide ((0 : Int) < ((runX st ct (raw pre) ss).length : Int)))) (e_gt rfl rfl) ?_
          refine Go.XK.s (v := .bool (decide ((0 : Int) < ((runX st ct (raw pre) ss).length : Int)))) (e_move rfl) ?_
          refine sl_merge 8 54 (.bool ((decide ((0 : Int) < ((runX st ct (raw pre) ss).length : Int))) && (!y.cl))) ?_ ?_
          · refine sl_case (t := 46) rfl (fun g12_2 => ?_) (fun g12_2 => ?_)
            ·
              have hpos := of_decide_eq_true g12_2
              have hy : (runX st ct (raw pre) ss)[(runX st ct (raw pre) ss).length - 1]? = some y := by rw [hyd, List.getElem?_eq_getElem (by omega)]; rfl
              refine sl_gev (v := v) rfl rfl g12_2 (e_load rfl (load1 Try.isAgg53 (hb12.cell (j := 0) rfl))) rfl (by decide) ?_
              refine sl_gev (v := .int .i64 ((runX st ct (raw pre) ss).length : Int)) rfl rfl g12_2 (e_move rfl) rfl (by decide) ?_
              refine sl_gev (v := .int .i64 (((runX st ct (raw pre) ss).length : Int) - 1)) rfl rfl g12_2 (e_sub rfl rfl (by omega)) rfl (by decide) ?_
              refine sl_gev (v := .pointer (some (el (ownA v) 3 (((runX st ct (raw pre) ss).length : Int) - 1) 0))) rfl rfl g12_2 (e_idxOwn (x0 := y) Try.underlying53 Try.sizeOf65 rfl rfl hoX (fun _ => rfl) (by rw [hix]; exact hy) (by omega)) rfl (by decide) ?_
              refine sl_gev (v := .pointer (some (el (ownA v) 3 (((runX st ct (raw pre) ss).length : Int) - 1) 2))) rfl rfl g12_2 (e_fieldEl (fsz := 1) Try.underlying65 rfl Try.sizeOf4 (by decide) rfl rfl) rfl (by decide) ?_
              refine sl_gev (v := .bool y.cl) rfl rfl g12_2 (e_ldEl (xs := runX st ct (raw pre) ss) (enc := encX) (e := y) rfl (Go.XK.Own.rd hoX (fun _ => rfl)) (by rw [hix]; exact hy) Try.isAgg4 rfl) rfl (by decide) ?_
              refine sl_gev (v := .bool (!y.cl)) rfl rfl g12_2 (e_not rfl) rfl (by decide) ?_
              refine Go.XK.s (v := .bool (!y.cl)) (e_pickT rfl g12_2 rfl) ?_
              exact sl_nil (fun a ha => ⟨rfl, ha.sub (.cons (by rw [g12_2]; rfl) (sub_self_cons (sub_self_cons (sub_self_cons (sub_self_cons (sub_self_cons (sub_self_cons (sub_self_cons (sub_self_cons (Sub.refl _) rfl) rfl) rfl) rfl) rfl) rfl) rfl) rfl))⟩)
            ·
              refine sl_gskip rfl rfl g12_2 (by decide) ?_
              refine sl_gskip rfl rfl g12_2 (by decide) ?_
              refine sl_gskip rfl rfl g12_2 (by decide) ?_
              refine sl_gskip rfl rfl g12_2 (by decide) ?_
              refine sl_gskip rfl rfl g12_2 (by decide) ?_
              refine sl_gskip rfl rfl g12_2 (by decide) ?_
              refine sl_gskip rfl rfl g12_2 (by decide) ?_
              refine Go.XK.s (v := .bool false) (e_pickF rfl g12_2 rfl) ?_
              exact sl_nil (fun a ha => ⟨rfl, ha.sub (.cons (by rw [g12_2]; rfl) (sub_self_cons (sub_self_cons (sub_self_cons (sub_self_cons (sub_self_cons (sub_self_cons (sub_self_cons (sub_self_cons (Sub.refl _) rfl) rfl) rfl) rfl) rfl) rfl) rfl) rfl))⟩)
          refine sl_nil (nrm_k ?_)
          refine sc_if rfl (fun c54 => ?_) (fun c54 => ?_)
          ·
            simp only [Bool.and_eq_true, decide_eq_true_eq, Bool.not_eq_true'] at c54
            have hpos := c54.1
            have hy : (runX st ct (raw pre) ss)[(runX st ct (raw pre) ss).length - 1]? = some y := by rw [hyd, List.getElem?_eq_getElem (by omega)]; rfl
            have hstep : closeS st ct (runX st ct (raw pre) ss) = (runX st ct (raw pre) ss).set (((runX st ct (raw pre) ss).length : Int) - 1).toNat ⟨y.s, y.n, true⟩ := by rw [closeS_last hy, if_neg (by simp [c54.2]), hix]
            refine sc_reg ?_
            refine Go.XK.s (v := v) (e_load rfl (load1 Try.isAgg53 (hb12.cell (j := 0) rfl))) ?_
            refine Go.XK.s (v := .int .i64 ((runX st ct (raw pre) ss).length : Int)) (e_move rfl) ?_
            refine Go.XK.s (v := .int .i64 (((runX st ct (raw pre) ss).length : Int) - 1)) (e_sub rfl rfl (by omega)) ?_
            refine Go.XK.s (v := .pointer (some (el (ownA v) 3 (((runX st ct (raw pre) ss).length : Int) - 1) 0))) (e_idxOwn (x0 := y) Try.underlying53 Try.sizeOf65 rfl rfl hoX (fun _ => rfl) (by rw [hix]; exact hy) (by omega)) ?_
            refine Go.XK.s (v := .pointer (some (el (ownA v) 3 (((runX st ct (raw pre) ss).length : Int) - 1) 2))) (e_fieldEl (fsz := 1) Try.underlying65 rfl Try.sizeOf4 (by decide) rfl rfl) ?_
            refine su_ownSet (w0 := w) (x0 := y) (v := v) (⟨y.s, y.n, true⟩) rfl rfl hoX xw_w15 (fun _ => rfl) (by rw [hix]; exact hy) (by decide) rfl rfl Try.sizeOf4 rfl ?_
            intro w16 hn_ xw_w16 hg_w16
            have ho_ := hoX
            replace hb4 := hb4.grown hg_w16 (Own.ne ho_ hb4 (by decide))
            replace hb5 := hb5.grown hg_w16 (Own.ne ho_ hb5 (by decide))
            replace hb7 := hb7.grown hg_w16 (Own.ne ho_ hb7 (by decide))
            replace hb8 := hb8.grown hg_w16 (Own.ne ho_ hb8 (by decide))
            replace hb12 := hb12.grown hg_w16 (Own.ne ho_ hb12 (by decide))
            replace hb13 := hb13.grown hg_w16 (Own.ne ho_ hb13 (by decide))
            replace hb58 := hb58.grown hg_w16 (Own.ne ho_ hb58 (by decide))
            replace hbx := hbx.grown hg_w16 (Own.ne ho_ hbx (by decide))
            have nW_w16 : NC W w16 := NC.tr nW_w15 (NC.ofOwn ho_ hg_w16)
            have kW_w16 : KpT [24, 49] w.heap.size W w16 := KpT.tr kW_w15 (KpT.ofGrown ho_ hg_w16 (Nat.le_refl _) (by decide))
            replace hoIx := Go.XK.Own.other hoIx ho_ hg_w16 (by decide)
            replace hoX := hn_
            clear hn_ ho_
            refine sl_nil ?_
            have hlen_ : ((pre ++ [x]).length : Int) = (pre.length : Int) + 1 := by simp
            rw [← hlen_] at hb13
            have he_ : runX st ct (raw (pre ++ [x])) ss = (runX st ct (raw pre) ss).set (((runX st ct (raw pre) ss).length : Int) - 1).toNat (⟨y.s, y.n, true⟩) := by rw [raw_snoc, runX_snoc, stepX, if_pos hcl]; exact hstep
            rw [← he_] at hoX
            exact fun a_ ha_ => ⟨NC.keeps nW_w16 _, kW_w16, ⟨v, xw_w16, hoIx, hoX, hb4, hb5, hb7, hb8, hb12, hb13, hb58, (by simp; omega)⟩⟩
          ·
            have hstep : closeS st ct (runX st ct (raw pre) ss) = (runX st ct (raw pre) ss) ++ [⟨st, ct, true⟩] := by
              rcases Nat.eq_zero_or_pos (runX st ct (raw pre) ss).length with h0_ | h0_
              · exact closeS_nil h0_
              · have hpos : (0 : Int) < ((runX st ct (raw pre) ss).length : Int) := by omega
                have hy : (runX st ct (raw pre) ss)[(runX st ct (raw pre) ss).length - 1]? = some y := by rw [hyd, List.getElem?_eq_getElem (by omega)]; rfl
                rw [closeS_last hy]
                rw [decide_eq_true hpos] at c54
                rw [if_pos (by simpa using c54)]
            refine sc_reg ?_
            refine Go.XK.s (v := v) (e_load rfl (load1 Try.isAgg53 (hb12.cell (j := 0) rfl))) ?_
            refine Go.XK.s (v := .pointer (some ⟨b5, 0, none⟩)) (e_fieldB (sz := 1) Try.underlying57 rfl Try.sizeOf3 (by decide) rfl rfl) ?_
            refine Go.XK.s (v := .int .i64 st) (e_load rfl (load1 Try.isAgg3 (hb5.cell (j := 0) rfl))) ?_
            refine Go.XK.s (v := .pointer (some ⟨b5, 1, none⟩)) (e_fieldB (sz := 1) Try.underlying57 rfl Try.sizeOf3 (by decide) rfl rfl) ?_
            refine Go.XK.s (v := .int .i64 ct) (e_load rfl (load1 Try.isAgg3 (hb5.cell (j := 1) rfl))) ?_
            refine Go.XK.s (v := .agg #[.int .i64 st, .int .i64 ct, .bool true]) (e_build (vs := [(0, .int .i64 st), (1, .int .i64 ct), (2, .bool true)]) rfl (by kernel_rfl)) ?_
            refine s_bslice (vs := [(0, .agg #[.int .i64 st, .int .i64 ct, .bool true])]) (e := 65) rfl [.int .i64 st, .int .i64 ct, .bool true] (by kernel_rfl) ?_
            intro b66 w17 hb66 he66 hs66 hx66
            have ne_b66_b4 : b66 ≠ b4 := by have h_ := hb4.lt; omega
            have ne_b66_b5 : b66 ≠ b5 := by have h_ := hb5.lt; omega
            have ne_b66_b7 : b66 ≠ b7 := by have h_ := hb7.lt; omega
            have ne_b66_b8 : b66 ≠ b8 := by have h_ := hb8.lt; omega
            have ne_b66_b12 : b66 ≠ b12 := by have h_ := hb12.lt; omega
            have ne_b66_b13 : b66 ≠ b13 := by have h_ := hb13.lt; omega
            have ne_b66_b58 : b66 ≠ b58 := by have h_ := hb58.lt; omega
            have ne_b66_bx : b66 ≠ bx := by have h_ := hbx.lt; omega
            have no_b66_hoIx : Value.ownBlock (.slice AIx o.length cIx) ≠ some b66 := fun h_ => by have h2_ := (Go.XK.Own.lt hoIx _ h_).2; omega
            have no_b66_hoX : Value.ownBlock v ≠ some b66 := fun h_ => by have h2_ := (Go.XK.Own.lt hoX _ h_).2; omega
            have ge_b66 : w.heap.size ≤ b66 := by have h_ := (Below.size xw_w15); omega
            have xw_w17 : Ext w w17 := Ext.tr xw_w15 hx66
            have nW_w17 : NC W w17 := NC.tr nW_w15 (NC.ofExt hx66)
            have kW_w17 : KpT [24, 49] w.heap.size W w17 := KpT.tr kW_w15 (KpT.ofExt hx66)
            replace hb4 := hb4.ext hx66
            replace hb5 := hb5.ext hx66
            replace hb7 := hb7.ext hx66
            replace hb8 := hb8.ext hx66
            replace hb12 := hb12.ext hx66
            replace hb13 := hb13.ext hx66
            replace hb58 := hb58.ext hx66
            replace hbx := hbx.ext hx66
            replace hoIx := hoIx.ext hx66
            replace hoX := hoX.ext hx66
            refine s_appendLit2 (w0 := w) (z := .agg #[.int .i64 0, .int .i64 0, .bool false]) (kk := 3) (bytes := 24) rfl rfl Try.underlying53 (by kernel_rfl) rfl (by decide) (fun _ => rfl) one_encX [⟨st, ct, true⟩] hoX xw_w17 hb66 rfl rfl (by first | (simp only [maxLen]; omega) | omega) (by first | (simp only [maxLen]; omega) | omega) ?_
            intro v67 w18 ho67 xw_w18 hg67 hat67
            replace hb4 := hb4.grown hg67 (Own.ne hoX hb4 (by decide))
            replace hb5 := hb5.grown hg67 (Own.ne hoX hb5 (by decide))
            replace hb7 := hb7.grown hg67 (Own.ne hoX hb7 (by decide))
            replace hb8 := hb8.grown hg67 (Own.ne hoX hb8 (by decide))
            replace hb12 := hb12.grown hg67 (Own.ne hoX hb12 (by decide))
            replace hb13 := hb13.grown hg67 (Own.ne hoX hb13 (by decide))
            replace hb58 := hb58.grown hg67 (Own.ne hoX hb58 (by decide))
            replace hbx := hbx.grown hg67 (Own.ne hoX hbx (by decide))
            replace hb66 := hb66.grown hg67 no_b66_hoX
            have nW_w18 : NC W w18 := NC.tr nW_w17 (NC.ofOwn hoX hg67)
            have kW_w18 : KpT [24, 49] w.heap.size W w18 := KpT.tr kW_w17 (KpT.ofGrown hoX hg67 (Nat.le_refl _) (by decide))
            replace hoIx := Go.XK.Own.other hoIx hoX hg67 (by decide)
            refine su_blkV [v67] [v67] rfl rfl hb12 (own_cells ho67).1 Try.sizeOf53 (Nat.le_of_ble_eq_true rfl) (own_cells ho67).2 rfl ?_
            intro w19 hn_ hm_w19 hs_w19
            have ho_ := hb12
            replace hb12 := hn_
            clear hn_
            replace hb4 := hb4.mut hm_w19 (Ne.symm ne_b12_b4)
            replace hb5 := hb5.mut hm_w19 (Ne.symm ne_b12_b5)
            replace hb7 := hb7.mut hm_w19 (Ne.symm ne_b12_b7)
            replace hb8 := hb8.mut hm_w19 (Ne.symm ne_b12_b8)
            replace hb13 := hb13.mut hm_w19 ne_b13_b12
            replace hb58 := hb58.mut hm_w19 ne_b58_b12
            replace hbx := hbx.mut hm_w19 ne_bx_b12
            replace hb66 := hb66.mut hm_w19 ne_b66_b12
            replace hoIx := hoIx.mut hm_w19 (Own.ne hoIx ho_ (by decide))
            replace ho67 := ho67.mut hm_w19 (Own.ne ho67 ho_ (by decide))
            have nW_w19 : NC W w19 := NC.tr nW_w18 (NC.ofMut hm_w19 ho_)
            have kW_w19 : KpT [24, 49] w.heap.size W w19 := KpT.tr kW_w18 (KpT.ofMut hm_w19 ho_ ge_b12 (by decide))
            have xw_w19 : Ext w w19 := below_mut xw_w18 (Below.size xw_w18) hm_w19 ge_b12
            refine sl_nil ?_
            have hlen_ : ((pre ++ [x]).length : Int) = (pre.length : Int) + 1 := by simp
            rw [← hlen_] at hb13
            have he_ : runX st ct (raw (pre ++ [x])) ss = (runX st ct (raw pre) ss) ++ [⟨st, ct, true⟩] := by rw [raw_snoc, runX_snoc, stepX, if_pos hcl]; exact hstep
            rw [← he_] at ho67
            exact fun a_ ha_ => ⟨NC.keeps nW_w19 _, kW_w19, ⟨v67, xw_w19, hoIx, ho67, hb4, hb5, hb7, hb8, hb12, hb13, hb58, (by simp; omega)⟩⟩
    · intro D xs W hDle hS hI_ hDD
      obtain ⟨v, xw_W, hoIx, hoX, hb4, hb5, hb7, hb8, hb12, hb13, hb58, hpz⟩ := hI_
      have hle_ := raw_length xs
      rw [hS] at hle_
      have hcx : runX st ct (raw xs) ss = runX st ct ((stL ws).take z.toNat) ss := by rw [hS, List.take_of_length_le (by omega)]
      rw [hcx] at hoX
      refine nrm_k ?_
      refine sc_seq ?_
      refine sc_seq ?_
      refine sc_reg ?_
      refine Go.XK.s (v := v) (e_load rfl (load1 Try.isAgg53 (hb12.cell (j := 0) rfl))) ?_
      refine Go.XK.s (v := .int .i64 ((runX st ct ((stL ws).take z.toNat) ss).length : Int)) (e_lenOwn Try.underlying53 rfl hoX (fun _ => rfl)) ?_
      refine Go.XK.s (v := .bool (decide ((16 : Int) < ((runX st ct ((stL ws).take z.toNat) ss).length : Int)))) (e_gt rfl rfl) ?_
      refine sl_nil (nrm_k ?_)
      refine sc_ifd rfl (fun c70 => ?_) (fun c70 => ?_)
      ·
        refine sc_seq ?_
        refine sc_reg ?_
        refine Go.XK.s (v := .agg #[.slice none 0 0, .slice none 0 0]) (e_build (vs := []) rfl (by kernel_rfl)) ?_
        refine su_blkV [.slice none 0 0, .slice none 0 0] [.slice none 0 0, .slice none 0 0] rfl rfl hb8 rfl Try.sizeOf55 (Nat.le_of_ble_eq_true rfl) rfl rfl ?_
        intro w20 hn_ hm_w20 hs_w20
        have ho_ := hb8
        replace hb8 := hn_
        clear hn_
        replace hb4 := hb4.mut hm_w20 (Ne.symm ne_b8_b4)
        replace hb5 := hb5.mut hm_w20 (Ne.symm ne_b8_b5)
        replace hb7 := hb7.mut hm_w20 (Ne.symm ne_b8_b7)
        replace hb12 := hb12.mut hm_w20 ne_b12_b8
        replace hb13 := hb13.mut hm_w20 ne_b13_b8
        replace hb58 := hb58.mut hm_w20 ne_b58_b8
        replace hoIx := hoIx.mut hm_w20 (Own.ne hoIx ho_ (by decide))
        replace hoX := hoX.mut hm_w20 (Own.ne hoX ho_ (by decide))
        have nW_w20 : NC W w20 := NC.tr (NC.rfl' W) (NC.ofMut hm_w20 ho_)
        have xw_w20 : Ext w w20 := below_mut xw_W (Below.size xw_W) hm_w20 ge_b8
        refine Go.XK.s (v := .int .i64 12) (e_assign rfl) ?_
        refine sl_nil (nrm_k ?_)
        replace hDD := nW_w20.2 _ _ hDD rfl
        obtain ⟨wz, hwz⟩ : ∃ wz, wz = World.putObj w20 D (.deferred none) := ⟨_, rfl⟩
        have hmz : Mut w20 wz D := by rw [hwz]; exact mut_put _ _ _
        replace hb4 := hb4.mut hmz (hb4.ne_of hDD rfl)
        replace hb5 := hb5.mut hmz (hb5.ne_of hDD rfl)
        replace hb7 := hb7.mut hmz (hb7.ne_of hDD rfl)
        replace hb8 := hb8.mut hmz (hb8.ne_of hDD rfl)
        replace hb12 := hb12.mut hmz (hb12.ne_of hDD rfl)
        replace hb13 := hb13.mut hmz (hb13.ne_of hDD rfl)
        replace hb58 := hb58.mut hmz (hb58.ne_of hDD rfl)
        replace hoIx := Go.XK.Own.mut hoIx hmz (own_ne_of hoIx hDD rfl)
        replace hoX := Go.XK.Own.mut hoX hmz (own_ne_of hoX hDD rfl)
        have xw_wz : Ext w wz := below_mut xw_w20 (Below.size xw_w20) hmz (Nat.le_trans hB5_ hDle)
        refine sc_retMk rfl hDD ?_
        rw [← hwz]
        refine ret2 Try.results31 (rvc rfl (hb8.loadA Try.isAgg55 Try.sizeOf55 rfl)) (rvt rfl) ?_
        have hR : exR im ss st ct ws z = ([], [], 12) := by rw [exR, hcut0, if_neg (by simp), if_pos (by first | exact_mod_cast c70 | omega)]
        exact ⟨.slice none 0 0, .slice none 0 0, by rw [hR], by rw [hR]; exact Go.XK.Own.nil _ _ _ _ _, by rw [hR]; exact Go.XK.Own.nil _ _ _ _ _, xw_wz⟩
      ·
        refine sc_skip (nrm_k ?_)
        refine sc_seq ?_
        obtain ⟨AX, cX, eX_, hlcX, hcmX, _⟩ := Go.XK.Own.shape hoX (fun _ => rfl)
        subst eX_
        refine sc_reg ?_
        refine Go.XK.s (v := .slice AIx o.length cIx) (e_move rfl) ?_
        refine Go.XK.s (v := .slice AX (runX st ct ((stL ws).take z.toNat) ss).length cX) (e_load rfl (load1 Try.isAgg53 (hb12.cell (j := 0) rfl))) ?_
        refine Go.XK.s (v := .agg #[.slice AIx o.length cIx, .slice AX (runX st ct ((stL ws).take z.toNat) ss).length cX]) (e_build (vs := [(0, .slice AIx o.length cIx), (1, .slice AX (runX st ct ((stL ws).take z.toNat) ss).length cX)]) rfl (by kernel_rfl)) ?_
        refine su_blkV [.slice AIx o.length cIx, .slice AX (runX st ct ((stL ws).take z.toNat) ss).length cX] [.slice AIx o.length cIx, .slice AX (runX st ct ((stL ws).take z.toNat) ss).length cX] rfl rfl hb8 rfl Try.sizeOf55 (Nat.le_of_ble_eq_true rfl) (all_c1 (own_cells hoIx).2 (all_c1 (own_cells hoX).2 rfl)) rfl ?_
        intro w21 hn_ hm_w21 hs_w21
        have ho_ := hb8
        replace hb8 := hn_
        clear hn_
        replace hb4 := hb4.mut hm_w21 (Ne.symm ne_b8_b4)
        replace hb5 := hb5.mut hm_w21 (Ne.symm ne_b8_b5)
        replace hb7 := hb7.mut hm_w21 (Ne.symm ne_b8_b7)
        replace hb12 := hb12.mut hm_w21 ne_b12_b8
        replace hb13 := hb13.mut hm_w21 ne_b13_b8
        replace hb58 := hb58.mut hm_w21 ne_b58_b8
        replace hoIx := hoIx.mut hm_w21 (Own.ne hoIx ho_ (by decide))
        replace hoX := hoX.mut hm_w21 (Own.ne hoX ho_ (by decide))
        have nW_w21 : NC W w21 := NC.tr (NC.rfl' W) (NC.ofMut hm_w21 ho_)
        have xw_w21 : Ext w w21 := below_mut xw_W (Below.size xw_W) hm_w21 ge_b8
        refine Go.XK.s (v := .int .i64 0) (e_assign rfl) ?_
        refine sl_nil (nrm_k ?_)
        replace hDD := nW_w21.2 _ _ hDD rfl
        obtain ⟨wz, hwz⟩ : ∃ wz, wz = World.putObj w21 D (.deferred none) := ⟨_, rfl⟩
        have hmz : Mut w21 wz D := by rw [hwz]; exact mut_put _ _ _
        replace hb4 := hb4.mut hmz (hb4.ne_of hDD rfl)
        replace hb5 := hb5.mut hmz (hb5.ne_of hDD rfl)
        replace hb7 := hb7.mut hmz (hb7.ne_of hDD rfl)
        replace hb8 := hb8.mut hmz (hb8.ne_of hDD rfl)
        replace hb12 := hb12.mut hmz (hb12.ne_of hDD rfl)
        replace hb13 := hb13.mut hmz (hb13.ne_of hDD rfl)
        replace hb58 := hb58.mut hmz (hb58.ne_of hDD rfl)
        replace hoIx := Go.XK.Own.mut hoIx hmz (own_ne_of hoIx hDD rfl)
        replace hoX := Go.XK.Own.mut hoX hmz (own_ne_of hoX hDD rfl)
        have xw_wz : Ext w wz := below_mut xw_w21 (Below.size xw_w21) hmz (Nat.le_trans hB5_ hDle)
        refine sc_retMk rfl hDD ?_
        rw [← hwz]
        refine ret2 Try.results31 (rvc rfl (hb8.loadA Try.isAgg55 Try.sizeOf55 rfl)) (rvt rfl) ?_
        have hR : exR im ss st ct ws z = (o, runX st ct ((stL ws).take z.toNat) ss, 0) := by rw [exR, hcut0, if_neg (by simp), if_neg (by first | exact_mod_cast c70 | omega)]
        exact ⟨(.slice AIx o.length cIx), _, by rw [hR], by rw [hR]; exact hoIx, by rw [hR]; exact hoX, xw_wz⟩
    · intro D pre W hDle hS hI_ hDD
      exact hI_.elim
    · intro D pre W hDle hS hI_ hDD
      obtain ⟨v, xw_W, hoIx, hoX, hb4, hb5, hb7, hb8, hb12, hzp⟩ := hI_
      have hcx : runX st ct ((raw pre).take z.toNat) ss = runX st ct ((stL ws).take z.toNat) ss := by rw [take_pre hS (by rw [raw_length]; omega)]
      rw [hcx] at hoX
      refine exit_k rfl (nrm_k ?_)
      refine sc_seq ?_
      refine sc_seq ?_
      refine sc_reg ?_
      refine Go.XK.s (v := v) (e_load rfl (load1 Try.isAgg53 (hb12.cell (j := 0) rfl))) ?_
      refine Go.XK.s (v := .int .i64 ((runX st ct ((stL ws).take z.toNat) ss).length : Int)) (e_lenOwn Try.underlying53 rfl hoX (fun _ => rfl)) ?_
      refine Go.XK.s (v := .bool (decide ((16 : Int) < ((runX st ct ((stL ws).take z.toNat) ss).length : Int)))) (e_gt rfl rfl) ?_
      refine sl_nil (nrm_k ?_)
      refine sc_ifd rfl (fun c70 => ?_) (fun c70 => ?_)
      ·
        refine sc_seq ?_
        refine sc_reg ?_
        refine Go.XK.s (v := .agg #[.slice none 0 0, .slice none 0 0]) (e_build (vs := []) rfl (by kernel_rfl)) ?_
        refine su_blkV [.slice none 0 0, .slice none 0 0] [.slice none 0 0, .slice none 0 0] rfl rfl hb8 rfl Try.sizeOf55 (Nat.le_of_ble_eq_true rfl) rfl rfl ?_
        intro w22 hn_ hm_w22 hs_w22
        have ho_ := hb8
        replace hb8 := hn_
        clear hn_
        replace hb4 := hb4.mut hm_w22 (Ne.symm ne_b8_b4)
        replace hb5 := hb5.mut hm_w22 (Ne.symm ne_b8_b5)
        replace hb7 := hb7.mut hm_w22 (Ne.symm ne_b8_b7)
        replace hb12 := hb12.mut hm_w22 ne_b12_b8
        replace hoIx := hoIx.mut hm_w22 (Own.ne hoIx ho_ (by decide))
        replace hoX := hoX.mut hm_w22 (Own.ne hoX ho_ (by decide))
        have nW_w22 : NC W w22 := NC.tr (NC.rfl' W) (NC.ofMut hm_w22 ho_)
        have xw_w22 : Ext w w22 := below_mut xw_W (Below.size xw_W) hm_w22 ge_b8
        refine Go.XK.s (v := .int .i64 12) (e_assign rfl) ?_
        refine sl_nil (nrm_k ?_)
        replace hDD := nW_w22.2 _ _ hDD rfl
        obtain ⟨wz, hwz⟩ : ∃ wz, wz = World.putObj w22 D (.deferred none) := ⟨_, rfl⟩
        have hmz : Mut w22 wz D := by rw [hwz]; exact mut_put _ _ _
        replace hb4 := hb4.mut hmz (hb4.ne_of hDD rfl)
        replace hb5 := hb5.mut hmz (hb5.ne_of hDD rfl)
        replace hb7 := hb7.mut hmz (hb7.ne_of hDD rfl)
        replace hb8 := hb8.mut hmz (hb8.ne_of hDD rfl)
        replace hb12 := hb12.mut hmz (hb12.ne_of hDD rfl)
        replace hoIx := Go.XK.Own.mut hoIx hmz (own_ne_of hoIx hDD rfl)
        replace hoX := Go.XK.Own.mut hoX hmz (own_ne_of hoX hDD rfl)
        have xw_wz : Ext w wz := below_mut xw_w22 (Below.size xw_w22) hmz (Nat.le_trans hB5_ hDle)
        refine sc_retMk rfl hDD ?_
        rw [← hwz]
        refine ret2 Try.results31 (rvc rfl (hb8.loadA Try.isAgg55 Try.sizeOf55 rfl)) (rvt rfl) ?_
        have hR : exR im ss st ct ws z = ([], [], 12) := by rw [exR, hcut0, if_neg (by simp), if_pos (by first | exact_mod_cast c70 | omega)]
        exact ⟨.slice none 0 0, .slice none 0 0, by rw [hR], by rw [hR]; exact Go.XK.Own.nil _ _ _ _ _, by rw [hR]; exact Go.XK.Own.nil _ _ _ _ _, xw_wz⟩
      ·
        refine sc_skip (nrm_k ?_)
        refine sc_seq ?_
        obtain ⟨AX, cX, eX_, hlcX, hcmX, _⟩ := Go.XK.Own.shape hoX (fun _ => rfl)
        subst eX_
        refine sc_reg ?_
        refine Go.XK.s (v := .slice AIx o.length cIx) (e_move rfl) ?_
        refine Go.XK.s (v := .slice AX (runX st ct ((stL ws).take z.toNat) ss).length cX) (e_load rfl (load1 Try.isAgg53 (hb12.cell (j := 0) rfl))) ?_
        refine Go.XK.s (v := .agg #[.slice AIx o.length cIx, .slice AX (runX st ct ((stL ws).take z.toNat) ss).length cX]) (e_build (vs := [(0, .slice AIx o.length cIx), (1, .slice AX (runX st ct ((stL ws).take z.toNat) ss).length cX)]) rfl (by kernel_rfl)) ?_
        refine su_blkV [.slice AIx o.length cIx, .slice AX (runX st ct ((stL ws).take z.toNat) ss).length cX] [.slice AIx o.length cIx, .slice AX (runX st ct ((stL ws).take z.toNat) ss).length cX] rfl rfl hb8 rfl Try.sizeOf55 (Nat.le_of_ble_eq_true rfl) (all_c1 (own_cells hoIx).2 (all_c1 (own_cells hoX).2 rfl)) rfl ?_
        intro w23 hn_ hm_w23 hs_w23
        have ho_ := hb8
        replace hb8 := hn_
        clear hn_
        replace hb4 := hb4.mut hm_w23 (Ne.symm ne_b8_b4)
        replace hb5 := hb5.mut hm_w23 (Ne.symm ne_b8_b5)
        replace hb7 := hb7.mut hm_w23 (Ne.symm ne_b8_b7)
        replace hb12 := hb12.mut hm_w23 ne_b12_b8
        replace hoIx := hoIx.mut hm_w23 (Own.ne hoIx ho_ (by decide))
        replace hoX := hoX.mut hm_w23 (Own.ne hoX ho_ (by decide))
        have nW_w23 : NC W w23 := NC.tr (NC.rfl' W) (NC.ofMut hm_w23 ho_)
        have xw_w23 : Ext w w23 := below_mut xw_W (Below.size xw_W) hm_w23 ge_b8
        refine Go.XK.s (v := .int .i64 0) (e_assign rfl) ?_
        refine sl_nil (nrm_k ?_)
        replace hDD := nW_w23.2 _ _ hDD rfl
        obtain ⟨wz, hwz⟩ : ∃ wz, wz = World.putObj w23 D (.deferred none) := ⟨_, rfl⟩
        have hmz : Mut w23 wz D := by rw [hwz]; exact mut_put _ _ _
        replace hb4 := hb4.mut hmz (hb4.ne_of hDD rfl)
        replace hb5 := hb5.mut hmz (hb5.ne_of hDD rfl)
        replace hb7 := hb7.mut hmz (hb7.ne_of hDD rfl)
        replace hb8 := hb8.mut hmz (hb8.ne_of hDD rfl)
        replace hb12 := hb12.mut hmz (hb12.ne_of hDD rfl)
        replace hoIx := Go.XK.Own.mut hoIx hmz (own_ne_of hoIx hDD rfl)
        replace hoX := Go.XK.Own.mut hoX hmz (own_ne_of hoX hDD rfl)
        have xw_wz : Ext w wz := below_mut xw_w23 (Below.size xw_w23) hmz (Nat.le_trans hB5_ hDle)
        refine sc_retMk rfl hDD ?_
        rw [← hwz]
        refine ret2 Try.results31 (rvc rfl (hb8.loadA Try.isAgg55 Try.sizeOf55 rfl)) (rvt rfl) ?_
        have hR : exR im ss st ct ws z = (o, runX st ct ((stL ws).take z.toNat) ss, 0) := by rw [exR, hcut0, if_neg (by simp), if_neg (by first | exact_mod_cast c70 | omega)]
        exact ⟨(.slice AIx o.length cIx), _, by rw [hR], by rw [hR]; exact hoIx, by rw [hR]; exact hoX, xw_wz⟩

end Go.Proofs.Ytfcjianiodiejaa
