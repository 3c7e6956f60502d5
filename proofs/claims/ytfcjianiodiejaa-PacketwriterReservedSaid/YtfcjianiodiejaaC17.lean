/- Chapter 52: C17. Printed by my program wip/tools/wk.py. -/
import Derived.Test.YtfcjianiodiejaaC16
import Derived.Test.YtfcjianiodiejaaMath10
set_option linter.unusedVariables false
set_option linter.unusedSimpArgs false
set_option maxRecDepth 4000
set_option maxHeartbeats 4000000
namespace Go.Proofs.Ytfcjianiodiejaa
open Go.XK Go.RowKit
theorem callZ {P : Program} {f : FuncId} {x : Value} {k : IntKind} {a b : Int} {w : World} {R : Value → World → Prop} (h : a = b) (hc : CallR P f [x, .int k b] w R) : CallR P f [x, .int k a] w R := h ▸ hc

/-- (*masterdisc/packetwriter.Writer).Reserve (function 37) -/
theorem reserve_c (w0 : World) (b : Nat) (lv : Value) (start base : Int) (ps : List Pn) (z : Int) (w : World) (hb0 : w0.heap.size ≤ b) (hx0 : Ext w0 w) (hbw : Blk w b 109 [.int .i64 start, .int .i64 base, lv]) (hop : Go.XK.Own w w0.heap.size 114 2 encP lv ps) (hwf : Wf start base ps) : CallR Try.prog 37 [.pointer (some ⟨b, 0, none⟩), .int .i64 z] w (fun v w' => ∃ v1 lv', v = .tuple #[v1, .int .i64 (rsZ z start base ps).1] ∧ Go.XK.Own w' w.heap.size 3 1 encI v1 (rsZ z start base ps).2.1 ∧ Blk w' b 109 [.int .i64 start, .int .i64 base, lv'] ∧ Go.XK.Own w' w0.heap.size 114 2 encP lv' (rsZ z start base ps).2.2 ∧ Fr2 w w' b lv lv' ∧ Ext w0 w') := by
  have hs0 := hwf.s0
  have hsb := hwf.sb
  have hb1 := hwf.b1
  have hlw := lastP_wf hwf
  have haw := atP_wf hwf
  have hpl := hwf.len
  have hfr := Fr2.rfl' w b lv
  refine callR_of (n := 43) [(0, .pointer (some ⟨b, 0, none⟩)), (1, .int .i64 z)] Try.func37 rfl rfl (Nat.le_of_ble_eq_true rfl) rfl ?_
  refine sc_seq ?_
  refine sc_reg ?_
  refine Go.XK.s (v := .slice none 0 0) (e_assign rfl) ?_
  refine Go.XK.s (v := .int .i64 0) (e_assign rfl) ?_
  refine sl_nil (nrm_k ?_)
  refine sc_seq ?_
  refine sc_seq ?_
  refine sc_reg ?_
  refine Go.XK.s (v := .int .i64 z) (e_move rfl) ?_
  refine Go.XK.s (v := .bool (decide (z < 0))) (e_lt rfl rfl) ?_
  refine Go.XK.s (v := .bool (decide (z < 0))) (e_move rfl) ?_
  refine sl_merge 3 15 (.bool ((decide (z < 0)) || (decide ((1024 : Int) < z)))) ?_ ?_
  · refine sl_case (t := 12) rfl (fun g1_2 => ?_) (fun g1_2 => ?_)
    ·
      refine sl_gskip rfl rfl g1_2 (by decide) ?_
      refine sl_gskip rfl rfl g1_2 (by decide) ?_
      refine Go.XK.s (v := .bool true) (e_pickT rfl g1_2 rfl) ?_
      exact sl_nil (fun a ha => ⟨rfl, ha.sub (.cons (by rw [g1_2]; rfl) (sub_self_cons (sub_self_cons (sub_self_cons (Sub.refl _) rfl) rfl) rfl))⟩)
    ·
      refine sl_gev (v := .int .i64 z) rfl rfl g1_2 (e_move rfl) rfl (by decide) ?_
      refine sl_gev (v := .bool (decide ((1024 : Int) < z))) rfl rfl g1_2 (e_gt rfl rfl) rfl (by decide) ?_
      refine Go.XK.s (v := .bool (decide ((1024 : Int) < z))) (e_pickF rfl g1_2 rfl) ?_
      exact sl_nil (fun a ha => ⟨rfl, ha.sub (.cons (by rw [g1_2]; rfl) (sub_self_cons (sub_self_cons (sub_self_cons (Sub.refl _) rfl) rfl) rfl))⟩)
  refine sl_nil (nrm_k ?_)
  refine sc_if rfl (fun c15 => ?_) (fun c15 => ?_)
  ·
    refine sc_seq ?_
    refine sc_reg ?_
    refine Go.XK.s (v := .slice none 0 0) (e_assign rfl) ?_
    refine Go.XK.s (v := .int .i64 2) (e_assign rfl) ?_
    refine sl_nil (nrm_k ?_)
    refine sc_retf rfl (ret2 Try.results37 (rvt rfl) (rvt rfl) ?_)
    exact ⟨.slice none 0 0, lv, by rw [rsZ_out c15], by rw [rsZ_out c15]; exact Go.XK.Own.nil _ _ _ _ _, hbw, by rw [rsZ_out c15]; exact hop, hfr, hx0⟩
  ·
    obtain ⟨m, hm⟩ : ∃ m : Nat, z = (m : Int) := ⟨z.toNat, by simp at c15; omega⟩
    have hm2 : m ≤ 1024 := by simp at c15; omega
    refine sc_skip (nrm_k ?_)
    refine sc_seq ?_
    refine sc_reg ?_
    refine Go.XK.s (v := .pointer (some ⟨b, 0, none⟩)) (e_move rfl) ?_
    refine Go.XK.s (v := .int .i64 z) (e_move rfl) ?_
    refine sl_call ent65 rfl rfl (callZ hm (assign_c w0 _ _ _ _ _ m w hb0 hx0 hbw hop hwf (by omega))) (by decide) ?_
    rintro _ w1 ⟨vL, rfl, hoL, hw1⟩
    replace hoL := Own.low hoL (Below.size (Ext.rfl' w))
    have xw_w1 : Ext w w1 := Ext.tr (Ext.rfl' w) hw1
    have xw0_w1 : Ext w0 w1 := Ext.tr hx0 hw1
    replace hfr := Fr2.ext hfr hw1
    replace hbw := hbw.ext hw1
    replace hop := hop.ext hw1
    refine Go.XK.s (v := .tuple #[vL, .bool ((asgR start base ps m).isSome)]) (e_move rfl) ?_
    refine Go.XK.s (v := vL) (e_extract (vs := [vL, .bool ((asgR start base ps m).isSome)]) rfl rfl) ?_
    refine Go.XK.s (v := .bool ((asgR start base ps m).isSome)) (e_extract (vs := [vL, .bool ((asgR start base ps m).isSome)]) rfl rfl) ?_
    refine Go.XK.s (v := vL) (e_assign rfl) ?_
    refine Go.XK.s (v := .bool ((asgR start base ps m).isSome)) (e_assign rfl) ?_
    refine sl_nil (nrm_k ?_)
    refine sc_seq ?_
    refine sc_seq ?_
    refine sc_reg ?_
    refine Go.XK.s (v := .bool ((asgR start base ps m).isSome)) (e_move rfl) ?_
    refine Go.XK.s (v := .bool (!((asgR start base ps m).isSome))) (e_not rfl) ?_
    refine sl_nil (nrm_k ?_)
    refine sc_if rfl (fun c23 => ?_) (fun c23 => ?_)
    ·
      refine sc_seq ?_
      refine sc_reg ?_
      refine Go.XK.s (v := .slice none 0 0) (e_assign rfl) ?_
      refine Go.XK.s (v := .int .i64 12) (e_assign rfl) ?_
      refine sl_nil (nrm_k ?_)
      refine sc_retf rfl (ret2 Try.results37 (rvt rfl) (rvt rfl) ?_)
      have hN : asgR start base ps m = none := by simpa using c23
      have hR := rsZ_none (z := z) (by simpa using c15) hm hN
      exact ⟨.slice none 0 0, lv, by rw [hR], by rw [hR]; exact Go.XK.Own.nil _ _ _ _ _, hbw, by rw [hR]; exact hop, hfr, xw0_w1⟩
    ·
      obtain ⟨l, hlE⟩ := Option.isSome_iff_exists.1 (show (asgR start base ps m).isSome = true by simpa using c23)
      obtain ⟨hll, hlm⟩ := asgR_mem hlE
      rw [hlE] at hoL
      have hoL : Go.XK.Own w1 w.heap.size 3 1 encI vL l := hoL
      refine sc_skip (nrm_k ?_)
      refine sc_seq ?_
      refine sc_seq ?_
      refine sc_reg ?_
      refine Go.XK.s (v := vL) (e_move rfl) ?_
      refine Go.XK.s (v := .int .i64 (l.length : Int)) (e_lenOwn Try.underlying38 rfl hoL (fun _ => rfl)) ?_
      refine Go.XK.s (v := .int .i64 0) (e_move rfl) ?_
      refine sl_nil (nrm_k ?_)
      refine sc_block ?_
      refine sc_loop (fun m_ l_ w_ => ∃ (i : Nat) (lv_ : Value), m_ = l.length - i ∧ l_ = [(26, .int .i64 (i : Int)), (0, .pointer (some ⟨b, 0, none⟩)), (6, vL), (24, vL), (25, .int .i64 (l.length : Int))] ∧ Ext w0 w_ ∧ Blk w_ b 109 [.int .i64 start, .int .i64 base, lv_] ∧ Go.XK.Own w_ w.heap.size 3 1 encI vL l ∧ Go.XK.Own w_ w0.heap.size 114 2 encP lv_ (ps ++ (l.take i).map fun a => ⟨a, []⟩) ∧ i ≤ l.length ∧ Fr2 w w_ b lv lv_) _ [(26, .int .i64 (0 : Int)), (0, .pointer (some ⟨b, 0, none⟩)), (6, vL), (24, vL), (25, .int .i64 (l.length : Int))] ⟨0, lv, rfl, rfl, xw0_w1, hbw, hoL, (by rw [List.take_zero, List.map_nil, List.append_nil]; exact hop), ⟨by omega, hfr⟩⟩ (.cons rfl (.cons rfl (.cons rfl (.cons rfl (.cons rfl (.nil)))))) ?_
      rintro j3 _ w2 ⟨i, lv_, rfl, rfl, xw0_w2, hbw, hoL, hop, ⟨hi, hfr⟩⟩
      refine sc_seq ?_
      refine sc_reg ?_
      refine Go.XK.s (v := .bool (decide ((i : Int) < (l.length : Int)))) (e_lt rfl rfl) ?_
      refine sl_nil (nrm_k ?_)
      refine sc_seq ?_
      refine sc_ifd rfl (fun c27 => ?_) (fun c27 => ?_)
      ·
        obtain ⟨x, hx⟩ : ∃ x, l[i]? = some x := ⟨_, List.getElem?_eq_getElem (by omega)⟩
        refine sc_skip (nrm_k ?_)
        refine sc_seq ?_
        refine sc_block ?_
        refine sc_seq ?_
        refine sc_reg ?_
        refine Go.XK.s (v := .pointer (some (el (ownA vL) 1 (i : Int) 0))) (e_idxOwn (x0 := x) Try.underlying38 Try.sizeOf3 rfl rfl hoL (fun _ => rfl) hx (by omega)) ?_
        refine Go.XK.s (v := .int .i64 x) (e_ldEl (xs := l) (enc := encI) (e := x) rfl (Go.XK.Own.rd hoL (fun _ => rfl)) hx Try.isAgg3 rfl) ?_
        refine Go.XK.s (v := .int .i64 x) (e_assign rfl) ?_
        refine sl_nil (nrm_k ?_)
        refine sc_reg ?_
        refine Go.XK.s (v := .pointer (some ⟨b, 0, none⟩)) (e_move rfl) ?_
        refine Go.XK.s (v := .pointer (some ⟨b, 0, none⟩)) (e_move rfl) ?_
        refine Go.XK.s (v := .pointer (some ⟨b, 0, none⟩)) (e_nilCheck rfl) ?_
        refine Go.XK.s (v := .pointer (some ⟨b, 2, none⟩)) (e_fieldB (sz := 1) Try.underlying109 rfl Try.sizeOf107 (by decide) rfl rfl) ?_
        refine Go.XK.s (v := lv_) (e_load rfl (load1 Try.isAgg107 (hbw.cell (j := 2) rfl))) ?_
        refine Go.XK.s (v := .int .i64 x) (e_move rfl) ?_
        refine Go.XK.s (v := .agg #[.int .i64 x, .string (B [])]) (e_build (vs := [(0, .int .i64 x)]) rfl (by kernel_rfl)) ?_
        refine s_bslice (vs := [(0, .agg #[.int .i64 x, .string (B [])])]) (e := 114) rfl [.int .i64 x, .string (B [])] (by kernel_rfl) ?_
        intro b37 w4 hb37 he37 hs37 hx37
        have ne_b37_b : b37 ≠ b := by have h_ := hbw.lt; omega
        have no_b37_hoL : Value.ownBlock vL ≠ some b37 := fun h_ => by have h2_ := (Go.XK.Own.lt hoL _ h_).2; omega
        have no_b37_hop : Value.ownBlock lv_ ≠ some b37 := fun h_ => by have h2_ := (Go.XK.Own.lt hop _ h_).2; omega
        have gew0_b37 : w0.heap.size ≤ b37 := by have h_ := (Below.size xw0_w2); omega
        have xw0_w4 : Ext w0 w4 := Ext.tr xw0_w2 hx37
        replace hfr := Fr2.ext hfr hx37
        replace hbw := hbw.ext hx37
        replace hoL := hoL.ext hx37
        replace hop := hop.ext hx37
        refine s_appendLit2 (w0 := w0) (z := .agg #[.int .i64 0, .string (B [])]) (kk := 2) (bytes := 24) rfl rfl Try.underlying107 (by kernel_rfl) rfl (by decide) (fun _ => rfl) one_encP [⟨x, []⟩] hop xw0_w4 hb37 rfl rfl (by first | (simp only [maxLen]; simp; omega) | (simp; omega)) (by first | (simp only [maxLen]; simp; omega) | (simp; omega)) ?_
        intro v38 w5 ho38 xw_w5 hg38 hat38
        replace hfr := Fr2.grow hfr hg38 hat38
        replace hbw := hbw.grown hg38 (Own.ne hop hbw (by decide))
        replace hb37 := hb37.grown hg38 no_b37_hop
        replace hoL := Go.XK.Own.other hoL hop hg38 (by decide)
        refine Go.XK.s (v := .pointer (some ⟨b, 0, none⟩)) (e_nilCheck rfl) ?_
        refine Go.XK.s (v := .pointer (some ⟨b, 2, none⟩)) (e_fieldB (sz := 1) Try.underlying109 rfl Try.sizeOf107 (by decide) rfl rfl) ?_
        refine su_blkV [v38] [.int .i64 start, .int .i64 base, v38] rfl rfl hbw (own_cells ho38).1 Try.sizeOf107 (Nat.le_of_ble_eq_true rfl) (own_cells ho38).2 rfl ?_
        intro w6 hn_ hm_w6 hs_w6
        have ho_ := hbw
        replace hbw := hn_
        clear hn_
        replace hb37 := hb37.mut hm_w6 ne_b37_b
        replace hoL := hoL.mut hm_w6 (Own.ne hoL ho_ (by decide))
        replace ho38 := ho38.mut hm_w6 (Own.ne ho38 ho_ (by decide))
        replace hfr := Fr2.mut hfr hm_w6 (.inl rfl)
        have xw0_w6 : Ext w0 w6 := below_mut xw_w5 (Below.size xw_w5) hm_w6 hb0
        refine sl_nil (nrm_k ?_)
        refine sc_reg ?_
        refine Go.XK.s (v := .int .i64 ((i : Int) + 1)) (e_add rfl rfl (by omega)) ?_
        refine Go.XK.s (v := .int .i64 ((i : Int) + 1)) (e_move rfl) ?_
        refine sl_nil ?_
        rw [List.append_assoc, ← map_take_next (fun a => (⟨a, []⟩ : Pn)) hx] at ho38
        exact nrm_loopq rfl _ _ (by omega) ⟨i + 1, v38, rfl, rfl, xw0_w6, hbw, hoL, ho38, ⟨by omega, hfr⟩⟩ (.cons rfl (.cons rfl (.cons rfl (.cons rfl (.cons rfl (.nil))))))
      ·
        refine sc_exit rfl (nrm_k ?_)
        refine sc_seq ?_
        refine sc_reg ?_
        refine Go.XK.s (v := vL) (e_move rfl) ?_
        refine Go.XK.s (v := vL) (e_assign rfl) ?_
        refine Go.XK.s (v := .int .i64 0) (e_assign rfl) ?_
        refine sl_nil (nrm_k ?_)
        refine sc_retf rfl (ret2 Try.results37 (rvt rfl) (rvt rfl) ?_)
        have hR := rsZ_some (z := z) (by simpa using c15) hm hlE
        rw [List.take_of_length_le (show l.length ≤ i by omega)] at hop
        exact ⟨vL, lv_, by rw [hR], by rw [hR]; exact hoL, hbw, by rw [hR]; exact hop, hfr, xw0_w2⟩

/-- (*masterdisc/packetwriter.Writer).find$1 (function 83) -/
theorem findp_c (x : Pn) (q : Nat) (a : Int) (w : World) (hbq : Blk w q 3 [.int .i64 a]) : CallR Try.prog 83 [.agg #[.int .i64 x.p, .string (B x.b)], .pointer (some ⟨q, 0, none⟩)] w (fun v w' => v = .bool (decide (x.p = a)) ∧ Ext w w') := by
  refine callR_of (n := 8) [(0, .agg #[.int .i64 x.p, .string (B x.b)]), (1, .pointer (some ⟨q, 0, none⟩))] Try.func83 rfl rfl (Nat.le_of_ble_eq_true rfl) rfl ?_
  refine sc_seq ?_
  refine sc_reg ?_
  refine s_box (cs := [.int .i64 x.p, .string (B x.b)]) rfl rfl ?_
  intro b2 w1 hb2 he2 hs2 hx2
  have ne_b2_q : b2 ≠ q := by have h_ := hbq.lt; omega
  have ge_b2 : w.heap.size ≤ b2 := by have h_ := (Below.size (Ext.rfl' w)); omega
  have xw_w1 : Ext w w1 := Ext.tr (Ext.rfl' w) hx2
  replace hbq := hbq.ext hx2
  refine Go.XK.s (v := .bool false) (e_assign rfl) ?_
  refine sl_nil (nrm_k ?_)
  refine sc_seq ?_
  refine sc_reg ?_
  refine Go.XK.s (v := .pointer (some ⟨b2, 0, none⟩)) (e_fieldB (sz := 1) Try.underlying114 rfl Try.sizeOf3 (by decide) rfl rfl) ?_
  refine Go.XK.s (v := .int .i64 x.p) (e_load rfl (load1 Try.isAgg3 (hb2.cell (j := 0) rfl))) ?_
  refine Go.XK.s (v := .int .i64 a) (e_load rfl (load1 Try.isAgg3 (hbq.cell (j := 0) rfl))) ?_
  refine Go.XK.s (v := .bool (decide (x.p = a))) (e_eq rfl rfl) ?_
  refine Go.XK.s (v := .bool (decide (x.p = a))) (e_assign rfl) ?_
  refine sl_nil (nrm_k ?_)
  refine sc_retf rfl (ret1 Try.results83 (rvt rfl) ?_)
  exact ⟨rfl, xw_w1⟩

/-- slices.IndexFunc[[]masterdisc/packetwriter.pending,masterdisc/packetwriter.pending] (function 82) -/
theorem indexp_c (ps : List Pn) (A : Option Addr) (c : Nat) (q : Nat) (a : Int) (w : World) (hl : SlR w A c 2 encP ps) (hbq : Blk w q 3 [.int .i64 a]) : CallR Try.prog 82 [.slice A ps.length c, .func (.func 83) #[] #[.pointer (some ⟨q, 0, none⟩)]] w (fun v w' => v = .int .i64 (idxP ps a) ∧ Ext w w') := by
  have hmx0 := hl.lenle
  simp only [maxLen] at hmx0
  refine callR_of (n := 19) [(0, .slice A ps.length c), (1, .func (.func 83) #[] #[.pointer (some ⟨q, 0, none⟩)])] Try.func82 rfl rfl (Nat.le_of_ble_eq_true rfl) rfl ?_
  refine sc_seq ?_
  refine sc_reg ?_
  refine Go.XK.s (v := .int .i64 0) (e_assign rfl) ?_
  refine sl_nil (nrm_k ?_)
  refine sc_seq ?_
  refine sc_seq ?_
  refine sc_reg ?_
  refine Go.XK.s (v := .slice A ps.length c) (e_move rfl) ?_
  refine Go.XK.s (v := .int .i64 (ps.length : Int)) (e_len Try.underlying107 rfl) ?_
  refine Go.XK.s (v := .int .i64 0) (e_move rfl) ?_
  refine sl_nil (nrm_k ?_)
  refine sc_block ?_
  refine sc_loop (fun m_ l_ w_ => ∃ (i : Nat), m_ = ps.length - i ∧ l_ = [(8, .int .i64 (i : Int)), (0, .slice A ps.length c), (1, .func (.func 83) #[] #[.pointer (some ⟨q, 0, none⟩)]), (7, .int .i64 (ps.length : Int))] ∧ Ext w w_ ∧ Blk w_ q 3 [.int .i64 a] ∧ i ≤ ps.length ∧ (ps.take i).any (fun x => decide (x.p = a)) = false) _ [(8, .int .i64 (0 : Int)), (0, .slice A ps.length c), (1, .func (.func 83) #[] #[.pointer (some ⟨q, 0, none⟩)]), (7, .int .i64 (ps.length : Int))] ⟨0, rfl, rfl, (Ext.rfl' w), hbq, ⟨by omega, rfl⟩⟩ (.cons rfl (.cons rfl (.cons rfl (.cons rfl (.nil))))) ?_
  rintro j2 _ w1 ⟨i, rfl, rfl, xw_w1, hbq, ⟨hi, hno⟩⟩
  refine sc_seq ?_
  refine sc_reg ?_
  refine Go.XK.s (v := .bool (decide ((i : Int) < (ps.length : Int)))) (e_lt rfl rfl) ?_
  refine sl_nil (nrm_k ?_)
  refine sc_seq ?_
  refine sc_ifd rfl (fun c9 => ?_) (fun c9 => ?_)
  ·
    obtain ⟨x, hx⟩ : ∃ x, ps[i]? = some x := ⟨_, List.getElem?_eq_getElem (by omega)⟩
    refine sc_skip (nrm_k ?_)
    refine sc_seq ?_
    refine sc_block ?_
    refine sc_seq ?_
    refine sc_reg ?_
    refine Go.XK.s (v := .int .i64 (i : Int)) (e_move rfl) ?_
    refine Go.XK.s (v := .int .i64 (i : Int)) (e_assign rfl) ?_
    refine sl_nil (nrm_k ?_)
    refine sc_seq ?_
    refine sc_reg ?_
    refine Go.XK.s (v := .func (.func 83) #[] #[.pointer (some ⟨q, 0, none⟩)]) (e_move rfl) ?_
    refine Go.XK.s (v := .slice A ps.length c) (e_move rfl) ?_
    refine Go.XK.s (v := .int .i64 (i : Int)) (e_move rfl) ?_
    refine Go.XK.s (v := .pointer (some (el A 2 (i : Int) 0))) (e_idxEl (e := x) Try.underlying107 Try.sizeOf114 rfl rfl (hl.1.ext xw_w1) hx (by omega) rfl) ?_
    refine Go.XK.s (v := .agg #[.int .i64 x.p, .string (B x.b)]) (e_ldElA (xs := ps) (enc := encP) (e := x) rfl (hl.1.ext xw_w1) hx Try.isAgg114 Try.sizeOf114 rfl) ?_
    refine sl_call ent83 rfl rfl (findp_c x q _ w1 hbq) (by decide) ?_
    rintro _ w3 ⟨rfl, hw3⟩
    have xw_w3 : Ext w w3 := Ext.tr xw_w1 hw3
    replace hbq := hbq.ext hw3
    refine sl_nil (nrm_k ?_)
    refine sc_if rfl (fun c16 => ?_) (fun c16 => ?_)
    ·
      refine sc_seq ?_
      refine sc_reg ?_
      refine Go.XK.s (v := .int .i64 (i : Int)) (e_move rfl) ?_
      refine Go.XK.s (v := .int .i64 (i : Int)) (e_assign rfl) ?_
      refine sl_nil (nrm_k ?_)
      refine sc_retf rfl (ret1 Try.results82 (rvt rfl) ?_)
      exact ⟨congrArg (Value.int .i64) (idxP_at hx hno (of_decide_eq_true c16)).symm, xw_w3⟩
    ·
      refine sc_skip (nrm_k ?_)
      refine sc_reg ?_
      refine Go.XK.s (v := .int .i64 ((i : Int) + 1)) (e_add rfl rfl (by omega)) ?_
      refine Go.XK.s (v := .int .i64 ((i : Int) + 1)) (e_move rfl) ?_
      refine sl_nil ?_
      exact nrm_loopq rfl _ _ (by omega) ⟨i + 1, rfl, rfl, xw_w3, hbq, ⟨by omega, idxP_take hx hno (of_decide_eq_false c16)⟩⟩ (.cons rfl (.cons rfl (.cons rfl (.cons rfl (.nil)))))
  ·
    refine sc_exit rfl (nrm_k ?_)
    refine sc_seq ?_
    refine sc_reg ?_
    refine Go.XK.s (v := .int .i64 (-1)) (e_assign rfl) ?_
    refine sl_nil (nrm_k ?_)
    refine sc_retf rfl (ret1 Try.results82 (rvt rfl) ?_)
    exact ⟨congrArg (Value.int .i64) (idxP_no hno (by omega)).symm, xw_w1⟩

/-- (*masterdisc/packetwriter.Writer).find (function 69) -/
theorem find_c (w0 : World) (b : Nat) (lv : Value) (start base : Int) (ps : List Pn) (a : Int) (w : World) (hb0 : w0.heap.size ≤ b) (hx0 : Ext w0 w) (hbw : Blk w b 109 [.int .i64 start, .int .i64 base, lv]) (hop : Go.XK.Own w w0.heap.size 114 2 encP lv ps) (hwf : Wf start base ps) : CallR Try.prog 69 [.pointer (some ⟨b, 0, none⟩), .int .i64 a] w (fun v w' => v = .int .i64 (idxP ps a) ∧ Ext w w') := by
  have hs0 := hwf.s0
  have hsb := hwf.sb
  have hb1 := hwf.b1
  have hlw := lastP_wf hwf
  have haw := atP_wf hwf
  have hpl := hwf.len
  refine callR_of (n := 11) [(0, .pointer (some ⟨b, 0, none⟩)), (1, .int .i64 a)] Try.func69 rfl rfl (Nat.le_of_ble_eq_true rfl) rfl ?_
  refine sc_seq ?_
  obtain ⟨AV, cV, eV_, hlcV, hcmV, _⟩ := Go.XK.Own.shape hop (fun _ => rfl)
  subst eV_
  refine sc_reg ?_
  refine s_box (cs := [.int .i64 a]) rfl rfl ?_
  intro b3 w1 hb3 he3 hs3 hx3
  have ne_b3_b : b3 ≠ b := by have h_ := hbw.lt; omega
  have no_b3_hop : Value.ownBlock (.slice AV ps.length cV) ≠ some b3 := fun h_ => by have h2_ := (Go.XK.Own.lt hop _ h_).2; omega
  have ge_b3 : w.heap.size ≤ b3 := by have h_ := (Below.size (Ext.rfl' w)); omega
  have xw_w1 : Ext w w1 := Ext.tr (Ext.rfl' w) hx3
  replace hbw := hbw.ext hx3
  replace hop := hop.ext hx3
  refine Go.XK.s (v := .int .i64 0) (e_assign rfl) ?_
  refine sl_nil (nrm_k ?_)
  refine sc_seq ?_
  refine sc_reg ?_
  refine Go.XK.s (v := .pointer (some ⟨b, 0, none⟩)) (e_move rfl) ?_
  refine Go.XK.s (v := .pointer (some ⟨b, 0, none⟩)) (e_nilCheck rfl) ?_
  refine Go.XK.s (v := .pointer (some ⟨b, 2, none⟩)) (e_fieldB (sz := 1) Try.underlying109 rfl Try.sizeOf107 (by decide) rfl rfl) ?_
  refine Go.XK.s (v := .slice AV ps.length cV) (e_load rfl (load1 Try.isAgg107 (hbw.cell (j := 2) rfl))) ?_
  refine Go.XK.s (v := .func (.func 83) #[] #[.pointer (some ⟨b3, 0, none⟩)]) (e_makeFunc (vs := [.pointer (some ⟨b3, 0, none⟩)]) rfl) ?_
  refine sl_call ent82 rfl rfl (indexp_c _ _ _ b3 _ w1 (Go.XK.Own.slr hop (fun _ => rfl)) hb3) (by decide) ?_
  rintro _ w2 ⟨rfl, hw2⟩
  have xw_w2 : Ext w w2 := Ext.tr xw_w1 hw2
  replace hbw := hbw.ext hw2
  replace hb3 := hb3.ext hw2
  replace hop := hop.ext hw2
  refine Go.XK.s (v := .int .i64 (idxP ps a)) (e_assign rfl) ?_
  refine sl_nil (nrm_k ?_)
  refine sc_retf rfl (ret1 Try.results69 (rvt rfl) ?_)
  exact ⟨rfl, xw_w2⟩

/-- (*masterdisc/packetwriter.Writer).Fill (function 41) -/
theorem fill_c (w0 : World) (b : Nat) (lv : Value) (start base : Int) (ps : List Pn) (a : Int) (s : List UInt8) (w : World) (hb0 : w0.heap.size ≤ b) (hx0 : Ext w0 w) (hbw : Blk w b 109 [.int .i64 start, .int .i64 base, lv]) (hop : Go.XK.Own w w0.heap.size 114 2 encP lv ps) (hwf : Wf start base ps) : CallR Try.prog 41 [.pointer (some ⟨b, 0, none⟩), .int .i64 a, .string (B s)] w (fun v w' => v = .int .i64 (fillE a s ps) ∧ Blk w' b 109 [.int .i64 start, .int .i64 base, lv] ∧ Go.XK.Own w' w0.heap.size 114 2 encP lv (fillP a s ps) ∧ Fr2 w w' b lv lv ∧ Ext w0 w') := by
  have hs0 := hwf.s0
  have hsb := hwf.sb
  have hb1 := hwf.b1
  have hlw := lastP_wf hwf
  have haw := atP_wf hwf
  have hpl := hwf.len
  have hfr := Fr2.rfl' w b lv
  refine callR_of (n := 35) [(0, .pointer (some ⟨b, 0, none⟩)), (1, .int .i64 a), (2, .string (B s))] Try.func41 rfl rfl (Nat.le_of_ble_eq_true rfl) rfl ?_
  refine sc_seq ?_
  refine sc_reg ?_
  refine Go.XK.s (v := .int .i64 0) (e_assign rfl) ?_
  refine sl_nil (nrm_k ?_)
  refine sc_seq ?_
  refine sc_seq ?_
  refine sc_reg ?_
  refine Go.XK.s (v := .string (B s)) (e_move rfl) ?_
  refine Go.XK.s (v := .int .i64 (s.length : Int)) (e_slen Try.underlying9 rfl) ?_
  refine Go.XK.s (v := .bool (decide ((s.length : Int) ≠ 2048))) (e_ne rfl rfl) ?_
  refine sl_nil (nrm_k ?_)
  refine sc_ifd rfl (fun c10 => ?_) (fun c10 => ?_)
  ·
    refine sc_seq ?_
    refine sc_reg ?_
    refine Go.XK.s (v := .int .i64 1) (e_assign rfl) ?_
    refine sl_nil (nrm_k ?_)
    refine sc_retf rfl (ret1 Try.results41 (rvt rfl) ?_)
    have hE := fill_len (a := a) (ps := ps) c10
    exact ⟨by rw [hE], hbw, by rw [fillP_no hE (by decide)]; exact hop, hfr, hx0⟩
  ·
    refine sc_skip (nrm_k ?_)
    refine sc_seq ?_
    refine sc_reg ?_
    refine Go.XK.s (v := .pointer (some ⟨b, 0, none⟩)) (e_move rfl) ?_
    refine Go.XK.s (v := .int .i64 a) (e_move rfl) ?_
    refine sl_call ent69 rfl rfl (find_c w0 _ _ _ _ _ _ w hb0 hx0 hbw hop hwf) (by decide) ?_
    rintro _ w1 ⟨rfl, hw1⟩
    have xw_w1 : Ext w w1 := Ext.tr (Ext.rfl' w) hw1
    have xw0_w1 : Ext w0 w1 := Ext.tr hx0 hw1
    replace hfr := Fr2.ext hfr hw1
    replace hbw := hbw.ext hw1
    replace hop := hop.ext hw1
    refine Go.XK.s (v := .int .i64 (idxP ps a)) (e_assign rfl) ?_
    refine sl_nil (nrm_k ?_)
    refine sc_seq ?_
    refine sc_block ?_
    refine sc_seq ?_
    refine sc_reg ?_
    refine Go.XK.s (v := .int .i64 (idxP ps a)) (e_move rfl) ?_
    refine Go.XK.s (v := .bool (decide (idxP ps a < 0))) (e_lt rfl rfl) ?_
    refine Go.XK.s (v := .bool (decide (idxP ps a < 0))) (e_assign rfl) ?_
    refine sl_nil (nrm_k ?_)
    refine sc_ifd rfl (fun c14 => ?_) (fun c14 => ?_)
    ·
      refine sc_seq ?_
      refine sc_reg ?_
      refine Go.XK.s (v := .int .i64 6) (e_assign rfl) ?_
      refine sl_nil (nrm_k ?_)
      refine sc_retf rfl (ret1 Try.results41 (rvt rfl) ?_)
      have hE := fill_none (a := a) (ps := ps) c10 c14
      exact ⟨by rw [hE], hbw, by rw [fillP_no hE (by decide)]; exact hop, hfr, xw0_w1⟩
    ·
      have hgi : ¬ idxP ps a < 0 := c14
      obtain ⟨x, hx, hxa, hxl⟩ := idxP_get hgi
      refine sc_seq ?_
      refine sc_reg ?_
      refine Go.XK.s (v := .pointer (some ⟨b, 0, none⟩)) (e_move rfl) ?_
      refine Go.XK.s (v := .pointer (some ⟨b, 0, none⟩)) (e_nilCheck rfl) ?_
      refine Go.XK.s (v := .pointer (some ⟨b, 2, none⟩)) (e_fieldB (sz := 1) Try.underlying109 rfl Try.sizeOf107 (by decide) rfl rfl) ?_
      refine Go.XK.s (v := lv) (e_load rfl (load1 Try.isAgg107 (hbw.cell (j := 2) rfl))) ?_
      refine Go.XK.s (v := .int .i64 (idxP ps a)) (e_move rfl) ?_
      refine Go.XK.s (v := .pointer (some (el (ownA lv) 2 (idxP ps a) 0))) (e_idxOwn (x0 := x) Try.underlying107 Try.sizeOf114 rfl rfl hop (fun _ => rfl) hx (by omega)) ?_
      refine Go.XK.s (v := .pointer (some (el (ownA lv) 2 (idxP ps a) 1))) (e_fieldEl (fsz := 1) Try.underlying114 rfl Try.sizeOf9 (by decide) rfl rfl) ?_
      refine Go.XK.s (v := .string (B x.b)) (e_ldEl (xs := ps) (enc := encP) (e := x) rfl (Go.XK.Own.rd hop (fun _ => rfl)) hx Try.isAgg9 rfl) ?_
      refine Go.XK.s (v := .bool (decide (x.b ≠ []))) (e_sne rfl rfl) ?_
      refine Go.XK.s (v := .bool (decide (x.b ≠ []))) (e_assign rfl) ?_
      refine sl_nil (nrm_k ?_)
      refine sc_ifd rfl (fun c17 => ?_) (fun c17 => ?_)
      ·
        refine sc_seq ?_
        refine sc_reg ?_
        refine Go.XK.s (v := .int .i64 5) (e_assign rfl) ?_
        refine sl_nil (nrm_k ?_)
        refine sc_retf rfl (ret1 Try.results41 (rvt rfl) ?_)
        have hE := fill_full (a := a) (ps := ps) c10 hgi hx c17
        exact ⟨by rw [hE], hbw, by rw [fillP_no hE (by decide)]; exact hop, hfr, xw0_w1⟩
      ·
        refine sc_skip (nrm_k ?_)
        refine sc_seq ?_
        refine sc_reg ?_
        refine Go.XK.s (v := .pointer (some ⟨b, 0, none⟩)) (e_move rfl) ?_
        refine Go.XK.s (v := .pointer (some ⟨b, 0, none⟩)) (e_nilCheck rfl) ?_
        refine Go.XK.s (v := .pointer (some ⟨b, 2, none⟩)) (e_fieldB (sz := 1) Try.underlying109 rfl Try.sizeOf107 (by decide) rfl rfl) ?_
        refine Go.XK.s (v := lv) (e_load rfl (load1 Try.isAgg107 (hbw.cell (j := 2) rfl))) ?_
        refine Go.XK.s (v := .int .i64 (idxP ps a)) (e_move rfl) ?_
        refine Go.XK.s (v := .string (B s)) (e_move rfl) ?_
        refine Go.XK.s (v := .pointer (some (el (ownA lv) 2 (idxP ps a) 0))) (e_idxOwn (x0 := x) Try.underlying107 Try.sizeOf114 rfl rfl hop (fun _ => rfl) hx (by omega)) ?_
        refine Go.XK.s (v := .pointer (some (el (ownA lv) 2 (idxP ps a) 1))) (e_fieldEl (fsz := 1) Try.underlying114 rfl Try.sizeOf9 (by decide) rfl rfl) ?_
        refine su_ownSet (w0 := w0) (x0 := x) (v := lv) (⟨x.p, s⟩) rfl rfl hop xw0_w1 (fun _ => rfl) hx (by decide) rfl rfl Try.sizeOf9 rfl ?_
        intro w2 hn_ xw_w2 hg_w2
        have ho_ := hop
        replace hfr := Fr2.grow hfr hg_w2 (.inl rfl)
        replace hbw := hbw.grown hg_w2 (Own.ne ho_ hbw (by decide))
        replace hop := hn_
        clear hn_ ho_
        refine sl_nil (nrm_k ?_)
        refine sc_seq ?_
        refine sc_reg ?_
        refine Go.XK.s (v := .int .i64 0) (e_assign rfl) ?_
        refine sl_nil (nrm_k ?_)
        refine sc_retf rfl (ret1 Try.results41 (rvt rfl) ?_)
        have hE := fill_ok (a := a) (ps := ps) c10 hgi hx c17
        exact ⟨by rw [hE], hbw, by rw [fillP_ok hE]; rw [hxa] at hop; exact hop, hfr, xw_w2⟩

end Go.Proofs.Ytfcjianiodiejaa
