/- Chapter 52: C18. Printed by my program wip/tools/wk.py. -/
import Derived.Test.YtfcjianiodiejaaC17
import Derived.Test.YtfcjianiodiejaaMath11
set_option linter.unusedVariables false
set_option linter.unusedSimpArgs false
set_option maxRecDepth 4000
set_option maxHeartbeats 40000000
namespace Go.Proofs.Ytfcjianiodiejaa
open Go.XK Go.RowKit
theorem reserve_d (w0 : World) (b : Nat) (lv : Value) (start base : Int) (ps : List Pn) (z : Int) (w : World) (hb0 : w0.heap.size ≤ b) (hx0 : Ext w0 w) (hbw : Blk w b 109 [.int .i64 start, .int .i64 base, lv]) (hop : Go.XK.Own w w0.heap.size 114 2 encP lv ps) (hwf : Wf start base ps) {e : Int} {l : List Int} {ps' : List Pn} (hr : rsZ z start base ps = (e, l, ps')) :
    CallR Try.prog 37 [.pointer (some ⟨b, 0, none⟩), .int .i64 z] w (fun v w' => ∃ v1 lv', v = .tuple #[v1, .int .i64 e] ∧ Go.XK.Own w' w.heap.size 3 1 encI v1 l ∧ Blk w' b 109 [.int .i64 start, .int .i64 base, lv'] ∧ Go.XK.Own w' w0.heap.size 114 2 encP lv' ps' ∧ Fr2 w w' b lv lv' ∧ Ext w0 w') := by
  have h := reserve_c w0 b lv start base ps z w hb0 hx0 hbw hop hwf
  rw [hr] at h; exact h
theorem fill_d (w0 : World) (b : Nat) (lv : Value) (start base : Int) (ps : List Pn) (a : Int) (s : List UInt8) (w : World) (hb0 : w0.heap.size ≤ b) (hx0 : Ext w0 w) (hbw : Blk w b 109 [.int .i64 start, .int .i64 base, lv]) (hop : Go.XK.Own w w0.heap.size 114 2 encP lv ps) (hwf : Wf start base ps) {e : Int} {ps' : List Pn} (hf : fillE a s ps = e ∧ fillP a s ps = ps') :
    CallR Try.prog 41 [.pointer (some ⟨b, 0, none⟩), .int .i64 a, .string (B s)] w (fun v w' => v = .int .i64 e ∧ Blk w' b 109 [.int .i64 start, .int .i64 base, lv] ∧ Go.XK.Own w' w0.heap.size 114 2 encP lv ps' ∧ Fr2 w w' b lv lv ∧ Ext w0 w') := by
  have h := fill_c w0 b lv start base ps a s w hb0 hx0 hbw hop hwf
  rw [hf.1, hf.2] at h; exact h
theorem open_d (w0 : World) (b : Nat) (lv : Value) (start base : Int) (ps : List Pn) (w : World) (hb0 : w0.heap.size ≤ b) (hx0 : Ext w0 w) (hbw : Blk w b 109 [.int .i64 start, .int .i64 base, lv]) (hop : Go.XK.Own w w0.heap.size 114 2 encP lv ps) (hwf : Wf start base ps) {l : List Int} (ho : opnL ps = l) :
    CallR Try.prog 39 [.pointer (some ⟨b, 0, none⟩)] w (fun v w' => Go.XK.Own w' w.heap.size 3 1 encI v l ∧ Ext w w') := by
  have h := open_c w0 b lv start base ps w hb0 hx0 hbw hop hwf
  rw [ho] at h; exact h

/-- masterdisc/masterdisclaw52.PacketwriterReserved (function 9) -/
theorem reserved_c (start next count : UInt8) (ctl : Bool) (w : World) : CallR Try.prog 9 [.int .u8 start.toNat, .int .u8 next.toNat, .int .u8 count.toNat, .bool ctl] w (fun v w' => v = .bool true ∧ Ext w w') := by
  refine callR_of (n := 206) [(0, .int .u8 start.toNat), (1, .int .u8 next.toNat), (2, .int .u8 count.toNat), (3, .bool ctl)] Try.func9 rfl rfl (Nat.le_of_ble_eq_true rfl) rfl ?_
  refine sc_seq ?_
  refine sc_reg ?_
  refine Go.XK.s (v := .bool false) (e_assign rfl) ?_
  refine sl_nil (nrm_k ?_)
  refine sc_seq ?_
  refine sc_seq ?_
  refine sc_reg ?_
  refine sl_call ent11 rfl rfl (awake_c w) (by decide) ?_
  rintro _ w1 ⟨rfl, hw1⟩
  have xw_w1 : Ext w w1 := Ext.tr (Ext.rfl' w) hw1
  refine Go.XK.s (v := .bool false) (e_not (b := true) rfl) ?_
  refine sl_nil (nrm_k ?_)
  refine sc_no rfl rfl ?_
  refine sc_skip (nrm_k ?_)
  refine sc_seq ?_
  have hsn := start.toNat_lt
  have hnn := next.toNat_lt
  have hcn := count.toNat_lt
  obtain ⟨hE0, base0, hB0, hW0, hb520⟩ := new_ok (st := (start.toNat : Int)) (nx := (next.toNat : Int)) (by omega) (by omega) (by omega) (by omega)
  have hW0b := hW0.sb
  refine sc_reg ?_
  refine Go.XK.s (v := .int .u8 start.toNat) (e_move rfl) ?_
  refine Go.XK.s (v := .int .i64 (start.toNat : Int)) (e_u8int (c := start) Try.underlying5 Try.underlying3 (by decide) rfl) ?_
  refine Go.XK.s (v := .int .u8 start.toNat) (e_move rfl) ?_
  refine Go.XK.s (v := .int .i64 (start.toNat : Int)) (e_u8int (c := start) Try.underlying5 Try.underlying3 (by decide) rfl) ?_
  refine Go.XK.s (v := .int .u8 next.toNat) (e_move rfl) ?_
  refine Go.XK.s (v := .int .i64 (next.toNat : Int)) (e_u8int (c := next) Try.underlying5 Try.underlying3 (by decide) rfl) ?_
  refine Go.XK.s (v := .int .i64 ((start.toNat : Int) + (next.toNat : Int))) (e_add rfl rfl (by omega)) ?_
  refine sl_call ent23 rfl rfl (new_d (start.toNat : Int) ((start.toNat : Int) + (next.toNat : Int)) w1 (by omega) (by omega) base0 hE0 hB0) (by decide) ?_
  rintro _ w2 ⟨bw, rfl, hbw, hgw, hw2⟩
  have ge_bw : w.heap.size ≤ bw := by have h_ := Below.size xw_w1; omega
  have xw_w2 : Ext w w2 := Ext.tr xw_w1 hw2
  have hop : Go.XK.Own w2 w.heap.size 114 2 encP (.slice none 0 0) [] := Go.XK.Own.nil _ _ _ _ _
  refine Go.XK.s (v := .tuple #[.pointer (some ⟨bw, 0, none⟩), .int .i64 0]) (e_move rfl) ?_
  refine Go.XK.s (v := .pointer (some ⟨bw, 0, none⟩)) (e_extract (vs := [.pointer (some ⟨bw, 0, none⟩), .int .i64 0]) rfl rfl) ?_
  refine Go.XK.s (v := .int .i64 0) (e_extract (vs := [.pointer (some ⟨bw, 0, none⟩), .int .i64 0]) rfl rfl) ?_
  refine Go.XK.s (v := .pointer (some ⟨bw, 0, none⟩)) (e_assign rfl) ?_
  refine Go.XK.s (v := .int .i64 0) (e_assign rfl) ?_
  refine sl_nil (nrm_k ?_)
  refine sc_seq ?_
  refine sc_seq ?_
  refine sc_reg ?_
  refine Go.XK.s (v := .int .i64 0) (e_move rfl) ?_
  refine Go.XK.s (v := .bool (decide ((0 : Int) ≠ 0))) (e_ne rfl rfl) ?_
  refine Go.XK.s (v := .bool (decide ((0 : Int) ≠ 0))) (e_move rfl) ?_
  refine sl_gev (v := .pointer (some ⟨bw, 0, none⟩)) rfl rfl (by decide) (e_move rfl) rfl (by decide) ?_
  refine sl_gev (v := .bool false) rfl rfl (by decide) (e_peqnil (by kernel_rfl) rfl rfl) rfl (by decide) ?_
  refine Go.XK.s (v := .bool false) (e_pickF rfl (by decide) rfl) ?_
  refine sl_nil (nrm_k ?_)
  refine sc_no rfl rfl ?_
  refine sc_skip (nrm_k ?_)
  refine sc_seq ?_
  obtain ⟨l, hrs, hRv⟩ := rv_new (z := (count.toNat : Int) % 61) hW0 hb520 (by omega) (by omega)
  have hopn := hRv.opn
  have hln := hRv.n
  refine sc_reg ?_
  refine Go.XK.s (v := .pointer (some ⟨bw, 0, none⟩)) (e_move rfl) ?_
  refine Go.XK.s (v := .int .u8 count.toNat) (e_move rfl) ?_
  refine Go.XK.s (v := .int .i64 (count.toNat : Int)) (e_u8int (c := count) Try.underlying5 Try.underlying3 (by decide) rfl) ?_
  refine Go.XK.s (v := .int .i64 ((count.toNat : Int) % 61)) (e_rem rfl rfl (by omega) (by omega)) ?_
  refine sl_call ent37 rfl rfl (reserve_d w _ _ _ _ _ _ w2 ge_bw xw_w2 hbw hop hW0 hrs) (by decide) ?_
  rintro _ w3 ⟨vL1, lv1, rfl, hoL1, hbwN, hopN, hfrN, hw3⟩
  replace hoL1 := Own.low hoL1 (Below.size xw_w2)
  clear hbw hop
  have hbw := hbwN
  have hop := hopN
  clear hbwN hopN
  have xw_w3 := hw3
  obtain ⟨AL1, cL1, eL1_, hlcL1, hcmL1, _⟩ := Go.XK.Own.shape hoL1 (fun _ => rfl)
  subst eL1_
  refine Go.XK.s (v := .tuple #[.slice AL1 l.length cL1, .int .i64 0]) (e_move rfl) ?_
  refine Go.XK.s (v := .slice AL1 l.length cL1) (e_extract (vs := [.slice AL1 l.length cL1, .int .i64 0]) rfl rfl) ?_
  refine Go.XK.s (v := .int .i64 0) (e_extract (vs := [.slice AL1 l.length cL1, .int .i64 0]) rfl rfl) ?_
  refine Go.XK.s (v := .slice AL1 l.length cL1) (e_assign rfl) ?_
  refine Go.XK.s (v := .int .i64 0) (e_assign rfl) ?_
  refine sl_nil (nrm_k ?_)
  refine sc_seq ?_
  refine sc_seq ?_
  refine sc_reg ?_
  refine Go.XK.s (v := .int .i64 0) (e_move rfl) ?_
  refine Go.XK.s (v := .bool (decide ((0 : Int) ≠ 0))) (e_ne rfl rfl) ?_
  refine Go.XK.s (v := .bool (decide ((0 : Int) ≠ 0))) (e_move rfl) ?_
  refine sl_gev (v := .slice AL1 l.length cL1) rfl rfl (by decide) (e_move rfl) rfl (by decide) ?_
  refine sl_gev (v := .pointer (some ⟨bw, 0, none⟩)) rfl rfl (by decide) (e_move rfl) rfl (by decide) ?_
  refine sl_gcall rfl rfl (by decide) ent39 rfl rfl (open_d w _ _ _ _ _ w3 ge_bw xw_w3 hbw hop (hRv.wfq 0) hopn) (by decide) ?_
  rintro vO1 w4 ⟨hoO1, hw4⟩
  replace hoO1 := Own.low hoO1 (Below.size xw_w3)
  have xw_w4 : Ext w w4 := Ext.tr xw_w3 hw4
  replace hbw := hbw.ext hw4
  replace hop := hop.ext hw4
  replace hoL1 := hoL1.ext hw4
  obtain ⟨AO1, cO1, eO1_, hlcO1, hcmO1, _⟩ := Go.XK.Own.shape hoO1 (fun _ => rfl)
  subst eO1_
  refine sl_gcall rfl rfl (by decide) ent38 rfl rfl (equalI_c _ _ _ _ _ _ w4 (Go.XK.Own.slr hoL1 (fun _ => rfl)) (Go.XK.Own.slr hoO1 (fun _ => rfl))) (by decide) ?_
  rintro _ w5 ⟨rfl, hw5⟩
  have xw_w5 : Ext w w5 := Ext.tr xw_w4 hw5
  replace hbw := hbw.ext hw5
  replace hop := hop.ext hw5
  replace hoL1 := hoL1.ext hw5
  replace hoO1 := hoO1.ext hw5
  refine sl_gev (v := .bool (!(decide (l = l)))) rfl rfl (by decide) (e_not rfl) rfl (by decide) ?_
  refine Go.XK.s (v := .bool (!(decide (l = l)))) (e_pickF rfl (by decide) rfl) ?_
  refine sl_nil (nrm_k ?_)
  refine sc_no rfl (by simp) ?_
  refine sc_skip (nrm_k ?_)
  refine sc_seq ?_
  refine sc_reg ?_
  refine Go.XK.s (v := .pointer (some ⟨bw, 0, none⟩)) (e_move rfl) ?_
  refine sl_call ent40 rfl rfl (base_c w _ _ _ _ _ w5 ge_bw xw_w5 hbw hop (hRv.wfq 0)) (by decide) ?_
  rintro _ w6 ⟨rfl, hw6⟩
  have xw_w6 : Ext w w6 := Ext.tr xw_w5 hw6
  replace hbw := hbw.ext hw6
  replace hop := hop.ext hw6
  replace hoL1 := hoL1.ext hw6
  replace hoO1 := hoO1.ext hw6
  refine Go.XK.s (v := .pointer (some ⟨bw, 0, none⟩)) (e_move rfl) ?_
  refine sl_call ent26 rfl rfl (control_c w _ _ _ _ _ w6 ge_bw xw_w6 hbw hop (hRv.wfq 0)) (by decide) ?_
  rintro _ w7 ⟨rfl, hw7⟩
  have xw_w7 : Ext w w7 := Ext.tr xw_w6 hw7
  replace hbw := hbw.ext hw7
  replace hop := hop.ext hw7
  replace hoL1 := hoL1.ext hw7
  replace hoO1 := hoO1.ext hw7
  refine Go.XK.s (v := .int .i64 base0) (e_assign rfl) ?_
  refine Go.XK.s (v := .int .i64 (ctlP (start.toNat : Int) base0 (qP l 0))) (e_assign rfl) ?_
  refine Go.XK.s (v := .string (B [])) (e_assign rfl) ?_
  refine sl_nil (nrm_k ?_)
  refine sc_seq ?_
  refine sc_seq ?_
  refine sc_reg ?_
  refine Go.XK.s (v := .bool ctl) (e_move rfl) ?_
  refine sl_nil (nrm_k ?_)
  refine sc_if rfl (fun c64 => ?_) (fun c64 => ?_)
  ·
    refine sc_reg ?_
    refine sl_call ent24 rfl rfl (block_c 33 w7 (by decide)) (by decide) ?_
    rintro _ w8 ⟨rfl, hw8⟩
    have xw_w8 : Ext w w8 := Ext.tr xw_w7 hw8
    replace hbw := hbw.ext hw8
    replace hop := hop.ext hw8
    replace hoL1 := hoL1.ext hw8
    replace hoO1 := hoO1.ext hw8
    refine Go.XK.s (v := .string (B (blk1 33))) (e_assign rfl) ?_
    refine sl_nil (nrm_k ?_)
    refine sc_seq ?_
    refine sc_seq ?_
    obtain ⟨e1, cs1, base1, ps1, hfl1, hwf1, hmid⟩ := hRv.mid (c := blk1 33) (.inr (blk1_length _))
    refine sc_reg ?_
    refine Go.XK.s (v := .pointer (some ⟨bw, 0, none⟩)) (e_move rfl) ?_
    refine Go.XK.s (v := .string (B (blk1 33))) (e_move rfl) ?_
    refine sl_call ent27 rfl rfl (flush_d w _ _ _ _ _ _ w8 ge_bw xw_w8 hbw hop (hRv.wfq 0) hfl1) (by decide) ?_
    rintro _ w9 ⟨vF1, lvF1, ws1, rfl, hoF1, hiF1, hcs1, hbwN, hopN, hfrN, hw9⟩
    replace hoF1 := Own.low hoF1 (Below.size xw_w8)
    replace hoL1 := Go.XK.Own.fr2 hoL1 hfrN hbw hop (by decide) (by decide)
    replace hoO1 := Go.XK.Own.fr2 hoO1 hfrN hbw hop (by decide) (by decide)
    clear hbw hop
    have hbw := hbwN
    have hop := hopN
    clear hbwN hopN
    have xw_w9 := hw9
    refine Go.XK.s (v := .tuple #[vF1, .int .i64 e1]) (e_move rfl) ?_
    refine Go.XK.s (v := vF1) (e_extract (vs := [vF1, .int .i64 e1]) rfl rfl) ?_
    refine Go.XK.s (v := .int .i64 e1) (e_extract (vs := [vF1, .int .i64 e1]) rfl rfl) ?_
    refine Go.XK.s (v := vF1) (e_assign rfl) ?_
    refine Go.XK.s (v := .int .i64 e1) (e_assign rfl) ?_
    refine sl_nil (nrm_k ?_)
    refine sc_seq ?_
    refine sc_reg ?_
    refine Go.XK.s (v := .slice AL1 l.length cL1) (e_move rfl) ?_
    refine Go.XK.s (v := .int .i64 (l.length : Int)) (e_lenOwn Try.underlying38 rfl hoL1 (fun _ => rfl)) ?_
    refine Go.XK.s (v := .bool (decide ((0 : Int) < (l.length : Int)))) (e_gt rfl rfl) ?_
    refine Go.XK.s (v := .bool (decide ((0 : Int) < (l.length : Int)))) (e_move rfl) ?_
    refine sl_merge 3 78 (.bool ((decide ((0 : Int) < (l.length : Int))) && (decide (e1 ≠ 8)))) ?_ ?_
    · refine sl_case (t := 75) rfl (fun g13_3 => ?_) (fun g13_3 => ?_)
      ·
        refine sl_gev (v := .int .i64 e1) rfl rfl g13_3 (e_move rfl) rfl (by decide) ?_
        refine sl_gev (v := .bool (decide (e1 ≠ 8))) rfl rfl g13_3 (e_ne rfl rfl) rfl (by decide) ?_
        refine Go.XK.s (v := .bool (decide (e1 ≠ 8))) (e_pickT rfl g13_3 rfl) ?_
        exact sl_nil (fun a ha => ⟨rfl, ha.sub (.cons (by rw [g13_3]; rfl) (sub_self_cons (sub_self_cons (sub_self_cons (Sub.refl _) rfl) rfl) rfl))⟩)
      ·
        refine sl_gskip rfl rfl g13_3 (by decide) ?_
        refine sl_gskip rfl rfl g13_3 (by decide) ?_
        refine Go.XK.s (v := .bool false) (e_pickF rfl g13_3 rfl) ?_
        exact sl_nil (fun a ha => ⟨rfl, ha.sub (.cons (by rw [g13_3]; rfl) (sub_self_cons (sub_self_cons (sub_self_cons (Sub.refl _) rfl) rfl) rfl))⟩)
    refine sl_nil (nrm_k ?_)
    refine sc_no rfl (by exact mid_no hmid) ?_
    refine sc_skip (nrm_k ?_)
    refine sc_seq ?_
    refine sc_seq ?_
    refine sc_reg ?_
    refine Go.XK.s (v := .slice AL1 l.length cL1) (e_move rfl) ?_
    refine Go.XK.s (v := .int .i64 (l.length : Int)) (e_lenOwn Try.underlying38 rfl hoL1 (fun _ => rfl)) ?_
    refine Go.XK.s (v := .int .i64 0) (e_move rfl) ?_
    refine sl_nil (nrm_k ?_)
    refine sc_block ?_
    refine sc_loop (fun m_ l_ w_ => ∃ (i : Nat) (ps_ : List Pn) (lv_ : Value), m_ = l.length - i ∧ l_ = [(81, .int .i64 (i : Int)), (0, .int .u8 start.toNat), (3, .bool ctl), (9, .pointer (some ⟨bw, 0, none⟩)), (11, .slice AL1 l.length cL1), (12, .int .i64 base0), (13, .int .i64 (ctlP (start.toNat : Int) base0 (qP l 0))), (14, .string (B (blk1 33))), (79, .slice AL1 l.length cL1), (80, .int .i64 (l.length : Int))] ∧ Ext w w_ ∧ Blk w_ bw 109 [.int .i64 (start.toNat : Int), .int .i64 base1, lv_] ∧ Go.XK.Own w_ w.heap.size 114 2 encP lv_ ps_ ∧ Go.XK.Own w_ w.heap.size 3 1 encI (.slice AL1 l.length cL1) l ∧ Go.XK.Own w_ w.heap.size 3 1 encI (.slice AO1 l.length cO1) l ∧ i ≤ l.length ∧ Wf (start.toNat : Int) base1 ps_ ∧ (l ≠ [] → base1 = base0 ∧ ps_ = qP l i)) _ [(81, .int .i64 (0 : Int)), (0, .int .u8 start.toNat), (3, .bool ctl), (9, .pointer (some ⟨bw, 0, none⟩)), (11, .slice AL1 l.length cL1), (12, .int .i64 base0), (13, .int .i64 (ctlP (start.toNat : Int) base0 (qP l 0))), (14, .string (B (blk1 33))), (79, .slice AL1 l.length cL1), (80, .int .i64 (l.length : Int))] ⟨0, ps1, lvF1, rfl, rfl, xw_w9, hbw, hop, hoL1, hoO1, ⟨by omega, hwf1, fun h_ => (hmid h_).2⟩⟩ (.cons rfl (.cons rfl (.cons rfl (.cons rfl (.cons rfl (.cons rfl (.cons rfl (.cons rfl (.cons rfl (.cons rfl (.nil))))))))))) ?_
    rintro j11 _ w10 ⟨i, ps_, lv_, rfl, rfl, xw_w10, hbw, hop, hoL1, hoO1, ⟨hi, hwf1, hst⟩⟩
    refine sc_seq ?_
    refine sc_reg ?_
    refine Go.XK.s (v := .bool (decide ((i : Int) < (l.length : Int)))) (e_lt rfl rfl) ?_
    refine sl_nil (nrm_k ?_)
    refine sc_seq ?_
    refine sc_ifd rfl (fun c82 => ?_) (fun c82 => ?_)
    ·
      obtain ⟨x, hx⟩ : ∃ x, l[i]? = some x := ⟨_, List.getElem?_eq_getElem (by omega)⟩
      obtain ⟨hbe, hpe⟩ := hst (fun h_ => by rw [h_] at hx; cases hx)
      rw [hbe] at hbw
      rw [hpe] at hop
      refine sc_skip (nrm_k ?_)
      refine sc_seq ?_
      refine sc_block ?_
      refine sc_seq ?_
      refine sc_reg ?_
      refine Go.XK.s (v := .int .i64 (i : Int)) (e_move rfl) ?_
      refine Go.XK.s (v := .pointer (some (el (ownA (.slice AL1 l.length cL1)) 1 (i : Int) 0))) (e_idxOwn (x0 := x) Try.underlying38 Try.sizeOf3 rfl rfl hoL1 (fun _ => rfl) hx (by omega)) ?_
      refine Go.XK.s (v := .int .i64 x) (e_ldEl (xs := l) (enc := encI) (e := x) rfl (Go.XK.Own.rd hoL1 (fun _ => rfl)) hx Try.isAgg3 rfl) ?_
      refine Go.XK.s (v := .int .i64 (i : Int)) (e_assign rfl) ?_
      refine Go.XK.s (v := .int .i64 x) (e_assign rfl) ?_
      refine sl_nil (nrm_k ?_)
      refine sc_seq ?_
      refine sc_reg ?_
      refine Go.XK.s (v := .pointer (some ⟨bw, 0, none⟩)) (e_move rfl) ?_
      refine Go.XK.s (v := .int .i64 x) (e_move rfl) ?_
      refine Go.XK.s (v := .int .i64 (i : Int)) (e_move rfl) ?_
      refine Go.XK.s (v := .int .i64 ((i : Int) % 26)) (e_rem rfl rfl (by omega) (by omega)) ?_
      refine Go.XK.s (v := .int .i64 ((97 : Int) + ((i : Int) % 26))) (e_add rfl rfl (by omega)) ?_
      refine Go.XK.s (v := .int .u8 ((u8of ((97 : Int) + ((i : Int) % 26))).toNat)) (e_intu8 Try.underlying3 Try.underlying5 rfl) ?_
      refine sl_call ent24 rfl rfl (block_c (u8of ((97 : Int) + ((i : Int) % 26))) w10 (letter_lt (by omega))) (by decide) ?_
      rintro _ w12 ⟨rfl, hw12⟩
      have xw_w12 : Ext w w12 := Ext.tr xw_w10 hw12
      replace hbw := hbw.ext hw12
      replace hop := hop.ext hw12
      replace hoL1 := hoL1.ext hw12
      replace hoO1 := hoO1.ext hw12
      refine sl_call ent41 rfl rfl (fill_d w _ _ _ _ _ _ _ w12 ge_bw xw_w12 hbw hop (hRv.wfq i) (hRv.fill1 hx rfl)) (by decide) ?_
      rintro _ w13 ⟨rfl, hbwN, hopN, hfrN, hw13⟩
      replace hoL1 := Go.XK.Own.fr2 hoL1 hfrN hbw hop (by decide) (by decide)
      replace hoO1 := Go.XK.Own.fr2 hoO1 hfrN hbw hop (by decide) (by decide)
      clear hbw hop
      have hbw := hbwN
      have hop := hopN
      clear hbwN hopN
      have xw_w13 := hw13
      refine Go.XK.s (v := .int .i64 0) (e_assign rfl) ?_
      refine sl_nil (nrm_k ?_)
      refine sc_seq ?_
      refine sc_reg ?_
      refine Go.XK.s (v := .int .i64 0) (e_move rfl) ?_
      refine Go.XK.s (v := .bool (decide ((0 : Int) ≠ 0))) (e_ne rfl rfl) ?_
      refine Go.XK.s (v := .bool (decide ((0 : Int) ≠ 0))) (e_move rfl) ?_
      refine sl_gev (v := .pointer (some ⟨bw, 0, none⟩)) rfl rfl (by decide) (e_move rfl) rfl (by decide) ?_
      refine sl_gev (v := .int .i64 x) rfl rfl (by decide) (e_move rfl) rfl (by decide) ?_
      refine sl_gcall rfl rfl (by decide) ent24 rfl rfl (block_c 120 w13 (by decide)) (by decide) ?_
      rintro _ w14 ⟨rfl, hw14⟩
      have xw_w14 : Ext w w14 := Ext.tr xw_w13 hw14
      replace hbw := hbw.ext hw14
      replace hop := hop.ext hw14
      replace hoL1 := hoL1.ext hw14
      replace hoO1 := hoO1.ext hw14
      refine sl_gcall rfl rfl (by decide) ent41 rfl rfl (fill_d w _ _ _ _ _ _ _ w14 ge_bw xw_w14 hbw hop (hRv.wfq (i + 1)) (hRv.fill2 hx (blk1_length _))) (by decide) ?_
      rintro _ w15 ⟨rfl, hbwN, hopN, hfrN, hw15⟩
      replace hoL1 := Go.XK.Own.fr2 hoL1 hfrN hbw hop (by decide) (by decide)
      replace hoO1 := Go.XK.Own.fr2 hoO1 hfrN hbw hop (by decide) (by decide)
      clear hbw hop
      have hbw := hbwN
      have hop := hopN
      clear hbwN hopN
      have xw_w15 := hw15
      refine sl_gev (v := .bool (decide ((5 : Int) ≠ 5))) rfl rfl (by decide) (e_ne rfl rfl) rfl (by decide) ?_
      refine Go.XK.s (v := .bool (decide ((5 : Int) ≠ 5))) (e_pickF rfl (by decide) rfl) ?_
      refine sl_nil (nrm_k ?_)
      refine sc_no rfl (by decide) ?_
      refine sc_skip (nrm_k ?_)
      refine sc_reg ?_
      refine Go.XK.s (v := .int .i64 ((i : Int) + 1)) (e_add rfl rfl (by omega)) ?_
      refine Go.XK.s (v := .int .i64 ((i : Int) + 1)) (e_move rfl) ?_
      refine sl_nil ?_
      rw [← hbe] at hbw
      exact nrm_loopq rfl _ _ (by omega) ⟨i + 1, qP l (i + 1), lv_, rfl, rfl, xw_w15, hbw, hop, hoL1, hoO1, ⟨by omega, by rw [hbe]; exact hRv.wfq _, fun _ => ⟨hbe, rfl⟩⟩⟩ (.cons rfl (.cons rfl (.cons rfl (.cons rfl (.cons rfl (.cons rfl (.cons rfl (.cons rfl (.cons rfl (.cons rfl (.nil)))))))))))
    ·
      refine sc_exit rfl (nrm_k ?_)
      refine sc_seq ?_
      refine sc_seq ?_
      refine sc_reg ?_
      refine Go.XK.s (v := .slice AL1 l.length cL1) (e_move rfl) ?_
      refine Go.XK.s (v := .int .i64 (l.length : Int)) (e_lenOwn Try.underlying38 rfl hoL1 (fun _ => rfl)) ?_
      refine Go.XK.s (v := .bool (decide ((l.length : Int) = 0))) (e_eq rfl rfl) ?_
      refine sl_nil (nrm_k ?_)
      refine sc_ifd rfl (fun c106 => ?_) (fun c106 => ?_)
      ·
        refine sc_seq ?_
        refine sc_reg ?_
        refine Go.XK.s (v := .bool true) (e_assign rfl) ?_
        refine sl_nil (nrm_k ?_)
        refine sc_retf rfl (ret1 Try.results9 (rvt rfl) ?_)
        exact ⟨rfl, xw_w10⟩
      ·
        have hlne : l ≠ [] := fun h_ => c106 (by rw [h_]; rfl)
        obtain ⟨hbe, hpe⟩ := hst hlne
        rw [hbe] at hbw
        rw [hpe, show i = l.length by omega] at hop
        obtain ⟨L, K, base', hK0, hbK, hb4, hfl, hwf2, hct, hLl, hL7⟩ := hRv.fin hlne (c := blk1 33) (.inr (blk1_length _))
        refine sc_skip (nrm_k ?_)
        refine sc_seq ?_
        refine sc_reg ?_
        refine Go.XK.s (v := .pointer (some ⟨bw, 0, none⟩)) (e_move rfl) ?_
        refine Go.XK.s (v := .string (B (blk1 33))) (e_move rfl) ?_
        refine sl_call ent27 rfl rfl (flush_d w _ _ _ _ _ _ w10 ge_bw xw_w10 hbw hop (hRv.wfq _) hfl) (by decide) ?_
        rintro _ w16 ⟨vF2, lvF2, ws2, rfl, hoF2, hiF2, hcs2, hbwN, hopN, hfrN, hw16⟩
        replace hoF2 := Own.low hoF2 (Below.size xw_w10)
        replace hoL1 := Go.XK.Own.fr2 hoL1 hfrN hbw hop (by decide) (by decide)
        replace hoO1 := Go.XK.Own.fr2 hoO1 hfrN hbw hop (by decide) (by decide)
        clear hbw hop
        have hbw := hbwN
        have hop := hopN
        clear hbwN hopN
        have xw_w16 := hw16
        obtain ⟨hwsl, hws⟩ := fl_out hcs2 hLl
        obtain ⟨AF, cF, eF_, hlcF, hcmF, _⟩ := Go.XK.Own.shape hoF2 (fun _ => rfl)
        subst eF_
        refine Go.XK.s (v := .tuple #[.slice AF ws2.length cF, .int .i64 0]) (e_move rfl) ?_
        refine Go.XK.s (v := .slice AF ws2.length cF) (e_extract (vs := [.slice AF ws2.length cF, .int .i64 0]) rfl rfl) ?_
        refine Go.XK.s (v := .int .i64 0) (e_extract (vs := [.slice AF ws2.length cF, .int .i64 0]) rfl rfl) ?_
        refine Go.XK.s (v := .slice AF ws2.length cF) (e_assign rfl) ?_
        refine Go.XK.s (v := .int .i64 0) (e_assign rfl) ?_
        refine sl_nil (nrm_k ?_)
        refine sc_seq ?_
        refine sc_seq ?_
        refine sc_reg ?_
        refine Go.XK.s (v := .int .i64 0) (e_move rfl) ?_
        refine Go.XK.s (v := .bool (decide ((0 : Int) ≠ 0))) (e_ne rfl rfl) ?_
        refine Go.XK.s (v := .bool (decide ((0 : Int) ≠ 0))) (e_move rfl) ?_
        refine sl_gev (v := .pointer (some ⟨bw, 0, none⟩)) rfl rfl (by decide) (e_move rfl) rfl (by decide) ?_
        refine sl_gcall rfl rfl (by decide) ent39 rfl rfl (open_d w _ _ _ _ _ w16 ge_bw xw_w16 hbw hop hwf2 (show opnL [] = [] from rfl)) (by decide) ?_
        rintro vO2 w17 ⟨hoO2, hw17⟩
        replace hoO2 := Own.low hoO2 (Below.size xw_w16)
        have xw_w17 : Ext w w17 := Ext.tr xw_w16 hw17
        replace hbw := hbw.ext hw17
        replace hop := hop.ext hw17
        replace hoL1 := hoL1.ext hw17
        replace hoO1 := hoO1.ext hw17
        replace hoF2 := hoF2.ext hw17
        replace hiF2 := hiF2.ext hw17
        obtain ⟨AO2, cO2, eO2_, hlcO2, hcmO2, _⟩ := Go.XK.Own.shape hoO2 (fun _ => rfl)
        subst eO2_
        refine sl_gev (v := .int .i64 ([].length : Int)) rfl rfl (by decide) (e_lenOwn Try.underlying38 rfl hoO2 (fun _ => rfl)) rfl (by decide) ?_
        refine sl_gev (v := .bool (decide (([].length : Int) ≠ 0))) rfl rfl (by decide) (e_ne rfl rfl) rfl (by decide) ?_
        refine Go.XK.s (v := .bool (decide (([].length : Int) ≠ 0))) (e_pickF rfl (by decide) rfl) ?_
        refine sl_nil (nrm_k ?_)
        refine sc_no rfl (by decide) ?_
        refine sc_skip (nrm_k ?_)
        refine sc_seq ?_
        refine sc_seq ?_
        refine sc_reg ?_
        refine Go.XK.s (v := .slice AF ws2.length cF) (e_move rfl) ?_
        refine Go.XK.s (v := .int .i64 (ws2.length : Int)) (e_lenOwn Try.underlying24 rfl hoF2 (fun _ => rfl)) ?_
        refine Go.XK.s (v := .int .i64 0) (e_move rfl) ?_
        refine sl_nil (nrm_k ?_)
        refine sc_block ?_
        refine sc_loop (fun m_ l_ w_ => ∃ (i : Nat), m_ = ws2.length - i ∧ l_ = [(123, .int .i64 (i : Int)), (0, .int .u8 start.toNat), (3, .bool ctl), (9, .pointer (some ⟨bw, 0, none⟩)), (11, .slice AL1 l.length cL1), (12, .int .i64 base0), (13, .int .i64 (ctlP (start.toNat : Int) base0 (qP l 0))), (14, .string (B (blk1 33))), (20, .slice AF ws2.length cF), (121, .slice AF ws2.length cF), (122, .int .i64 (ws2.length : Int))] ∧ Ext w w_ ∧ Blk w_ bw 109 [.int .i64 (start.toNat : Int), .int .i64 base', lvF2] ∧ Go.XK.Own w_ w.heap.size 114 2 encP lvF2 [] ∧ Go.XK.Own w_ w.heap.size 3 1 encI (.slice AL1 l.length cL1) l ∧ Go.XK.Own w_ w.heap.size 3 1 encI (.slice AO1 l.length cO1) l ∧ Go.XK.Own w_ w.heap.size 49 4 encW (.slice AF ws2.length cF) ws2 ∧ Inn w_ ws2 ∧ Go.XK.Own w_ w.heap.size 3 1 encI (.slice AO2 ([].length) cO2) [] ∧ i ≤ ws2.length) _ [(123, .int .i64 (0 : Int)), (0, .int .u8 start.toNat), (3, .bool ctl), (9, .pointer (some ⟨bw, 0, none⟩)), (11, .slice AL1 l.length cL1), (12, .int .i64 base0), (13, .int .i64 (ctlP (start.toNat : Int) base0 (qP l 0))), (14, .string (B (blk1 33))), (20, .slice AF ws2.length cF), (121, .slice AF ws2.length cF), (122, .int .i64 (ws2.length : Int))] ⟨0, rfl, rfl, xw_w17, hbw, hop, hoL1, hoO1, hoF2, hiF2, hoO2, (by omega)⟩ (.cons rfl (.cons rfl (.cons rfl (.cons rfl (.cons rfl (.cons rfl (.cons rfl (.cons rfl (.cons rfl (.cons rfl (.cons rfl (.nil)))))))))))) ?_
        rintro j19 _ w18 ⟨i, rfl, rfl, xw_w18, hbw, hop, hoL1, hoO1, hoF2, hiF2, hoO2, hi⟩
        refine sc_seq ?_
        refine sc_reg ?_
        refine Go.XK.s (v := .bool (decide ((i : Int) < (ws2.length : Int)))) (e_lt rfl rfl) ?_
        refine sl_nil (nrm_k ?_)
        refine sc_seq ?_
        refine sc_ifd rfl (fun c124 => ?_) (fun c124 => ?_)
        ·
          obtain ⟨x, hx⟩ : ∃ x, ws2[i]? = some x := ⟨_, List.getElem?_eq_getElem (by omega)⟩
          have hiW := hiF2
          refine sc_skip (nrm_k ?_)
          refine sc_seq ?_
          refine sc_block ?_
          refine sc_seq ?_
          refine sc_reg ?_
          refine Go.XK.s (v := .int .i64 (i : Int)) (e_move rfl) ?_
          refine Go.XK.s (v := .pointer (some (el (ownA (.slice AF ws2.length cF)) 4 (i : Int) 0))) (e_idxOwn (x0 := x) Try.underlying24 Try.sizeOf49 rfl rfl hoF2 (fun _ => rfl) hx (by omega)) ?_
          refine Go.XK.s (v := .agg #[.int .i64 x.p, .slice x.A x.bl.length x.c, .bool x.sy, .bool x.cl]) (e_ldElA (xs := ws2) (enc := encW) (e := x) rfl (Go.XK.Own.rd hoF2 (fun _ => rfl)) hx Try.isAgg49 Try.sizeOf49 rfl) ?_
          refine s_alloc (cs := [.int .i64 0, .slice none 0 0, .bool false, .bool false]) Try.zeroValue49 rfl ?_
          intro b22 w20 hb22 he22 hs22 hx22
          have ne_b22_bw : b22 ≠ bw := by have h_ := hbw.lt; omega
          have no_b22_hop : Value.ownBlock lvF2 ≠ some b22 := fun h_ => by have h2_ := (Go.XK.Own.lt hop _ h_).2; omega
          have no_b22_hoL1 : Value.ownBlock (.slice AL1 l.length cL1) ≠ some b22 := fun h_ => by have h2_ := (Go.XK.Own.lt hoL1 _ h_).2; omega
          have no_b22_hoO1 : Value.ownBlock (.slice AO1 l.length cO1) ≠ some b22 := fun h_ => by have h2_ := (Go.XK.Own.lt hoO1 _ h_).2; omega
          have no_b22_hoF2 : Value.ownBlock (.slice AF ws2.length cF) ≠ some b22 := fun h_ => by have h2_ := (Go.XK.Own.lt hoF2 _ h_).2; omega
          have no_b22_hoO2 : Value.ownBlock (.slice AO2 ([].length) cO2) ≠ some b22 := fun h_ => by have h2_ := (Go.XK.Own.lt hoO2 _ h_).2; omega
          have ge_b22 : w.heap.size ≤ b22 := by have h_ := (Below.size xw_w18); omega
          have gew18_b22 : w18.heap.size ≤ b22 := by have h_ := (Below.size (Ext.rfl' w18)); omega
          have xw_w20 : Ext w w20 := Ext.tr xw_w18 hx22
          have xw18_w20 : Ext w18 w20 := Ext.tr (Ext.rfl' w18) hx22
          replace hbw := hbw.ext hx22
          replace hop := hop.ext hx22
          replace hoL1 := hoL1.ext hx22
          replace hoO1 := hoO1.ext hx22
          replace hoF2 := hoF2.ext hx22
          replace hoO2 := hoO2.ext hx22
          refine Go.XK.s (v := .int .i64 (i : Int)) (e_assign rfl) ?_
          refine su_blkV [.int .i64 x.p, .slice x.A x.bl.length x.c, .bool x.sy, .bool x.cl] [.int .i64 x.p, .slice x.A x.bl.length x.c, .bool x.sy, .bool x.cl] rfl rfl hb22 rfl Try.sizeOf49 (Nat.le_of_ble_eq_true rfl) rfl rfl ?_
          intro w21 hn_ hm_w21 hs_w21
          have ho_ := hb22
          replace hb22 := hn_
          clear hn_
          replace hbw := hbw.mut hm_w21 (Ne.symm ne_b22_bw)
          replace hop := hop.mut hm_w21 no_b22_hop
          replace hoL1 := hoL1.mut hm_w21 no_b22_hoL1
          replace hoO1 := hoO1.mut hm_w21 no_b22_hoO1
          replace hoF2 := hoF2.mut hm_w21 no_b22_hoF2
          replace hoO2 := hoO2.mut hm_w21 no_b22_hoO2
          have xw_w21 : Ext w w21 := below_mut xw_w20 (Below.size xw_w20) hm_w21 ge_b22
          have xw18_w21 : Ext w18 w21 := below_mut xw18_w20 (Below.size xw18_w20) hm_w21 gew18_b22
          refine sl_nil (nrm_k ?_)
          refine sc_seq ?_
          refine sc_seq ?_
          obtain ⟨hxp, hxl, hx7, hxs, hxc⟩ := hws i x hx
          have hiK : i < K := by omega
          have hm8 := hwf2.m8
          have hbx : x.p ≤ 4096 := by omega
          have hm0 := hW0.m8
          refine sc_reg ?_
          refine Go.XK.s (v := .pointer (some ⟨b22, 0, none⟩)) (e_fieldB (sz := 1) Try.underlying49 rfl Try.sizeOf3 (by decide) rfl rfl) ?_
          refine Go.XK.s (v := .int .i64 x.p) (e_load rfl (load1 Try.isAgg3 (hb22.cell (j := 0) rfl))) ?_
          refine Go.XK.s (v := .int .i64 base0) (e_move rfl) ?_
          refine Go.XK.s (v := .int .i64 (i : Int)) (e_move rfl) ?_
          refine Go.XK.s (v := .int .i64 ((i : Int) * 8)) (e_mul rfl rfl (by omega)) ?_
          refine Go.XK.s (v := .int .i64 (base0 + ((i : Int) * 8))) (e_add rfl rfl (by omega)) ?_
          refine Go.XK.s (v := .bool (decide (x.p ≠ base0 + ((i : Int) * 8)))) (e_ne rfl rfl) ?_
          refine Go.XK.s (v := .bool (decide (x.p ≠ base0 + ((i : Int) * 8)))) (e_move rfl) ?_
          refine sl_gev (v := .pointer (some ⟨b22, 0, none⟩)) rfl rfl (decide_eq_false (by omega)) (e_fieldB (sz := 1) Try.underlying49 rfl Try.sizeOf3 (by decide) rfl rfl) rfl (by decide) ?_
          refine sl_gev (v := .int .i64 x.p) rfl rfl (decide_eq_false (by omega)) (e_load rfl (load1 Try.isAgg3 (hb22.cell (j := 0) rfl))) rfl (by decide) ?_
          refine sl_gev (v := .int .u8 start.toNat) rfl rfl (decide_eq_false (by omega)) (e_move rfl) rfl (by decide) ?_
          refine sl_gev (v := .int .i64 (start.toNat : Int)) rfl rfl (decide_eq_false (by omega)) (e_u8int (c := start) Try.underlying5 Try.underlying3 (by decide) rfl) rfl (by decide) ?_
          refine sl_gev (v := .int .i64 (x.p - (start.toNat : Int))) rfl rfl (decide_eq_false (by omega)) (e_sub rfl rfl (by omega)) rfl (by decide) ?_
          refine sl_gev (v := .int .i64 ((x.p - (start.toNat : Int)) % 8)) rfl rfl (decide_eq_false (by omega)) (e_rem rfl rfl (by omega) (by omega)) rfl (by decide) ?_
          refine sl_gev (v := .bool (decide ((x.p - (start.toNat : Int)) % 8 ≠ 0))) rfl rfl (decide_eq_false (by omega)) (e_ne rfl rfl) rfl (by decide) ?_
          refine Go.XK.s (v := .bool (decide ((x.p - (start.toNat : Int)) % 8 ≠ 0))) (e_pickF rfl (decide_eq_false (by omega)) rfl) ?_
          refine Go.XK.s (v := .bool (decide ((x.p - (start.toNat : Int)) % 8 ≠ 0))) (e_move rfl) ?_
          refine sl_gev (v := .pointer (some ⟨b22, 1, none⟩)) rfl rfl (decide_eq_false (by omega)) (e_fieldB (sz := 1) Try.underlying49 rfl Try.sizeOf22 (by decide) rfl rfl) rfl (by decide) ?_
          refine sl_gev (v := .slice x.A x.bl.length x.c) rfl rfl (decide_eq_false (by omega)) (e_load rfl (load1 Try.isAgg22 (hb22.cell (j := 1) rfl))) rfl (by decide) ?_
          refine sl_gev (v := .int .i64 (x.bl.length : Int)) rfl rfl (decide_eq_false (by omega)) (e_len Try.underlying22 rfl) rfl (by decide) ?_
          refine sl_gev (v := .bool (decide ((x.bl.length : Int) ≠ 8))) rfl rfl (decide_eq_false (by omega)) (e_ne rfl rfl) rfl (by decide) ?_
          refine Go.XK.s (v := .bool (decide ((x.bl.length : Int) ≠ 8))) (e_pickF rfl (decide_eq_false (by omega)) rfl) ?_
          refine Go.XK.s (v := .bool (decide ((x.bl.length : Int) ≠ 8))) (e_move rfl) ?_
          refine sl_gev (v := .pointer (some ⟨b22, 3, none⟩)) rfl rfl (decide_eq_false (by omega)) (e_fieldB (sz := 1) Try.underlying49 rfl Try.sizeOf4 (by decide) rfl rfl) rfl (by decide) ?_
          refine sl_gev (v := .bool x.cl) rfl rfl (decide_eq_false (by omega)) (e_load rfl (load1 Try.isAgg4 (hb22.cell (j := 3) rfl))) rfl (by decide) ?_
          refine Go.XK.s (v := .bool x.cl) (e_pickF rfl (decide_eq_false (by omega)) rfl) ?_
          refine Go.XK.s (v := .bool x.cl) (e_move rfl) ?_
          refine sl_gev (v := .pointer (some ⟨b22, 2, none⟩)) rfl rfl hxc (e_fieldB (sz := 1) Try.underlying49 rfl Try.sizeOf4 (by decide) rfl rfl) rfl (by decide) ?_
          refine sl_gev (v := .bool x.sy) rfl rfl hxc (e_load rfl (load1 Try.isAgg4 (hb22.cell (j := 2) rfl))) rfl (by decide) ?_
          refine sl_gev (v := .int .i64 (i : Int)) rfl rfl hxc (e_move rfl) rfl (by decide) ?_
          refine sl_gev (v := .slice AF ws2.length cF) rfl rfl hxc (e_move rfl) rfl (by decide) ?_
          refine sl_gev (v := .int .i64 (ws2.length : Int)) rfl rfl hxc (e_lenOwn Try.underlying24 rfl hoF2 (fun _ => rfl)) rfl (by decide) ?_
          refine sl_gev (v := .int .i64 ((ws2.length : Int) - 1)) rfl rfl hxc (e_sub rfl rfl (by omega)) rfl (by decide) ?_
          refine sl_gev (v := .bool (decide ((i : Int) = (ws2.length : Int) - 1))) rfl rfl hxc (e_eq rfl rfl) rfl (by decide) ?_
          refine sl_gev (v := .bool (x.sy != (decide ((i : Int) = (ws2.length : Int) - 1)))) rfl rfl hxc (e_boolne Try.underlying4 rfl rfl) rfl (by decide) ?_
          refine Go.XK.s (v := .bool (x.sy != (decide ((i : Int) = (ws2.length : Int) - 1)))) (e_pickF rfl hxc rfl) ?_
          refine sl_nil (nrm_k ?_)
          refine sc_no rfl (by rw [hxs, show decide (i + 1 = K) = decide ((i : Int) = (ws2.length : Int) - 1) from decide_eq_decide.2 (by omega)]; simp) ?_
          refine sc_skip (nrm_k ?_)
          refine sc_seq ?_
          rcases Classical.em (i + 1 = K) with g22 | g22
          ·
            refine sc_reg ?_
            refine sl_call ent24 rfl rfl (block_c 0 w21 (by decide)) (by decide) ?_
            rintro _ w23 ⟨rfl, hw23⟩
            have xw_w23 : Ext w w23 := Ext.tr xw_w21 hw23
            have xw18_w23 : Ext w18 w23 := Ext.tr xw18_w21 hw23
            replace hbw := hbw.ext hw23
            replace hb22 := hb22.ext hw23
            replace hop := hop.ext hw23
            replace hoL1 := hoL1.ext hw23
            replace hoO1 := hoO1.ext hw23
            replace hoF2 := hoF2.ext hw23
            replace hoO2 := hoO2.ext hw23
            refine Go.XK.s (v := .string (B (blk1 0))) (e_assign rfl) ?_
            refine sl_nil (nrm_k ?_)
            refine sc_seq ?_
            refine sc_seq ?_
            refine sc_reg ?_
            refine Go.XK.s (v := .pointer (some ⟨b22, 2, none⟩)) (e_fieldB (sz := 1) Try.underlying49 rfl Try.sizeOf4 (by decide) rfl rfl) ?_
            refine Go.XK.s (v := .bool x.sy) (e_load rfl (load1 Try.isAgg4 (hb22.cell (j := 2) rfl))) ?_
            refine Go.XK.s (v := .bool x.sy) (e_move rfl) ?_
            refine sl_gev (v := .bool ctl) rfl rfl (hxs.trans (decide_eq_true g22)) (e_move rfl) rfl (by decide) ?_
            refine Go.XK.s (v := .bool ctl) (e_pickT rfl (hxs.trans (decide_eq_true g22)) rfl) ?_
            refine sl_nil (nrm_k ?_)
            refine sc_yes rfl c64 ?_
            refine sc_reg ?_
            refine Go.XK.s (v := .string (B (blk1 33))) (e_move rfl) ?_
            refine Go.XK.s (v := .string (B (blk1 33))) (e_assign rfl) ?_
            refine sl_nil (nrm_k ?_)
            refine sc_seq ?_
            have hin_x : SlR w23 x.A x.c 1 encS x.bl := SlR.ext (hiW x (List.mem_of_getElem? hx)) xw18_w23
            have h7 := hL7 i hiK
            rw [← hx7, if_pos ⟨(by intro e_; have h_ := congrArg List.length e_; rw [blk1_length] at h_; cases h_), of_decide_eq_true (decide_eq_true g22)⟩] at h7
            have hiK1 : i + 1 = K := of_decide_eq_true (decide_eq_true g22)
            refine sc_reg ?_
            refine Go.XK.s (v := .pointer (some ⟨b22, 1, none⟩)) (e_fieldB (sz := 1) Try.underlying49 rfl Try.sizeOf22 (by decide) rfl rfl) ?_
            refine Go.XK.s (v := .slice x.A x.bl.length x.c) (e_load rfl (load1 Try.isAgg22 (hb22.cell (j := 1) rfl))) ?_
            refine Go.XK.s (v := .pointer (some (el x.A 1 7 0))) (e_idxEl (e := blk1 33) Try.underlying22 Try.sizeOf9 rfl rfl hin_x.1 h7 (by omega) rfl) ?_
            refine Go.XK.s (v := .string (B (blk1 33))) (e_ldEl (xs := x.bl) (enc := encS) (e := blk1 33) rfl hin_x.1 h7 Try.isAgg9 rfl) ?_
            refine Go.XK.s (v := .string (B (blk1 33))) (e_move rfl) ?_
            refine Go.XK.s (v := .bool (decide (blk1 33 ≠ blk1 33))) (e_sne rfl rfl) ?_
            refine Go.XK.s (v := .bool (decide (blk1 33 ≠ blk1 33))) (e_move rfl) ?_
            refine sl_gev (v := .pointer (some ⟨b22, 2, none⟩)) rfl rfl (decide_eq_false (fun h_ => h_ rfl)) (e_fieldB (sz := 1) Try.underlying49 rfl Try.sizeOf4 (by decide) rfl rfl) rfl (by decide) ?_
            refine sl_gev (v := .bool x.sy) rfl rfl (decide_eq_false (fun h_ => h_ rfl)) (e_load rfl (load1 Try.isAgg4 (hb22.cell (j := 2) rfl))) rfl (by decide) ?_
            refine sl_gev (v := .bool x.sy) rfl rfl (decide_eq_false (fun h_ => h_ rfl)) (e_move rfl) rfl (by decide) ?_
            refine sl_gev (v := .pointer (some ⟨b22, 0, none⟩)) rfl rfl (hxs.trans (decide_eq_true g22)) (e_fieldB (sz := 1) Try.underlying49 rfl Try.sizeOf3 (by decide) rfl rfl) rfl (by decide) ?_
            refine sl_gev (v := .int .i64 x.p) rfl rfl (hxs.trans (decide_eq_true g22)) (e_load rfl (load1 Try.isAgg3 (hb22.cell (j := 0) rfl))) rfl (by decide) ?_
            refine sl_gev (v := .int .i64 (x.p + 8)) rfl rfl (hxs.trans (decide_eq_true g22)) (e_add rfl rfl (by omega)) rfl (by decide) ?_
            refine sl_gev (v := .int .i64 ((x.p + 8) - 1)) rfl rfl (hxs.trans (decide_eq_true g22)) (e_sub rfl rfl (by omega)) rfl (by decide) ?_
            refine sl_gev (v := .int .i64 (ctlP (start.toNat : Int) base0 (qP l 0))) rfl rfl (hxs.trans (decide_eq_true g22)) (e_move rfl) rfl (by decide) ?_
            refine sl_gev (v := .bool (decide ((x.p + 8) - 1 ≠ ctlP (start.toNat : Int) base0 (qP l 0)))) rfl rfl (hxs.trans (decide_eq_true g22)) (e_ne rfl rfl) rfl (by decide) ?_
            refine sl_gev (v := .bool (decide ((x.p + 8) - 1 ≠ ctlP (start.toNat : Int) base0 (qP l 0)))) rfl rfl (decide_eq_false (fun h_ => h_ rfl)) (e_pickT rfl (hxs.trans (decide_eq_true g22)) rfl) rfl (by decide) ?_
            refine Go.XK.s (v := .bool (decide ((x.p + 8) - 1 ≠ ctlP (start.toNat : Int) base0 (qP l 0)))) (e_pickF rfl (decide_eq_false (fun h_ => h_ rfl)) rfl) ?_
            refine sl_nil (nrm_k ?_)
            refine sc_no rfl (decide_eq_false (by omega)) ?_
            refine sc_skip (nrm_k ?_)
            refine sc_reg ?_
            refine Go.XK.s (v := .int .i64 ((i : Int) + 1)) (e_add rfl rfl (by omega)) ?_
            refine Go.XK.s (v := .int .i64 ((i : Int) + 1)) (e_move rfl) ?_
            refine sl_nil ?_
            exact nrm_loopq rfl _ _ (by omega) ⟨i + 1, rfl, rfl, xw_w23, hbw, hop, hoL1, hoO1, hoF2, (Inn.ext hiW xw18_w23), hoO2, (by omega)⟩ (.cons rfl (.cons rfl (.cons rfl (.cons rfl (.cons rfl (.cons rfl (.cons rfl (.cons rfl (.cons rfl (.cons rfl (.cons rfl (.nil))))))))))))
          ·
            refine sc_reg ?_
            refine sl_call ent24 rfl rfl (block_c 0 w21 (by decide)) (by decide) ?_
            rintro _ w24 ⟨rfl, hw24⟩
            have xw_w24 : Ext w w24 := Ext.tr xw_w21 hw24
            have xw18_w24 : Ext w18 w24 := Ext.tr xw18_w21 hw24
            replace hbw := hbw.ext hw24
            replace hb22 := hb22.ext hw24
            replace hop := hop.ext hw24
            replace hoL1 := hoL1.ext hw24
            replace hoO1 := hoO1.ext hw24
            replace hoF2 := hoF2.ext hw24
            replace hoO2 := hoO2.ext hw24
            refine Go.XK.s (v := .string (B (blk1 0))) (e_assign rfl) ?_
            refine sl_nil (nrm_k ?_)
            refine sc_seq ?_
            refine sc_seq ?_
            refine sc_reg ?_
            refine Go.XK.s (v := .pointer (some ⟨b22, 2, none⟩)) (e_fieldB (sz := 1) Try.underlying49 rfl Try.sizeOf4 (by decide) rfl rfl) ?_
            refine Go.XK.s (v := .bool x.sy) (e_load rfl (load1 Try.isAgg4 (hb22.cell (j := 2) rfl))) ?_
            refine Go.XK.s (v := .bool x.sy) (e_move rfl) ?_
            refine sl_gskip rfl rfl (hxs.trans (decide_eq_false g22)) (by decide) ?_
            refine Go.XK.s (v := .bool false) (e_pickF rfl (hxs.trans (decide_eq_false g22)) rfl) ?_
            refine sl_nil (nrm_k ?_)
            refine sc_no rfl rfl ?_
            refine sc_skip (nrm_k ?_)
            refine sc_seq ?_
            have hin_x : SlR w24 x.A x.c 1 encS x.bl := SlR.ext (hiW x (List.mem_of_getElem? hx)) xw18_w24
            have h7 := hL7 i hiK
            rw [← hx7, if_neg (fun e_ => of_decide_eq_false (decide_eq_false g22) e_.2)] at h7
            refine sc_reg ?_
            refine Go.XK.s (v := .pointer (some ⟨b22, 1, none⟩)) (e_fieldB (sz := 1) Try.underlying49 rfl Try.sizeOf22 (by decide) rfl rfl) ?_
            refine Go.XK.s (v := .slice x.A x.bl.length x.c) (e_load rfl (load1 Try.isAgg22 (hb22.cell (j := 1) rfl))) ?_
            refine Go.XK.s (v := .pointer (some (el x.A 1 7 0))) (e_idxEl (e := zB) Try.underlying22 Try.sizeOf9 rfl rfl hin_x.1 h7 (by omega) rfl) ?_
            refine Go.XK.s (v := .string (B zB)) (e_ldEl (xs := x.bl) (enc := encS) (e := zB) rfl hin_x.1 h7 Try.isAgg9 rfl) ?_
            refine Go.XK.s (v := .string (B (blk1 0))) (e_move rfl) ?_
            refine Go.XK.s (v := .bool (decide (zB ≠ blk1 0))) (e_sne rfl rfl) ?_
            refine Go.XK.s (v := .bool (decide (zB ≠ blk1 0))) (e_move rfl) ?_
            refine sl_gev (v := .pointer (some ⟨b22, 2, none⟩)) rfl rfl (decide_eq_false (fun h_ => h_ zB_blk.symm)) (e_fieldB (sz := 1) Try.underlying49 rfl Try.sizeOf4 (by decide) rfl rfl) rfl (by decide) ?_
            refine sl_gev (v := .bool x.sy) rfl rfl (decide_eq_false (fun h_ => h_ zB_blk.symm)) (e_load rfl (load1 Try.isAgg4 (hb22.cell (j := 2) rfl))) rfl (by decide) ?_
            refine sl_gev (v := .bool x.sy) rfl rfl (decide_eq_false (fun h_ => h_ zB_blk.symm)) (e_move rfl) rfl (by decide) ?_
            refine sl_gskip rfl rfl (hxs.trans (decide_eq_false g22)) (by decide) ?_
            refine sl_gskip rfl rfl (hxs.trans (decide_eq_false g22)) (by decide) ?_
            refine sl_gskip rfl rfl (hxs.trans (decide_eq_false g22)) (by decide) ?_
            refine sl_gskip rfl rfl (hxs.trans (decide_eq_false g22)) (by decide) ?_
            refine sl_gskip rfl rfl (hxs.trans (decide_eq_false g22)) (by decide) ?_
            refine sl_gskip rfl rfl (hxs.trans (decide_eq_false g22)) (by decide) ?_
            refine sl_gev (v := .bool false) rfl rfl (decide_eq_false (fun h_ => h_ zB_blk.symm)) (e_pickF rfl (hxs.trans (decide_eq_false g22)) rfl) rfl (by decide) ?_
            refine Go.XK.s (v := .bool false) (e_pickF rfl (decide_eq_false (fun h_ => h_ zB_blk.symm)) rfl) ?_
            refine sl_nil (nrm_k ?_)
            refine sc_no rfl rfl ?_
            refine sc_skip (nrm_k ?_)
            refine sc_reg ?_
            refine Go.XK.s (v := .int .i64 ((i : Int) + 1)) (e_add rfl rfl (by omega)) ?_
            refine Go.XK.s (v := .int .i64 ((i : Int) + 1)) (e_move rfl) ?_
            refine sl_nil ?_
            exact nrm_loopq rfl _ _ (by omega) ⟨i + 1, rfl, rfl, xw_w24, hbw, hop, hoL1, hoO1, hoF2, (Inn.ext hiW xw18_w24), hoO2, (by omega)⟩ (.cons rfl (.cons rfl (.cons rfl (.cons rfl (.cons rfl (.cons rfl (.cons rfl (.cons rfl (.cons rfl (.cons rfl (.cons rfl (.nil))))))))))))
        ·
          refine sc_exit rfl (nrm_k ?_)
          refine sc_seq ?_
          obtain ⟨xl, hxl⟩ : ∃ xl, ws2[((ws2.length : Int) - 1).toNat]? = some xl := ⟨_, List.getElem?_eq_getElem (by omega)⟩
          obtain ⟨hxp, _⟩ := hws _ xl hxl
          have hbx : xl.p ≤ 4096 := by omega
          refine sc_free [(124, .bool (decide ((i : Int) < (ws2.length : Int)))), (123, .int .i64 (i : Int)), (0, .int .u8 start.toNat), (3, .bool ctl), (9, .pointer (some ⟨bw, 0, none⟩)), (11, .slice AL1 l.length cL1), (12, .int .i64 base0), (13, .int .i64 (ctlP (start.toNat : Int) base0 (qP l 0))), (14, .string (B (blk1 33))), (20, .slice AF ws2.length cF), (121, .slice AF ws2.length cF), (122, .int .i64 (ws2.length : Int))] [190, 191, 192, 193, 194, 195, 196, 197, 198, 199, 200, 201, 202, 203, 204, 205] [(Is (.slice AF ws2.length cF)), (Is (.int .i64 (ws2.length : Int))), (Is (.bool (decide ((0 : Int) < (ws2.length : Int))))), (Is (.bool (decide ((0 : Int) < (ws2.length : Int))))), (Is (.pointer (some ⟨bw, 0, none⟩))), (Is (.int .i64 base')), (Is (.slice AF ws2.length cF)), (Is (.slice AF ws2.length cF)), (Is (.int .i64 (ws2.length : Int))), (Is (.int .i64 ((ws2.length : Int) - 1))), (Is (.pointer (some (el (ownA (.slice AF ws2.length cF)) 4 ((ws2.length : Int) - 1) 0)))), (Is (.pointer (some (el (ownA (.slice AF ws2.length cF)) 4 ((ws2.length : Int) - 1) 0)))), (Is (.int .i64 xl.p)), (Is (.int .i64 (xl.p + 8))), (Is (.bool (decide (base' = xl.p + 8)))), (Is (.bool (decide (base' = xl.p + 8))))] [16] (by kernel_rfl) (Sub.refl _) (by kernel_rfl) (by kernel_rfl) (by kernel_rfl) rfl (by kernel_rfl) (ds_ext (Stays.spec (.is _ (.is _ (.is _ (.is _ (.is _ (.is _ (.is _ (.is _ (.is _ (.is _ (.is _ (.is _ (.is _ (.is _ (.is _ (.is _ (.nil))))))))))))))))))) ⟨?_, ?_, ?_, ?_, ?_, ?_, ?_, ?_, ?_, ?_, ?_, ?_, ?_, ?_, ?_, ?_, trivial⟩ ?_
          · intro Q act_ wI hxI ha hp
            have xw_wI : Ext w wI := Ext.tr xw_w18 hxI
            have xw18_wI : Ext w18 wI := Ext.tr (Ext.rfl' w18) hxI
            replace hbw := hbw.ext hxI
            replace hop := hop.ext hxI
            replace hoL1 := hoL1.ext hxI
            replace hoO1 := hoO1.ext hxI
            replace hoF2 := hoF2.ext hxI
            replace hiF2 := hiF2.ext hxI
            replace hoO2 := hoO2.ext hxI
            exact h_evA (v := .slice AF ws2.length cF) ha rfl (e_move rfl) rfl rfl (Ext.rfl' _)
          · intro Q act_ wI hxI ha hp
            have xw_wI : Ext w wI := Ext.tr xw_w18 hxI
            have xw18_wI : Ext w18 wI := Ext.tr (Ext.rfl' w18) hxI
            replace hbw := hbw.ext hxI
            replace hop := hop.ext hxI
            replace hoL1 := hoL1.ext hxI
            replace hoO1 := hoO1.ext hxI
            replace hoF2 := hoF2.ext hxI
            replace hiF2 := hiF2.ext hxI
            replace hoO2 := hoO2.ext hxI
            have ha := ha.add (show act_.tmps.getD 190 undef = .slice AF ws2.length cF from hp 0 (by kernel_rfl) (by decide))
            exact h_evA (v := .int .i64 (ws2.length : Int)) ha rfl (e_lenOwn Try.underlying24 rfl hoF2 (fun _ => rfl)) rfl rfl (Ext.rfl' _)
          · intro Q act_ wI hxI ha hp
            have xw_wI : Ext w wI := Ext.tr xw_w18 hxI
            have xw18_wI : Ext w18 wI := Ext.tr (Ext.rfl' w18) hxI
            replace hbw := hbw.ext hxI
            replace hop := hop.ext hxI
            replace hoL1 := hoL1.ext hxI
            replace hoO1 := hoO1.ext hxI
            replace hoF2 := hoF2.ext hxI
            replace hiF2 := hiF2.ext hxI
            replace hoO2 := hoO2.ext hxI
            have ha := ha.add (show act_.tmps.getD 191 undef = .int .i64 (ws2.length : Int) from hp 1 (by kernel_rfl) (by decide))
            exact h_evA (v := .bool (decide ((0 : Int) < (ws2.length : Int)))) ha rfl (e_gt rfl rfl) rfl rfl (Ext.rfl' _)
          · intro Q act_ wI hxI ha hp
            have xw_wI : Ext w wI := Ext.tr xw_w18 hxI
            have xw18_wI : Ext w18 wI := Ext.tr (Ext.rfl' w18) hxI
            replace hbw := hbw.ext hxI
            replace hop := hop.ext hxI
            replace hoL1 := hoL1.ext hxI
            replace hoO1 := hoO1.ext hxI
            replace hoF2 := hoF2.ext hxI
            replace hiF2 := hiF2.ext hxI
            replace hoO2 := hoO2.ext hxI
            have ha := ha.add (show act_.tmps.getD 192 undef = .bool (decide ((0 : Int) < (ws2.length : Int))) from hp 2 (by kernel_rfl) (by decide))
            exact h_evA (v := .bool (decide ((0 : Int) < (ws2.length : Int)))) ha rfl (e_move rfl) rfl rfl (Ext.rfl' _)
          · intro Q act_ wI hxI ha hp
            have xw_wI : Ext w wI := Ext.tr xw_w18 hxI
            have xw18_wI : Ext w18 wI := Ext.tr (Ext.rfl' w18) hxI
            replace hbw := hbw.ext hxI
            replace hop := hop.ext hxI
            replace hoL1 := hoL1.ext hxI
            replace hoO1 := hoO1.ext hxI
            replace hoF2 := hoF2.ext hxI
            replace hiF2 := hiF2.ext hxI
            replace hoO2 := hoO2.ext hxI
            have ha := ha.add (show act_.tmps.getD 193 undef = .bool (decide ((0 : Int) < (ws2.length : Int))) from hp 3 (by kernel_rfl) (by decide))
            exact h_gevA (v := .pointer (some ⟨bw, 0, none⟩)) ha rfl rfl rfl (decide_eq_true (by omega)) (e_move rfl) rfl rfl (Ext.rfl' _)
          · intro Q act_ wI hxI ha hp
            have xw_wI : Ext w wI := Ext.tr xw_w18 hxI
            have xw18_wI : Ext w18 wI := Ext.tr (Ext.rfl' w18) hxI
            replace hbw := hbw.ext hxI
            replace hop := hop.ext hxI
            replace hoL1 := hoL1.ext hxI
            replace hoO1 := hoO1.ext hxI
            replace hoF2 := hoF2.ext hxI
            replace hiF2 := hiF2.ext hxI
            replace hoO2 := hoO2.ext hxI
            have ha := ha.add (show act_.tmps.getD 193 undef = .bool (decide ((0 : Int) < (ws2.length : Int))) from hp 3 (by kernel_rfl) (by decide))
            have ha := ha.add (show act_.tmps.getD 194 undef = .pointer (some ⟨bw, 0, none⟩) from hp 4 (by kernel_rfl) (by decide))
            exact h_gcallA ha ent40 rfl rfl rfl (decide_eq_true (by omega)) rfl rfl (base_c w _ _ _ _ _ wI ge_bw xw_wI hbw hop hwf2) rfl (by rintro _ w1 ⟨rfl, hR⟩; exact ⟨rfl, hR⟩)
          · intro Q act_ wI hxI ha hp
            have xw_wI : Ext w wI := Ext.tr xw_w18 hxI
            have xw18_wI : Ext w18 wI := Ext.tr (Ext.rfl' w18) hxI
            replace hbw := hbw.ext hxI
            replace hop := hop.ext hxI
            replace hoL1 := hoL1.ext hxI
            replace hoO1 := hoO1.ext hxI
            replace hoF2 := hoF2.ext hxI
            replace hiF2 := hiF2.ext hxI
            replace hoO2 := hoO2.ext hxI
            have ha := ha.add (show act_.tmps.getD 193 undef = .bool (decide ((0 : Int) < (ws2.length : Int))) from hp 3 (by kernel_rfl) (by decide))
            exact h_gevA (v := .slice AF ws2.length cF) ha rfl rfl rfl (decide_eq_true (by omega)) (e_move rfl) rfl rfl (Ext.rfl' _)
          · intro Q act_ wI hxI ha hp
            have xw_wI : Ext w wI := Ext.tr xw_w18 hxI
            have xw18_wI : Ext w18 wI := Ext.tr (Ext.rfl' w18) hxI
            replace hbw := hbw.ext hxI
            replace hop := hop.ext hxI
            replace hoL1 := hoL1.ext hxI
            replace hoO1 := hoO1.ext hxI
            replace hoF2 := hoF2.ext hxI
            replace hiF2 := hiF2.ext hxI
            replace hoO2 := hoO2.ext hxI
            have ha := ha.add (show act_.tmps.getD 193 undef = .bool (decide ((0 : Int) < (ws2.length : Int))) from hp 3 (by kernel_rfl) (by decide))
            exact h_gevA (v := .slice AF ws2.length cF) ha rfl rfl rfl (decide_eq_true (by omega)) (e_move rfl) rfl rfl (Ext.rfl' _)
          · intro Q act_ wI hxI ha hp
            have xw_wI : Ext w wI := Ext.tr xw_w18 hxI
            have xw18_wI : Ext w18 wI := Ext.tr (Ext.rfl' w18) hxI
            replace hbw := hbw.ext hxI
            replace hop := hop.ext hxI
            replace hoL1 := hoL1.ext hxI
            replace hoO1 := hoO1.ext hxI
            replace hoF2 := hoF2.ext hxI
            replace hiF2 := hiF2.ext hxI
            replace hoO2 := hoO2.ext hxI
            have ha := ha.add (show act_.tmps.getD 193 undef = .bool (decide ((0 : Int) < (ws2.length : Int))) from hp 3 (by kernel_rfl) (by decide))
            have ha := ha.add (show act_.tmps.getD 197 undef = .slice AF ws2.length cF from hp 7 (by kernel_rfl) (by decide))
            exact h_gevA (v := .int .i64 (ws2.length : Int)) ha rfl rfl rfl (decide_eq_true (by omega)) (e_lenOwn Try.underlying24 rfl hoF2 (fun _ => rfl)) rfl rfl (Ext.rfl' _)
          · intro Q act_ wI hxI ha hp
            have xw_wI : Ext w wI := Ext.tr xw_w18 hxI
            have xw18_wI : Ext w18 wI := Ext.tr (Ext.rfl' w18) hxI
            replace hbw := hbw.ext hxI
            replace hop := hop.ext hxI
            replace hoL1 := hoL1.ext hxI
            replace hoO1 := hoO1.ext hxI
            replace hoF2 := hoF2.ext hxI
            replace hiF2 := hiF2.ext hxI
            replace hoO2 := hoO2.ext hxI
            have ha := ha.add (show act_.tmps.getD 193 undef = .bool (decide ((0 : Int) < (ws2.length : Int))) from hp 3 (by kernel_rfl) (by decide))
            have ha := ha.add (show act_.tmps.getD 198 undef = .int .i64 (ws2.length : Int) from hp 8 (by kernel_rfl) (by decide))
            exact h_gevA (v := .int .i64 ((ws2.length : Int) - 1)) ha rfl rfl rfl (decide_eq_true (by omega)) (e_sub rfl rfl (by omega)) rfl rfl (Ext.rfl' _)
          · intro Q act_ wI hxI ha hp
            have xw_wI : Ext w wI := Ext.tr xw_w18 hxI
            have xw18_wI : Ext w18 wI := Ext.tr (Ext.rfl' w18) hxI
            replace hbw := hbw.ext hxI
            replace hop := hop.ext hxI
            replace hoL1 := hoL1.ext hxI
            replace hoO1 := hoO1.ext hxI
            replace hoF2 := hoF2.ext hxI
            replace hiF2 := hiF2.ext hxI
            replace hoO2 := hoO2.ext hxI
            have ha := ha.add (show act_.tmps.getD 193 undef = .bool (decide ((0 : Int) < (ws2.length : Int))) from hp 3 (by kernel_rfl) (by decide))
            have ha := ha.add (show act_.tmps.getD 196 undef = .slice AF ws2.length cF from hp 6 (by kernel_rfl) (by decide))
            have ha := ha.add (show act_.tmps.getD 199 undef = .int .i64 ((ws2.length : Int) - 1) from hp 9 (by kernel_rfl) (by decide))
            exact h_gevA (v := .pointer (some (el (ownA (.slice AF ws2.length cF)) 4 ((ws2.length : Int) - 1) 0))) ha rfl rfl rfl (decide_eq_true (by omega)) (e_idxOwn (x0 := xl) Try.underlying24 Try.sizeOf49 rfl rfl hoF2 (fun _ => rfl) hxl (by omega)) rfl rfl (Ext.rfl' _)
          · intro Q act_ wI hxI ha hp
            have xw_wI : Ext w wI := Ext.tr xw_w18 hxI
            have xw18_wI : Ext w18 wI := Ext.tr (Ext.rfl' w18) hxI
            replace hbw := hbw.ext hxI
            replace hop := hop.ext hxI
            replace hoL1 := hoL1.ext hxI
            replace hoO1 := hoO1.ext hxI
            replace hoF2 := hoF2.ext hxI
            replace hiF2 := hiF2.ext hxI
            replace hoO2 := hoO2.ext hxI
            have ha := ha.add (show act_.tmps.getD 193 undef = .bool (decide ((0 : Int) < (ws2.length : Int))) from hp 3 (by kernel_rfl) (by decide))
            have ha := ha.add (show act_.tmps.getD 200 undef = .pointer (some (el (ownA (.slice AF ws2.length cF)) 4 ((ws2.length : Int) - 1) 0)) from hp 10 (by kernel_rfl) (by decide))
            exact h_gevA (v := .pointer (some (el (ownA (.slice AF ws2.length cF)) 4 ((ws2.length : Int) - 1) 0))) ha rfl rfl rfl (decide_eq_true (by omega)) (e_fieldEl (fsz := 1) Try.underlying49 rfl Try.sizeOf3 (by decide) rfl rfl) rfl rfl (Ext.rfl' _)
          · intro Q act_ wI hxI ha hp
            have xw_wI : Ext w wI := Ext.tr xw_w18 hxI
            have xw18_wI : Ext w18 wI := Ext.tr (Ext.rfl' w18) hxI
            replace hbw := hbw.ext hxI
            replace hop := hop.ext hxI
            replace hoL1 := hoL1.ext hxI
            replace hoO1 := hoO1.ext hxI
            replace hoF2 := hoF2.ext hxI
            replace hiF2 := hiF2.ext hxI
            replace hoO2 := hoO2.ext hxI
            have ha := ha.add (show act_.tmps.getD 193 undef = .bool (decide ((0 : Int) < (ws2.length : Int))) from hp 3 (by kernel_rfl) (by decide))
            have ha := ha.add (show act_.tmps.getD 201 undef = .pointer (some (el (ownA (.slice AF ws2.length cF)) 4 ((ws2.length : Int) - 1) 0)) from hp 11 (by kernel_rfl) (by decide))
            exact h_gevA (v := .int .i64 xl.p) ha rfl rfl rfl (decide_eq_true (by omega)) (e_ldEl (xs := ws2) (enc := encW) (e := xl) rfl (Go.XK.Own.rd hoF2 (fun _ => rfl)) hxl Try.isAgg3 rfl) rfl rfl (Ext.rfl' _)
          · intro Q act_ wI hxI ha hp
            have xw_wI : Ext w wI := Ext.tr xw_w18 hxI
            have xw18_wI : Ext w18 wI := Ext.tr (Ext.rfl' w18) hxI
            replace hbw := hbw.ext hxI
            replace hop := hop.ext hxI
            replace hoL1 := hoL1.ext hxI
            replace hoO1 := hoO1.ext hxI
            replace hoF2 := hoF2.ext hxI
            replace hiF2 := hiF2.ext hxI
            replace hoO2 := hoO2.ext hxI
            have ha := ha.add (show act_.tmps.getD 193 undef = .bool (decide ((0 : Int) < (ws2.length : Int))) from hp 3 (by kernel_rfl) (by decide))
            have ha := ha.add (show act_.tmps.getD 202 undef = .int .i64 xl.p from hp 12 (by kernel_rfl) (by decide))
            exact h_gevA (v := .int .i64 (xl.p + 8)) ha rfl rfl rfl (decide_eq_true (by omega)) (e_add rfl rfl (by omega)) rfl rfl (Ext.rfl' _)
          · intro Q act_ wI hxI ha hp
            have xw_wI : Ext w wI := Ext.tr xw_w18 hxI
            have xw18_wI : Ext w18 wI := Ext.tr (Ext.rfl' w18) hxI
            replace hbw := hbw.ext hxI
            replace hop := hop.ext hxI
            replace hoL1 := hoL1.ext hxI
            replace hoO1 := hoO1.ext hxI
            replace hoF2 := hoF2.ext hxI
            replace hiF2 := hiF2.ext hxI
            replace hoO2 := hoO2.ext hxI
            have ha := ha.add (show act_.tmps.getD 193 undef = .bool (decide ((0 : Int) < (ws2.length : Int))) from hp 3 (by kernel_rfl) (by decide))
            have ha := ha.add (show act_.tmps.getD 195 undef = .int .i64 base' from hp 5 (by kernel_rfl) (by decide))
            have ha := ha.add (show act_.tmps.getD 203 undef = .int .i64 (xl.p + 8) from hp 13 (by kernel_rfl) (by decide))
            exact h_gevA (v := .bool (decide (base' = xl.p + 8))) ha rfl rfl rfl (decide_eq_true (by omega)) (e_eq rfl rfl) rfl rfl (Ext.rfl' _)
          · intro Q act_ wI hxI ha hp
            have xw_wI : Ext w wI := Ext.tr xw_w18 hxI
            have xw18_wI : Ext w18 wI := Ext.tr (Ext.rfl' w18) hxI
            replace hbw := hbw.ext hxI
            replace hop := hop.ext hxI
            replace hoL1 := hoL1.ext hxI
            replace hoO1 := hoO1.ext hxI
            replace hoF2 := hoF2.ext hxI
            replace hiF2 := hiF2.ext hxI
            replace hoO2 := hoO2.ext hxI
            have ha := ha.add (show act_.tmps.getD 193 undef = .bool (decide ((0 : Int) < (ws2.length : Int))) from hp 3 (by kernel_rfl) (by decide))
            have ha := ha.add (show act_.tmps.getD 204 undef = .bool (decide (base' = xl.p + 8)) from hp 14 (by kernel_rfl) (by decide))
            exact h_evA (v := .bool (decide (base' = xl.p + 8))) ha rfl (e_pickT rfl (decide_eq_true (by omega)) rfl) rfl rfl (Ext.rfl' _)
          intro vs_ w25 hx_w25 hvs act_ ha hv
          have xw_w25 : Ext w w25 := Ext.tr xw_w18 hx_w25
          have xw18_w25 : Ext w18 w25 := Ext.tr (Ext.rfl' w18) hx_w25
          replace hbw := hbw.ext hx_w25
          replace hop := hop.ext hx_w25
          replace hoL1 := hoL1.ext hx_w25
          replace hoO1 := hoO1.ext hx_w25
          replace hoF2 := hoF2.ext hx_w25
          replace hiF2 := hiF2.ext hx_w25
          replace hoO2 := hoO2.ext hx_w25
          have ha := ha.add ((hv 15 (by decide)).trans (show vs_ 15 = .bool (decide (base' = xl.p + 8)) from hvs 15 (by decide)))
          refine st_go ha ?_
          clear ha hv hvs
          refine st_ev (v := .bool (decide (base' = xl.p + 8))) rfl (e_assign rfl) ?_
          refine st_nil (nrm_k ?_)
          refine sc_retf rfl (ret1 Try.results9 (rvt rfl) ?_)
          exact ⟨congrArg Value.bool (decide_eq_true (by omega)), xw_w25⟩
  ·
    refine sc_skip (nrm_k ?_)
    refine sc_seq ?_
    refine sc_seq ?_
    obtain ⟨e1, cs1, base1, ps1, hfl1, hwf1, hmid⟩ := hRv.mid (c := []) (.inl rfl)
    refine sc_reg ?_
    refine Go.XK.s (v := .pointer (some ⟨bw, 0, none⟩)) (e_move rfl) ?_
    refine Go.XK.s (v := .string (B [])) (e_move rfl) ?_
    refine sl_call ent27 rfl rfl (flush_d w _ _ _ _ _ _ w7 ge_bw xw_w7 hbw hop (hRv.wfq 0) hfl1) (by decide) ?_
    rintro _ w26 ⟨vF1, lvF1, ws1, rfl, hoF1, hiF1, hcs1, hbwN, hopN, hfrN, hw26⟩
    replace hoF1 := Own.low hoF1 (Below.size xw_w7)
    replace hoL1 := Go.XK.Own.fr2 hoL1 hfrN hbw hop (by decide) (by decide)
    replace hoO1 := Go.XK.Own.fr2 hoO1 hfrN hbw hop (by decide) (by decide)
    clear hbw hop
    have hbw := hbwN
    have hop := hopN
    clear hbwN hopN
    have xw_w26 := hw26
    refine Go.XK.s (v := .tuple #[vF1, .int .i64 e1]) (e_move rfl) ?_
    refine Go.XK.s (v := vF1) (e_extract (vs := [vF1, .int .i64 e1]) rfl rfl) ?_
    refine Go.XK.s (v := .int .i64 e1) (e_extract (vs := [vF1, .int .i64 e1]) rfl rfl) ?_
    refine Go.XK.s (v := vF1) (e_assign rfl) ?_
    refine Go.XK.s (v := .int .i64 e1) (e_assign rfl) ?_
    refine sl_nil (nrm_k ?_)
    refine sc_seq ?_
    refine sc_reg ?_
    refine Go.XK.s (v := .slice AL1 l.length cL1) (e_move rfl) ?_
    refine Go.XK.s (v := .int .i64 (l.length : Int)) (e_lenOwn Try.underlying38 rfl hoL1 (fun _ => rfl)) ?_
    refine Go.XK.s (v := .bool (decide ((0 : Int) < (l.length : Int)))) (e_gt rfl rfl) ?_
    refine Go.XK.s (v := .bool (decide ((0 : Int) < (l.length : Int)))) (e_move rfl) ?_
    refine sl_merge 3 78 (.bool ((decide ((0 : Int) < (l.length : Int))) && (decide (e1 ≠ 8)))) ?_ ?_
    · refine sl_case (t := 75) rfl (fun g13_3 => ?_) (fun g13_3 => ?_)
      ·
        refine sl_gev (v := .int .i64 e1) rfl rfl g13_3 (e_move rfl) rfl (by decide) ?_
        refine sl_gev (v := .bool (decide (e1 ≠ 8))) rfl rfl g13_3 (e_ne rfl rfl) rfl (by decide) ?_
        refine Go.XK.s (v := .bool (decide (e1 ≠ 8))) (e_pickT rfl g13_3 rfl) ?_
        exact sl_nil (fun a ha => ⟨rfl, ha.sub (.cons (by rw [g13_3]; rfl) (sub_self_cons (sub_self_cons (sub_self_cons (Sub.refl _) rfl) rfl) rfl))⟩)
      ·
        refine sl_gskip rfl rfl g13_3 (by decide) ?_
        refine sl_gskip rfl rfl g13_3 (by decide) ?_
        refine Go.XK.s (v := .bool false) (e_pickF rfl g13_3 rfl) ?_
        exact sl_nil (fun a ha => ⟨rfl, ha.sub (.cons (by rw [g13_3]; rfl) (sub_self_cons (sub_self_cons (sub_self_cons (Sub.refl _) rfl) rfl) rfl))⟩)
    refine sl_nil (nrm_k ?_)
    refine sc_no rfl (by exact mid_no hmid) ?_
    refine sc_skip (nrm_k ?_)
    refine sc_seq ?_
    refine sc_seq ?_
    refine sc_reg ?_
    refine Go.XK.s (v := .slice AL1 l.length cL1) (e_move rfl) ?_
    refine Go.XK.s (v := .int .i64 (l.length : Int)) (e_lenOwn Try.underlying38 rfl hoL1 (fun _ => rfl)) ?_
    refine Go.XK.s (v := .int .i64 0) (e_move rfl) ?_
    refine sl_nil (nrm_k ?_)
    refine sc_block ?_
    refine sc_loop (fun m_ l_ w_ => ∃ (i : Nat) (ps_ : List Pn) (lv_ : Value), m_ = l.length - i ∧ l_ = [(81, .int .i64 (i : Int)), (0, .int .u8 start.toNat), (3, .bool ctl), (9, .pointer (some ⟨bw, 0, none⟩)), (11, .slice AL1 l.length cL1), (12, .int .i64 base0), (13, .int .i64 (ctlP (start.toNat : Int) base0 (qP l 0))), (14, .string (B [])), (79, .slice AL1 l.length cL1), (80, .int .i64 (l.length : Int))] ∧ Ext w w_ ∧ Blk w_ bw 109 [.int .i64 (start.toNat : Int), .int .i64 base1, lv_] ∧ Go.XK.Own w_ w.heap.size 114 2 encP lv_ ps_ ∧ Go.XK.Own w_ w.heap.size 3 1 encI (.slice AL1 l.length cL1) l ∧ Go.XK.Own w_ w.heap.size 3 1 encI (.slice AO1 l.length cO1) l ∧ i ≤ l.length ∧ Wf (start.toNat : Int) base1 ps_ ∧ (l ≠ [] → base1 = base0 ∧ ps_ = qP l i)) _ [(81, .int .i64 (0 : Int)), (0, .int .u8 start.toNat), (3, .bool ctl), (9, .pointer (some ⟨bw, 0, none⟩)), (11, .slice AL1 l.length cL1), (12, .int .i64 base0), (13, .int .i64 (ctlP (start.toNat : Int) base0 (qP l 0))), (14, .string (B [])), (79, .slice AL1 l.length cL1), (80, .int .i64 (l.length : Int))] ⟨0, ps1, lvF1, rfl, rfl, xw_w26, hbw, hop, hoL1, hoO1, ⟨by omega, hwf1, fun h_ => (hmid h_).2⟩⟩ (.cons rfl (.cons rfl (.cons rfl (.cons rfl (.cons rfl (.cons rfl (.cons rfl (.cons rfl (.cons rfl (.cons rfl (.nil))))))))))) ?_
    rintro j28 _ w27 ⟨i, ps_, lv_, rfl, rfl, xw_w27, hbw, hop, hoL1, hoO1, ⟨hi, hwf1, hst⟩⟩
    refine sc_seq ?_
    refine sc_reg ?_
    refine Go.XK.s (v := .bool (decide ((i : Int) < (l.length : Int)))) (e_lt rfl rfl) ?_
    refine sl_nil (nrm_k ?_)
    refine sc_seq ?_
    refine sc_ifd rfl (fun c82 => ?_) (fun c82 => ?_)
    ·
      obtain ⟨x, hx⟩ : ∃ x, l[i]? = some x := ⟨_, List.getElem?_eq_getElem (by omega)⟩
      obtain ⟨hbe, hpe⟩ := hst (fun h_ => by rw [h_] at hx; cases hx)
      rw [hbe] at hbw
      rw [hpe] at hop
      refine sc_skip (nrm_k ?_)
      refine sc_seq ?_
      refine sc_block ?_
      refine sc_seq ?_
      refine sc_reg ?_
      refine Go.XK.s (v := .int .i64 (i : Int)) (e_move rfl) ?_
      refine Go.XK.s (v := .pointer (some (el (ownA (.slice AL1 l.length cL1)) 1 (i : Int) 0))) (e_idxOwn (x0 := x) Try.underlying38 Try.sizeOf3 rfl rfl hoL1 (fun _ => rfl) hx (by omega)) ?_
      refine Go.XK.s (v := .int .i64 x) (e_ldEl (xs := l) (enc := encI) (e := x) rfl (Go.XK.Own.rd hoL1 (fun _ => rfl)) hx Try.isAgg3 rfl) ?_
      refine Go.XK.s (v := .int .i64 (i : Int)) (e_assign rfl) ?_
      refine Go.XK.s (v := .int .i64 x) (e_assign rfl) ?_
      refine sl_nil (nrm_k ?_)
      refine sc_seq ?_
      refine sc_reg ?_
      refine Go.XK.s (v := .pointer (some ⟨bw, 0, none⟩)) (e_move rfl) ?_
      refine Go.XK.s (v := .int .i64 x) (e_move rfl) ?_
      refine Go.XK.s (v := .int .i64 (i : Int)) (e_move rfl) ?_
      refine Go.XK.s (v := .int .i64 ((i : Int) % 26)) (e_rem rfl rfl (by omega) (by omega)) ?_
      refine Go.XK.s (v := .int .i64 ((97 : Int) + ((i : Int) % 26))) (e_add rfl rfl (by omega)) ?_
      refine Go.XK.s (v := .int .u8 ((u8of ((97 : Int) + ((i : Int) % 26))).toNat)) (e_intu8 Try.underlying3 Try.underlying5 rfl) ?_
      refine sl_call ent24 rfl rfl (block_c (u8of ((97 : Int) + ((i : Int) % 26))) w27 (letter_lt (by omega))) (by decide) ?_
      rintro _ w29 ⟨rfl, hw29⟩
      have xw_w29 : Ext w w29 := Ext.tr xw_w27 hw29
      replace hbw := hbw.ext hw29
      replace hop := hop.ext hw29
      replace hoL1 := hoL1.ext hw29
      replace hoO1 := hoO1.ext hw29
      refine sl_call ent41 rfl rfl (fill_d w _ _ _ _ _ _ _ w29 ge_bw xw_w29 hbw hop (hRv.wfq i) (hRv.fill1 hx rfl)) (by decide) ?_
      rintro _ w30 ⟨rfl, hbwN, hopN, hfrN, hw30⟩
      replace hoL1 := Go.XK.Own.fr2 hoL1 hfrN hbw hop (by decide) (by decide)
      replace hoO1 := Go.XK.Own.fr2 hoO1 hfrN hbw hop (by decide) (by decide)
      clear hbw hop
      have hbw := hbwN
      have hop := hopN
      clear hbwN hopN
      have xw_w30 := hw30
      refine Go.XK.s (v := .int .i64 0) (e_assign rfl) ?_
      refine sl_nil (nrm_k ?_)
      refine sc_seq ?_
      refine sc_reg ?_
      refine Go.XK.s (v := .int .i64 0) (e_move rfl) ?_
      refine Go.XK.s (v := .bool (decide ((0 : Int) ≠ 0))) (e_ne rfl rfl) ?_
      refine Go.XK.s (v := .bool (decide ((0 : Int) ≠ 0))) (e_move rfl) ?_
      refine sl_gev (v := .pointer (some ⟨bw, 0, none⟩)) rfl rfl (by decide) (e_move rfl) rfl (by decide) ?_
      refine sl_gev (v := .int .i64 x) rfl rfl (by decide) (e_move rfl) rfl (by decide) ?_
      refine sl_gcall rfl rfl (by decide) ent24 rfl rfl (block_c 120 w30 (by decide)) (by decide) ?_
      rintro _ w31 ⟨rfl, hw31⟩
      have xw_w31 : Ext w w31 := Ext.tr xw_w30 hw31
      replace hbw := hbw.ext hw31
      replace hop := hop.ext hw31
      replace hoL1 := hoL1.ext hw31
      replace hoO1 := hoO1.ext hw31
      refine sl_gcall rfl rfl (by decide) ent41 rfl rfl (fill_d w _ _ _ _ _ _ _ w31 ge_bw xw_w31 hbw hop (hRv.wfq (i + 1)) (hRv.fill2 hx (blk1_length _))) (by decide) ?_
      rintro _ w32 ⟨rfl, hbwN, hopN, hfrN, hw32⟩
      replace hoL1 := Go.XK.Own.fr2 hoL1 hfrN hbw hop (by decide) (by decide)
      replace hoO1 := Go.XK.Own.fr2 hoO1 hfrN hbw hop (by decide) (by decide)
      clear hbw hop
      have hbw := hbwN
      have hop := hopN
      clear hbwN hopN
      have xw_w32 := hw32
      refine sl_gev (v := .bool (decide ((5 : Int) ≠ 5))) rfl rfl (by decide) (e_ne rfl rfl) rfl (by decide) ?_
      refine Go.XK.s (v := .bool (decide ((5 : Int) ≠ 5))) (e_pickF rfl (by decide) rfl) ?_
      refine sl_nil (nrm_k ?_)
      refine sc_no rfl (by decide) ?_
      refine sc_skip (nrm_k ?_)
      refine sc_reg ?_
      refine Go.XK.s (v := .int .i64 ((i : Int) + 1)) (e_add rfl rfl (by omega)) ?_
      refine Go.XK.s (v := .int .i64 ((i : Int) + 1)) (e_move rfl) ?_
      refine sl_nil ?_
      rw [← hbe] at hbw
      exact nrm_loopq rfl _ _ (by omega) ⟨i + 1, qP l (i + 1), lv_, rfl, rfl, xw_w32, hbw, hop, hoL1, hoO1, ⟨by omega, by rw [hbe]; exact hRv.wfq _, fun _ => ⟨hbe, rfl⟩⟩⟩ (.cons rfl (.cons rfl (.cons rfl (.cons rfl (.cons rfl (.cons rfl (.cons rfl (.cons rfl (.cons rfl (.cons rfl (.nil)))))))))))
    ·
      refine sc_exit rfl (nrm_k ?_)
      refine sc_seq ?_
      refine sc_seq ?_
      refine sc_reg ?_
      refine Go.XK.s (v := .slice AL1 l.length cL1) (e_move rfl) ?_
      refine Go.XK.s (v := .int .i64 (l.length : Int)) (e_lenOwn Try.underlying38 rfl hoL1 (fun _ => rfl)) ?_
      refine Go.XK.s (v := .bool (decide ((l.length : Int) = 0))) (e_eq rfl rfl) ?_
      refine sl_nil (nrm_k ?_)
      refine sc_ifd rfl (fun c106 => ?_) (fun c106 => ?_)
      ·
        refine sc_seq ?_
        refine sc_reg ?_
        refine Go.XK.s (v := .bool true) (e_assign rfl) ?_
        refine sl_nil (nrm_k ?_)
        refine sc_retf rfl (ret1 Try.results9 (rvt rfl) ?_)
        exact ⟨rfl, xw_w27⟩
      ·
        have hlne : l ≠ [] := fun h_ => c106 (by rw [h_]; rfl)
        obtain ⟨hbe, hpe⟩ := hst hlne
        rw [hbe] at hbw
        rw [hpe, show i = l.length by omega] at hop
        obtain ⟨L, K, base', hK0, hbK, hb4, hfl, hwf2, hct, hLl, hL7⟩ := hRv.fin hlne (c := []) (.inl rfl)
        refine sc_skip (nrm_k ?_)
        refine sc_seq ?_
        refine sc_reg ?_
        refine Go.XK.s (v := .pointer (some ⟨bw, 0, none⟩)) (e_move rfl) ?_
        refine Go.XK.s (v := .string (B [])) (e_move rfl) ?_
        refine sl_call ent27 rfl rfl (flush_d w _ _ _ _ _ _ w27 ge_bw xw_w27 hbw hop (hRv.wfq _) hfl) (by decide) ?_
        rintro _ w33 ⟨vF2, lvF2, ws2, rfl, hoF2, hiF2, hcs2, hbwN, hopN, hfrN, hw33⟩
        replace hoF2 := Own.low hoF2 (Below.size xw_w27)
        replace hoL1 := Go.XK.Own.fr2 hoL1 hfrN hbw hop (by decide) (by decide)
        replace hoO1 := Go.XK.Own.fr2 hoO1 hfrN hbw hop (by decide) (by decide)
        clear hbw hop
        have hbw := hbwN
        have hop := hopN
        clear hbwN hopN
        have xw_w33 := hw33
        obtain ⟨hwsl, hws⟩ := fl_out hcs2 hLl
        obtain ⟨AF, cF, eF_, hlcF, hcmF, _⟩ := Go.XK.Own.shape hoF2 (fun _ => rfl)
        subst eF_
        refine Go.XK.s (v := .tuple #[.slice AF ws2.length cF, .int .i64 0]) (e_move rfl) ?_
        refine Go.XK.s (v := .slice AF ws2.length cF) (e_extract (vs := [.slice AF ws2.length cF, .int .i64 0]) rfl rfl) ?_
        refine Go.XK.s (v := .int .i64 0) (e_extract (vs := [.slice AF ws2.length cF, .int .i64 0]) rfl rfl) ?_
        refine Go.XK.s (v := .slice AF ws2.length cF) (e_assign rfl) ?_
        refine Go.XK.s (v := .int .i64 0) (e_assign rfl) ?_
        refine sl_nil (nrm_k ?_)
        refine sc_seq ?_
        refine sc_seq ?_
        refine sc_reg ?_
        refine Go.XK.s (v := .int .i64 0) (e_move rfl) ?_
        refine Go.XK.s (v := .bool (decide ((0 : Int) ≠ 0))) (e_ne rfl rfl) ?_
        refine Go.XK.s (v := .bool (decide ((0 : Int) ≠ 0))) (e_move rfl) ?_
        refine sl_gev (v := .pointer (some ⟨bw, 0, none⟩)) rfl rfl (by decide) (e_move rfl) rfl (by decide) ?_
        refine sl_gcall rfl rfl (by decide) ent39 rfl rfl (open_d w _ _ _ _ _ w33 ge_bw xw_w33 hbw hop hwf2 (show opnL [] = [] from rfl)) (by decide) ?_
        rintro vO2 w34 ⟨hoO2, hw34⟩
        replace hoO2 := Own.low hoO2 (Below.size xw_w33)
        have xw_w34 : Ext w w34 := Ext.tr xw_w33 hw34
        replace hbw := hbw.ext hw34
        replace hop := hop.ext hw34
        replace hoL1 := hoL1.ext hw34
        replace hoO1 := hoO1.ext hw34
        replace hoF2 := hoF2.ext hw34
        replace hiF2 := hiF2.ext hw34
        obtain ⟨AO2, cO2, eO2_, hlcO2, hcmO2, _⟩ := Go.XK.Own.shape hoO2 (fun _ => rfl)
        subst eO2_
        refine sl_gev (v := .int .i64 ([].length : Int)) rfl rfl (by decide) (e_lenOwn Try.underlying38 rfl hoO2 (fun _ => rfl)) rfl (by decide) ?_
        refine sl_gev (v := .bool (decide (([].length : Int) ≠ 0))) rfl rfl (by decide) (e_ne rfl rfl) rfl (by decide) ?_
        refine Go.XK.s (v := .bool (decide (([].length : Int) ≠ 0))) (e_pickF rfl (by decide) rfl) ?_
        refine sl_nil (nrm_k ?_)
        refine sc_no rfl (by decide) ?_
        refine sc_skip (nrm_k ?_)
        refine sc_seq ?_
        refine sc_seq ?_
        refine sc_reg ?_
        refine Go.XK.s (v := .slice AF ws2.length cF) (e_move rfl) ?_
        refine Go.XK.s (v := .int .i64 (ws2.length : Int)) (e_lenOwn Try.underlying24 rfl hoF2 (fun _ => rfl)) ?_
        refine Go.XK.s (v := .int .i64 0) (e_move rfl) ?_
        refine sl_nil (nrm_k ?_)
        refine sc_block ?_
        refine sc_loop (fun m_ l_ w_ => ∃ (i : Nat), m_ = ws2.length - i ∧ l_ = [(123, .int .i64 (i : Int)), (0, .int .u8 start.toNat), (3, .bool ctl), (9, .pointer (some ⟨bw, 0, none⟩)), (11, .slice AL1 l.length cL1), (12, .int .i64 base0), (13, .int .i64 (ctlP (start.toNat : Int) base0 (qP l 0))), (14, .string (B [])), (20, .slice AF ws2.length cF), (121, .slice AF ws2.length cF), (122, .int .i64 (ws2.length : Int))] ∧ Ext w w_ ∧ Blk w_ bw 109 [.int .i64 (start.toNat : Int), .int .i64 base', lvF2] ∧ Go.XK.Own w_ w.heap.size 114 2 encP lvF2 [] ∧ Go.XK.Own w_ w.heap.size 3 1 encI (.slice AL1 l.length cL1) l ∧ Go.XK.Own w_ w.heap.size 3 1 encI (.slice AO1 l.length cO1) l ∧ Go.XK.Own w_ w.heap.size 49 4 encW (.slice AF ws2.length cF) ws2 ∧ Inn w_ ws2 ∧ Go.XK.Own w_ w.heap.size 3 1 encI (.slice AO2 ([].length) cO2) [] ∧ i ≤ ws2.length) _ [(123, .int .i64 (0 : Int)), (0, .int .u8 start.toNat), (3, .bool ctl), (9, .pointer (some ⟨bw, 0, none⟩)), (11, .slice AL1 l.length cL1), (12, .int .i64 base0), (13, .int .i64 (ctlP (start.toNat : Int) base0 (qP l 0))), (14, .string (B [])), (20, .slice AF ws2.length cF), (121, .slice AF ws2.length cF), (122, .int .i64 (ws2.length : Int))] ⟨0, rfl, rfl, xw_w34, hbw, hop, hoL1, hoO1, hoF2, hiF2, hoO2, (by omega)⟩ (.cons rfl (.cons rfl (.cons rfl (.cons rfl (.cons rfl (.cons rfl (.cons rfl (.cons rfl (.cons rfl (.cons rfl (.cons rfl (.nil)))))))))))) ?_
        rintro j36 _ w35 ⟨i, rfl, rfl, xw_w35, hbw, hop, hoL1, hoO1, hoF2, hiF2, hoO2, hi⟩
        refine sc_seq ?_
        refine sc_reg ?_
        refine Go.XK.s (v := .bool (decide ((i : Int) < (ws2.length : Int)))) (e_lt rfl rfl) ?_
        refine sl_nil (nrm_k ?_)
        refine sc_seq ?_
        refine sc_ifd rfl (fun c124 => ?_) (fun c124 => ?_)
        ·
          obtain ⟨x, hx⟩ : ∃ x, ws2[i]? = some x := ⟨_, List.getElem?_eq_getElem (by omega)⟩
          have hiW := hiF2
          refine sc_skip (nrm_k ?_)
          refine sc_seq ?_
          refine sc_block ?_
          refine sc_seq ?_
          refine sc_reg ?_
          refine Go.XK.s (v := .int .i64 (i : Int)) (e_move rfl) ?_
          refine Go.XK.s (v := .pointer (some (el (ownA (.slice AF ws2.length cF)) 4 (i : Int) 0))) (e_idxOwn (x0 := x) Try.underlying24 Try.sizeOf49 rfl rfl hoF2 (fun _ => rfl) hx (by omega)) ?_
          refine Go.XK.s (v := .agg #[.int .i64 x.p, .slice x.A x.bl.length x.c, .bool x.sy, .bool x.cl]) (e_ldElA (xs := ws2) (enc := encW) (e := x) rfl (Go.XK.Own.rd hoF2 (fun _ => rfl)) hx Try.isAgg49 Try.sizeOf49 rfl) ?_
          refine s_alloc (cs := [.int .i64 0, .slice none 0 0, .bool false, .bool false]) Try.zeroValue49 rfl ?_
          intro b22 w37 hb22 he22 hs22 hx22
          have ne_b22_bw : b22 ≠ bw := by have h_ := hbw.lt; omega
          have no_b22_hop : Value.ownBlock lvF2 ≠ some b22 := fun h_ => by have h2_ := (Go.XK.Own.lt hop _ h_).2; omega
          have no_b22_hoL1 : Value.ownBlock (.slice AL1 l.length cL1) ≠ some b22 := fun h_ => by have h2_ := (Go.XK.Own.lt hoL1 _ h_).2; omega
          have no_b22_hoO1 : Value.ownBlock (.slice AO1 l.length cO1) ≠ some b22 := fun h_ => by have h2_ := (Go.XK.Own.lt hoO1 _ h_).2; omega
          have no_b22_hoF2 : Value.ownBlock (.slice AF ws2.length cF) ≠ some b22 := fun h_ => by have h2_ := (Go.XK.Own.lt hoF2 _ h_).2; omega
          have no_b22_hoO2 : Value.ownBlock (.slice AO2 ([].length) cO2) ≠ some b22 := fun h_ => by have h2_ := (Go.XK.Own.lt hoO2 _ h_).2; omega
          have ge_b22 : w.heap.size ≤ b22 := by have h_ := (Below.size xw_w35); omega
          have gew35_b22 : w35.heap.size ≤ b22 := by have h_ := (Below.size (Ext.rfl' w35)); omega
          have xw_w37 : Ext w w37 := Ext.tr xw_w35 hx22
          have xw35_w37 : Ext w35 w37 := Ext.tr (Ext.rfl' w35) hx22
          replace hbw := hbw.ext hx22
          replace hop := hop.ext hx22
          replace hoL1 := hoL1.ext hx22
          replace hoO1 := hoO1.ext hx22
          replace hoF2 := hoF2.ext hx22
          replace hoO2 := hoO2.ext hx22
          refine Go.XK.s (v := .int .i64 (i : Int)) (e_assign rfl) ?_
          refine su_blkV [.int .i64 x.p, .slice x.A x.bl.length x.c, .bool x.sy, .bool x.cl] [.int .i64 x.p, .slice x.A x.bl.length x.c, .bool x.sy, .bool x.cl] rfl rfl hb22 rfl Try.sizeOf49 (Nat.le_of_ble_eq_true rfl) rfl rfl ?_
          intro w38 hn_ hm_w38 hs_w38
          have ho_ := hb22
          replace hb22 := hn_
          clear hn_
          replace hbw := hbw.mut hm_w38 (Ne.symm ne_b22_bw)
          replace hop := hop.mut hm_w38 no_b22_hop
          replace hoL1 := hoL1.mut hm_w38 no_b22_hoL1
          replace hoO1 := hoO1.mut hm_w38 no_b22_hoO1
          replace hoF2 := hoF2.mut hm_w38 no_b22_hoF2
          replace hoO2 := hoO2.mut hm_w38 no_b22_hoO2
          have xw_w38 : Ext w w38 := below_mut xw_w37 (Below.size xw_w37) hm_w38 ge_b22
          have xw35_w38 : Ext w35 w38 := below_mut xw35_w37 (Below.size xw35_w37) hm_w38 gew35_b22
          refine sl_nil (nrm_k ?_)
          refine sc_seq ?_
          refine sc_seq ?_
          obtain ⟨hxp, hxl, hx7, hxs, hxc⟩ := hws i x hx
          have hiK : i < K := by omega
          have hm8 := hwf2.m8
          have hbx : x.p ≤ 4096 := by omega
          have hm0 := hW0.m8
          refine sc_reg ?_
          refine Go.XK.s (v := .pointer (some ⟨b22, 0, none⟩)) (e_fieldB (sz := 1) Try.underlying49 rfl Try.sizeOf3 (by decide) rfl rfl) ?_
          refine Go.XK.s (v := .int .i64 x.p) (e_load rfl (load1 Try.isAgg3 (hb22.cell (j := 0) rfl))) ?_
          refine Go.XK.s (v := .int .i64 base0) (e_move rfl) ?_
          refine Go.XK.s (v := .int .i64 (i : Int)) (e_move rfl) ?_
          refine Go.XK.s (v := .int .i64 ((i : Int) * 8)) (e_mul rfl rfl (by omega)) ?_
          refine Go.XK.s (v := .int .i64 (base0 + ((i : Int) * 8))) (e_add rfl rfl (by omega)) ?_
          refine Go.XK.s (v := .bool (decide (x.p ≠ base0 + ((i : Int) * 8)))) (e_ne rfl rfl) ?_
          refine Go.XK.s (v := .bool (decide (x.p ≠ base0 + ((i : Int) * 8)))) (e_move rfl) ?_
          refine sl_gev (v := .pointer (some ⟨b22, 0, none⟩)) rfl rfl (decide_eq_false (by omega)) (e_fieldB (sz := 1) Try.underlying49 rfl Try.sizeOf3 (by decide) rfl rfl) rfl (by decide) ?_
          refine sl_gev (v := .int .i64 x.p) rfl rfl (decide_eq_false (by omega)) (e_load rfl (load1 Try.isAgg3 (hb22.cell (j := 0) rfl))) rfl (by decide) ?_
          refine sl_gev (v := .int .u8 start.toNat) rfl rfl (decide_eq_false (by omega)) (e_move rfl) rfl (by decide) ?_
          refine sl_gev (v := .int .i64 (start.toNat : Int)) rfl rfl (decide_eq_false (by omega)) (e_u8int (c := start) Try.underlying5 Try.underlying3 (by decide) rfl) rfl (by decide) ?_
          refine sl_gev (v := .int .i64 (x.p - (start.toNat : Int))) rfl rfl (decide_eq_false (by omega)) (e_sub rfl rfl (by omega)) rfl (by decide) ?_
          refine sl_gev (v := .int .i64 ((x.p - (start.toNat : Int)) % 8)) rfl rfl (decide_eq_false (by omega)) (e_rem rfl rfl (by omega) (by omega)) rfl (by decide) ?_
          refine sl_gev (v := .bool (decide ((x.p - (start.toNat : Int)) % 8 ≠ 0))) rfl rfl (decide_eq_false (by omega)) (e_ne rfl rfl) rfl (by decide) ?_
          refine Go.XK.s (v := .bool (decide ((x.p - (start.toNat : Int)) % 8 ≠ 0))) (e_pickF rfl (decide_eq_false (by omega)) rfl) ?_
          refine Go.XK.s (v := .bool (decide ((x.p - (start.toNat : Int)) % 8 ≠ 0))) (e_move rfl) ?_
          refine sl_gev (v := .pointer (some ⟨b22, 1, none⟩)) rfl rfl (decide_eq_false (by omega)) (e_fieldB (sz := 1) Try.underlying49 rfl Try.sizeOf22 (by decide) rfl rfl) rfl (by decide) ?_
          refine sl_gev (v := .slice x.A x.bl.length x.c) rfl rfl (decide_eq_false (by omega)) (e_load rfl (load1 Try.isAgg22 (hb22.cell (j := 1) rfl))) rfl (by decide) ?_
          refine sl_gev (v := .int .i64 (x.bl.length : Int)) rfl rfl (decide_eq_false (by omega)) (e_len Try.underlying22 rfl) rfl (by decide) ?_
          refine sl_gev (v := .bool (decide ((x.bl.length : Int) ≠ 8))) rfl rfl (decide_eq_false (by omega)) (e_ne rfl rfl) rfl (by decide) ?_
          refine Go.XK.s (v := .bool (decide ((x.bl.length : Int) ≠ 8))) (e_pickF rfl (decide_eq_false (by omega)) rfl) ?_
          refine Go.XK.s (v := .bool (decide ((x.bl.length : Int) ≠ 8))) (e_move rfl) ?_
          refine sl_gev (v := .pointer (some ⟨b22, 3, none⟩)) rfl rfl (decide_eq_false (by omega)) (e_fieldB (sz := 1) Try.underlying49 rfl Try.sizeOf4 (by decide) rfl rfl) rfl (by decide) ?_
          refine sl_gev (v := .bool x.cl) rfl rfl (decide_eq_false (by omega)) (e_load rfl (load1 Try.isAgg4 (hb22.cell (j := 3) rfl))) rfl (by decide) ?_
          refine Go.XK.s (v := .bool x.cl) (e_pickF rfl (decide_eq_false (by omega)) rfl) ?_
          refine Go.XK.s (v := .bool x.cl) (e_move rfl) ?_
          refine sl_gev (v := .pointer (some ⟨b22, 2, none⟩)) rfl rfl hxc (e_fieldB (sz := 1) Try.underlying49 rfl Try.sizeOf4 (by decide) rfl rfl) rfl (by decide) ?_
          refine sl_gev (v := .bool x.sy) rfl rfl hxc (e_load rfl (load1 Try.isAgg4 (hb22.cell (j := 2) rfl))) rfl (by decide) ?_
          refine sl_gev (v := .int .i64 (i : Int)) rfl rfl hxc (e_move rfl) rfl (by decide) ?_
          refine sl_gev (v := .slice AF ws2.length cF) rfl rfl hxc (e_move rfl) rfl (by decide) ?_
          refine sl_gev (v := .int .i64 (ws2.length : Int)) rfl rfl hxc (e_lenOwn Try.underlying24 rfl hoF2 (fun _ => rfl)) rfl (by decide) ?_
          refine sl_gev (v := .int .i64 ((ws2.length : Int) - 1)) rfl rfl hxc (e_sub rfl rfl (by omega)) rfl (by decide) ?_
          refine sl_gev (v := .bool (decide ((i : Int) = (ws2.length : Int) - 1))) rfl rfl hxc (e_eq rfl rfl) rfl (by decide) ?_
          refine sl_gev (v := .bool (x.sy != (decide ((i : Int) = (ws2.length : Int) - 1)))) rfl rfl hxc (e_boolne Try.underlying4 rfl rfl) rfl (by decide) ?_
          refine Go.XK.s (v := .bool (x.sy != (decide ((i : Int) = (ws2.length : Int) - 1)))) (e_pickF rfl hxc rfl) ?_
          refine sl_nil (nrm_k ?_)
          refine sc_no rfl (by rw [hxs, show decide (i + 1 = K) = decide ((i : Int) = (ws2.length : Int) - 1) from decide_eq_decide.2 (by omega)]; simp) ?_
          refine sc_skip (nrm_k ?_)
          refine sc_seq ?_
          rcases Classical.em (i + 1 = K) with g39 | g39
          ·
            refine sc_reg ?_
            refine sl_call ent24 rfl rfl (block_c 0 w38 (by decide)) (by decide) ?_
            rintro _ w40 ⟨rfl, hw40⟩
            have xw_w40 : Ext w w40 := Ext.tr xw_w38 hw40
            have xw35_w40 : Ext w35 w40 := Ext.tr xw35_w38 hw40
            replace hbw := hbw.ext hw40
            replace hb22 := hb22.ext hw40
            replace hop := hop.ext hw40
            replace hoL1 := hoL1.ext hw40
            replace hoO1 := hoO1.ext hw40
            replace hoF2 := hoF2.ext hw40
            replace hoO2 := hoO2.ext hw40
            refine Go.XK.s (v := .string (B (blk1 0))) (e_assign rfl) ?_
            refine sl_nil (nrm_k ?_)
            refine sc_seq ?_
            refine sc_seq ?_
            refine sc_reg ?_
            refine Go.XK.s (v := .pointer (some ⟨b22, 2, none⟩)) (e_fieldB (sz := 1) Try.underlying49 rfl Try.sizeOf4 (by decide) rfl rfl) ?_
            refine Go.XK.s (v := .bool x.sy) (e_load rfl (load1 Try.isAgg4 (hb22.cell (j := 2) rfl))) ?_
            refine Go.XK.s (v := .bool x.sy) (e_move rfl) ?_
            refine sl_gev (v := .bool ctl) rfl rfl (hxs.trans (decide_eq_true g39)) (e_move rfl) rfl (by decide) ?_
            refine Go.XK.s (v := .bool ctl) (e_pickT rfl (hxs.trans (decide_eq_true g39)) rfl) ?_
            refine sl_nil (nrm_k ?_)
            refine sc_no rfl c64 ?_
            refine sc_skip (nrm_k ?_)
            refine sc_seq ?_
            have hin_x : SlR w40 x.A x.c 1 encS x.bl := SlR.ext (hiW x (List.mem_of_getElem? hx)) xw35_w40
            have h7 := hL7 i hiK
            rw [← hx7, if_neg (fun e_ => e_.1 rfl)] at h7
            have hiK1 : i + 1 = K := of_decide_eq_true (decide_eq_true g39)
            refine sc_reg ?_
            refine Go.XK.s (v := .pointer (some ⟨b22, 1, none⟩)) (e_fieldB (sz := 1) Try.underlying49 rfl Try.sizeOf22 (by decide) rfl rfl) ?_
            refine Go.XK.s (v := .slice x.A x.bl.length x.c) (e_load rfl (load1 Try.isAgg22 (hb22.cell (j := 1) rfl))) ?_
            refine Go.XK.s (v := .pointer (some (el x.A 1 7 0))) (e_idxEl (e := zB) Try.underlying22 Try.sizeOf9 rfl rfl hin_x.1 h7 (by omega) rfl) ?_
            refine Go.XK.s (v := .string (B zB)) (e_ldEl (xs := x.bl) (enc := encS) (e := zB) rfl hin_x.1 h7 Try.isAgg9 rfl) ?_
            refine Go.XK.s (v := .string (B (blk1 0))) (e_move rfl) ?_
            refine Go.XK.s (v := .bool (decide (zB ≠ blk1 0))) (e_sne rfl rfl) ?_
            refine Go.XK.s (v := .bool (decide (zB ≠ blk1 0))) (e_move rfl) ?_
            refine sl_gev (v := .pointer (some ⟨b22, 2, none⟩)) rfl rfl (decide_eq_false (fun h_ => h_ zB_blk.symm)) (e_fieldB (sz := 1) Try.underlying49 rfl Try.sizeOf4 (by decide) rfl rfl) rfl (by decide) ?_
            refine sl_gev (v := .bool x.sy) rfl rfl (decide_eq_false (fun h_ => h_ zB_blk.symm)) (e_load rfl (load1 Try.isAgg4 (hb22.cell (j := 2) rfl))) rfl (by decide) ?_
            refine sl_gev (v := .bool x.sy) rfl rfl (decide_eq_false (fun h_ => h_ zB_blk.symm)) (e_move rfl) rfl (by decide) ?_
            refine sl_gev (v := .pointer (some ⟨b22, 0, none⟩)) rfl rfl (hxs.trans (decide_eq_true g39)) (e_fieldB (sz := 1) Try.underlying49 rfl Try.sizeOf3 (by decide) rfl rfl) rfl (by decide) ?_
            refine sl_gev (v := .int .i64 x.p) rfl rfl (hxs.trans (decide_eq_true g39)) (e_load rfl (load1 Try.isAgg3 (hb22.cell (j := 0) rfl))) rfl (by decide) ?_
            refine sl_gev (v := .int .i64 (x.p + 8)) rfl rfl (hxs.trans (decide_eq_true g39)) (e_add rfl rfl (by omega)) rfl (by decide) ?_
            refine sl_gev (v := .int .i64 ((x.p + 8) - 1)) rfl rfl (hxs.trans (decide_eq_true g39)) (e_sub rfl rfl (by omega)) rfl (by decide) ?_
            refine sl_gev (v := .int .i64 (ctlP (start.toNat : Int) base0 (qP l 0))) rfl rfl (hxs.trans (decide_eq_true g39)) (e_move rfl) rfl (by decide) ?_
            refine sl_gev (v := .bool (decide ((x.p + 8) - 1 ≠ ctlP (start.toNat : Int) base0 (qP l 0)))) rfl rfl (hxs.trans (decide_eq_true g39)) (e_ne rfl rfl) rfl (by decide) ?_
            refine sl_gev (v := .bool (decide ((x.p + 8) - 1 ≠ ctlP (start.toNat : Int) base0 (qP l 0)))) rfl rfl (decide_eq_false (fun h_ => h_ zB_blk.symm)) (e_pickT rfl (hxs.trans (decide_eq_true g39)) rfl) rfl (by decide) ?_
            refine Go.XK.s (v := .bool (decide ((x.p + 8) - 1 ≠ ctlP (start.toNat : Int) base0 (qP l 0)))) (e_pickF rfl (decide_eq_false (fun h_ => h_ zB_blk.symm)) rfl) ?_
            refine sl_nil (nrm_k ?_)
            refine sc_no rfl (decide_eq_false (by omega)) ?_
            refine sc_skip (nrm_k ?_)
            refine sc_reg ?_
            refine Go.XK.s (v := .int .i64 ((i : Int) + 1)) (e_add rfl rfl (by omega)) ?_
            refine Go.XK.s (v := .int .i64 ((i : Int) + 1)) (e_move rfl) ?_
            refine sl_nil ?_
            exact nrm_loopq rfl _ _ (by omega) ⟨i + 1, rfl, rfl, xw_w40, hbw, hop, hoL1, hoO1, hoF2, (Inn.ext hiW xw35_w40), hoO2, (by omega)⟩ (.cons rfl (.cons rfl (.cons rfl (.cons rfl (.cons rfl (.cons rfl (.cons rfl (.cons rfl (.cons rfl (.cons rfl (.cons rfl (.nil))))))))))))
          ·
            refine sc_reg ?_
            refine sl_call ent24 rfl rfl (block_c 0 w38 (by decide)) (by decide) ?_
            rintro _ w41 ⟨rfl, hw41⟩
            have xw_w41 : Ext w w41 := Ext.tr xw_w38 hw41
            have xw35_w41 : Ext w35 w41 := Ext.tr xw35_w38 hw41
            replace hbw := hbw.ext hw41
            replace hb22 := hb22.ext hw41
            replace hop := hop.ext hw41
            replace hoL1 := hoL1.ext hw41
            replace hoO1 := hoO1.ext hw41
            replace hoF2 := hoF2.ext hw41
            replace hoO2 := hoO2.ext hw41
            refine Go.XK.s (v := .string (B (blk1 0))) (e_assign rfl) ?_
            refine sl_nil (nrm_k ?_)
            refine sc_seq ?_
            refine sc_seq ?_
            refine sc_reg ?_
            refine Go.XK.s (v := .pointer (some ⟨b22, 2, none⟩)) (e_fieldB (sz := 1) Try.underlying49 rfl Try.sizeOf4 (by decide) rfl rfl) ?_
            refine Go.XK.s (v := .bool x.sy) (e_load rfl (load1 Try.isAgg4 (hb22.cell (j := 2) rfl))) ?_
            refine Go.XK.s (v := .bool x.sy) (e_move rfl) ?_
            refine sl_gskip rfl rfl (hxs.trans (decide_eq_false g39)) (by decide) ?_
            refine Go.XK.s (v := .bool false) (e_pickF rfl (hxs.trans (decide_eq_false g39)) rfl) ?_
            refine sl_nil (nrm_k ?_)
            refine sc_no rfl rfl ?_
            refine sc_skip (nrm_k ?_)
            refine sc_seq ?_
            have hin_x : SlR w41 x.A x.c 1 encS x.bl := SlR.ext (hiW x (List.mem_of_getElem? hx)) xw35_w41
            have h7 := hL7 i hiK
            rw [← hx7, if_neg (fun e_ => of_decide_eq_false (decide_eq_false g39) e_.2)] at h7
            refine sc_reg ?_
            refine Go.XK.s (v := .pointer (some ⟨b22, 1, none⟩)) (e_fieldB (sz := 1) Try.underlying49 rfl Try.sizeOf22 (by decide) rfl rfl) ?_
            refine Go.XK.s (v := .slice x.A x.bl.length x.c) (e_load rfl (load1 Try.isAgg22 (hb22.cell (j := 1) rfl))) ?_
            refine Go.XK.s (v := .pointer (some (el x.A 1 7 0))) (e_idxEl (e := zB) Try.underlying22 Try.sizeOf9 rfl rfl hin_x.1 h7 (by omega) rfl) ?_
            refine Go.XK.s (v := .string (B zB)) (e_ldEl (xs := x.bl) (enc := encS) (e := zB) rfl hin_x.1 h7 Try.isAgg9 rfl) ?_
            refine Go.XK.s (v := .string (B (blk1 0))) (e_move rfl) ?_
            refine Go.XK.s (v := .bool (decide (zB ≠ blk1 0))) (e_sne rfl rfl) ?_
            refine Go.XK.s (v := .bool (decide (zB ≠ blk1 0))) (e_move rfl) ?_
            refine sl_gev (v := .pointer (some ⟨b22, 2, none⟩)) rfl rfl (decide_eq_false (fun h_ => h_ zB_blk.symm)) (e_fieldB (sz := 1) Try.underlying49 rfl Try.sizeOf4 (by decide) rfl rfl) rfl (by decide) ?_
            refine sl_gev (v := .bool x.sy) rfl rfl (decide_eq_false (fun h_ => h_ zB_blk.symm)) (e_load rfl (load1 Try.isAgg4 (hb22.cell (j := 2) rfl))) rfl (by decide) ?_
            refine sl_gev (v := .bool x.sy) rfl rfl (decide_eq_false (fun h_ => h_ zB_blk.symm)) (e_move rfl) rfl (by decide) ?_
            refine sl_gskip rfl rfl (hxs.trans (decide_eq_false g39)) (by decide) ?_
            refine sl_gskip rfl rfl (hxs.trans (decide_eq_false g39)) (by decide) ?_
            refine sl_gskip rfl rfl (hxs.trans (decide_eq_false g39)) (by decide) ?_
            refine sl_gskip rfl rfl (hxs.trans (decide_eq_false g39)) (by decide) ?_
            refine sl_gskip rfl rfl (hxs.trans (decide_eq_false g39)) (by decide) ?_
            refine sl_gskip rfl rfl (hxs.trans (decide_eq_false g39)) (by decide) ?_
            refine sl_gev (v := .bool false) rfl rfl (decide_eq_false (fun h_ => h_ zB_blk.symm)) (e_pickF rfl (hxs.trans (decide_eq_false g39)) rfl) rfl (by decide) ?_
            refine Go.XK.s (v := .bool false) (e_pickF rfl (decide_eq_false (fun h_ => h_ zB_blk.symm)) rfl) ?_
            refine sl_nil (nrm_k ?_)
            refine sc_no rfl rfl ?_
            refine sc_skip (nrm_k ?_)
            refine sc_reg ?_
            refine Go.XK.s (v := .int .i64 ((i : Int) + 1)) (e_add rfl rfl (by omega)) ?_
            refine Go.XK.s (v := .int .i64 ((i : Int) + 1)) (e_move rfl) ?_
            refine sl_nil ?_
            exact nrm_loopq rfl _ _ (by omega) ⟨i + 1, rfl, rfl, xw_w41, hbw, hop, hoL1, hoO1, hoF2, (Inn.ext hiW xw35_w41), hoO2, (by omega)⟩ (.cons rfl (.cons rfl (.cons rfl (.cons rfl (.cons rfl (.cons rfl (.cons rfl (.cons rfl (.cons rfl (.cons rfl (.cons rfl (.nil))))))))))))
        ·
          refine sc_exit rfl (nrm_k ?_)
          refine sc_seq ?_
          obtain ⟨xl, hxl⟩ : ∃ xl, ws2[((ws2.length : Int) - 1).toNat]? = some xl := ⟨_, List.getElem?_eq_getElem (by omega)⟩
          obtain ⟨hxp, _⟩ := hws _ xl hxl
          have hbx : xl.p ≤ 4096 := by omega
          refine sc_free [(124, .bool (decide ((i : Int) < (ws2.length : Int)))), (123, .int .i64 (i : Int)), (0, .int .u8 start.toNat), (3, .bool ctl), (9, .pointer (some ⟨bw, 0, none⟩)), (11, .slice AL1 l.length cL1), (12, .int .i64 base0), (13, .int .i64 (ctlP (start.toNat : Int) base0 (qP l 0))), (14, .string (B [])), (20, .slice AF ws2.length cF), (121, .slice AF ws2.length cF), (122, .int .i64 (ws2.length : Int))] [190, 191, 192, 193, 194, 195, 196, 197, 198, 199, 200, 201, 202, 203, 204, 205] [(Is (.slice AF ws2.length cF)), (Is (.int .i64 (ws2.length : Int))), (Is (.bool (decide ((0 : Int) < (ws2.length : Int))))), (Is (.bool (decide ((0 : Int) < (ws2.length : Int))))), (Is (.pointer (some ⟨bw, 0, none⟩))), (Is (.int .i64 base')), (Is (.slice AF ws2.length cF)), (Is (.slice AF ws2.length cF)), (Is (.int .i64 (ws2.length : Int))), (Is (.int .i64 ((ws2.length : Int) - 1))), (Is (.pointer (some (el (ownA (.slice AF ws2.length cF)) 4 ((ws2.length : Int) - 1) 0)))), (Is (.pointer (some (el (ownA (.slice AF ws2.length cF)) 4 ((ws2.length : Int) - 1) 0)))), (Is (.int .i64 xl.p)), (Is (.int .i64 (xl.p + 8))), (Is (.bool (decide (base' = xl.p + 8)))), (Is (.bool (decide (base' = xl.p + 8))))] [16] (by kernel_rfl) (Sub.refl _) (by kernel_rfl) (by kernel_rfl) (by kernel_rfl) rfl (by kernel_rfl) (ds_ext (Stays.spec (.is _ (.is _ (.is _ (.is _ (.is _ (.is _ (.is _ (.is _ (.is _ (.is _ (.is _ (.is _ (.is _ (.is _ (.is _ (.is _ (.nil))))))))))))))))))) ⟨?_, ?_, ?_, ?_, ?_, ?_, ?_, ?_, ?_, ?_, ?_, ?_, ?_, ?_, ?_, ?_, trivial⟩ ?_
          · intro Q act_ wI hxI ha hp
            have xw_wI : Ext w wI := Ext.tr xw_w35 hxI
            have xw35_wI : Ext w35 wI := Ext.tr (Ext.rfl' w35) hxI
            replace hbw := hbw.ext hxI
            replace hop := hop.ext hxI
            replace hoL1 := hoL1.ext hxI
            replace hoO1 := hoO1.ext hxI
            replace hoF2 := hoF2.ext hxI
            replace hiF2 := hiF2.ext hxI
            replace hoO2 := hoO2.ext hxI
            exact h_evA (v := .slice AF ws2.length cF) ha rfl (e_move rfl) rfl rfl (Ext.rfl' _)
          · intro Q act_ wI hxI ha hp
            have xw_wI : Ext w wI := Ext.tr xw_w35 hxI
            have xw35_wI : Ext w35 wI := Ext.tr (Ext.rfl' w35) hxI
            replace hbw := hbw.ext hxI
            replace hop := hop.ext hxI
            replace hoL1 := hoL1.ext hxI
            replace hoO1 := hoO1.ext hxI
            replace hoF2 := hoF2.ext hxI
            replace hiF2 := hiF2.ext hxI
            replace hoO2 := hoO2.ext hxI
            have ha := ha.add (show act_.tmps.getD 190 undef = .slice AF ws2.length cF from hp 0 (by kernel_rfl) (by decide))
            exact h_evA (v := .int .i64 (ws2.length : Int)) ha rfl (e_lenOwn Try.underlying24 rfl hoF2 (fun _ => rfl)) rfl rfl (Ext.rfl' _)
          · intro Q act_ wI hxI ha hp
            have xw_wI : Ext w wI := Ext.tr xw_w35 hxI
            have xw35_wI : Ext w35 wI := Ext.tr (Ext.rfl' w35) hxI
            replace hbw := hbw.ext hxI
            replace hop := hop.ext hxI
            replace hoL1 := hoL1.ext hxI
            replace hoO1 := hoO1.ext hxI
            replace hoF2 := hoF2.ext hxI
            replace hiF2 := hiF2.ext hxI
            replace hoO2 := hoO2.ext hxI
            have ha := ha.add (show act_.tmps.getD 191 undef = .int .i64 (ws2.length : Int) from hp 1 (by kernel_rfl) (by decide))
            exact h_evA (v := .bool (decide ((0 : Int) < (ws2.length : Int)))) ha rfl (e_gt rfl rfl) rfl rfl (Ext.rfl' _)
          · intro Q act_ wI hxI ha hp
            have xw_wI : Ext w wI := Ext.tr xw_w35 hxI
            have xw35_wI : Ext w35 wI := Ext.tr (Ext.rfl' w35) hxI
            replace hbw := hbw.ext hxI
            replace hop := hop.ext hxI
            replace hoL1 := hoL1.ext hxI
            replace hoO1 := hoO1.ext hxI
            replace hoF2 := hoF2.ext hxI
            replace hiF2 := hiF2.ext hxI
            replace hoO2 := hoO2.ext hxI
            have ha := ha.add (show act_.tmps.getD 192 undef = .bool (decide ((0 : Int) < (ws2.length : Int))) from hp 2 (by kernel_rfl) (by decide))
            exact h_evA (v := .bool (decide ((0 : Int) < (ws2.length : Int)))) ha rfl (e_move rfl) rfl rfl (Ext.rfl' _)
          · intro Q act_ wI hxI ha hp
            have xw_wI : Ext w wI := Ext.tr xw_w35 hxI
            have xw35_wI : Ext w35 wI := Ext.tr (Ext.rfl' w35) hxI
            replace hbw := hbw.ext hxI
            replace hop := hop.ext hxI
            replace hoL1 := hoL1.ext hxI
            replace hoO1 := hoO1.ext hxI
            replace hoF2 := hoF2.ext hxI
            replace hiF2 := hiF2.ext hxI
            replace hoO2 := hoO2.ext hxI
            have ha := ha.add (show act_.tmps.getD 193 undef = .bool (decide ((0 : Int) < (ws2.length : Int))) from hp 3 (by kernel_rfl) (by decide))
            exact h_gevA (v := .pointer (some ⟨bw, 0, none⟩)) ha rfl rfl rfl (decide_eq_true (by omega)) (e_move rfl) rfl rfl (Ext.rfl' _)
          · intro Q act_ wI hxI ha hp
            have xw_wI : Ext w wI := Ext.tr xw_w35 hxI
            have xw35_wI : Ext w35 wI := Ext.tr (Ext.rfl' w35) hxI
            replace hbw := hbw.ext hxI
            replace hop := hop.ext hxI
            replace hoL1 := hoL1.ext hxI
            replace hoO1 := hoO1.ext hxI
            replace hoF2 := hoF2.ext hxI
            replace hiF2 := hiF2.ext hxI
            replace hoO2 := hoO2.ext hxI
            have ha := ha.add (show act_.tmps.getD 193 undef = .bool (decide ((0 : Int) < (ws2.length : Int))) from hp 3 (by kernel_rfl) (by decide))
            have ha := ha.add (show act_.tmps.getD 194 undef = .pointer (some ⟨bw, 0, none⟩) from hp 4 (by kernel_rfl) (by decide))
            exact h_gcallA ha ent40 rfl rfl rfl (decide_eq_true (by omega)) rfl rfl (base_c w _ _ _ _ _ wI ge_bw xw_wI hbw hop hwf2) rfl (by rintro _ w1 ⟨rfl, hR⟩; exact ⟨rfl, hR⟩)
          · intro Q act_ wI hxI ha hp
            have xw_wI : Ext w wI := Ext.tr xw_w35 hxI
            have xw35_wI : Ext w35 wI := Ext.tr (Ext.rfl' w35) hxI
            replace hbw := hbw.ext hxI
            replace hop := hop.ext hxI
            replace hoL1 := hoL1.ext hxI
            replace hoO1 := hoO1.ext hxI
            replace hoF2 := hoF2.ext hxI
            replace hiF2 := hiF2.ext hxI
            replace hoO2 := hoO2.ext hxI
            have ha := ha.add (show act_.tmps.getD 193 undef = .bool (decide ((0 : Int) < (ws2.length : Int))) from hp 3 (by kernel_rfl) (by decide))
            exact h_gevA (v := .slice AF ws2.length cF) ha rfl rfl rfl (decide_eq_true (by omega)) (e_move rfl) rfl rfl (Ext.rfl' _)
          · intro Q act_ wI hxI ha hp
            have xw_wI : Ext w wI := Ext.tr xw_w35 hxI
            have xw35_wI : Ext w35 wI := Ext.tr (Ext.rfl' w35) hxI
            replace hbw := hbw.ext hxI
            replace hop := hop.ext hxI
            replace hoL1 := hoL1.ext hxI
            replace hoO1 := hoO1.ext hxI
            replace hoF2 := hoF2.ext hxI
            replace hiF2 := hiF2.ext hxI
            replace hoO2 := hoO2.ext hxI
            have ha := ha.add (show act_.tmps.getD 193 undef = .bool (decide ((0 : Int) < (ws2.length : Int))) from hp 3 (by kernel_rfl) (by decide))
            exact h_gevA (v := .slice AF ws2.length cF) ha rfl rfl rfl (decide_eq_true (by omega)) (e_move rfl) rfl rfl (Ext.rfl' _)
          · intro Q act_ wI hxI ha hp
            have xw_wI : Ext w wI := Ext.tr xw_w35 hxI
            have xw35_wI : Ext w35 wI := Ext.tr (Ext.rfl' w35) hxI
            replace hbw := hbw.ext hxI
            replace hop := hop.ext hxI
            replace hoL1 := hoL1.ext hxI
            replace hoO1 := hoO1.ext hxI
            replace hoF2 := hoF2.ext hxI
            replace hiF2 := hiF2.ext hxI
            replace hoO2 := hoO2.ext hxI
            have ha := ha.add (show act_.tmps.getD 193 undef = .bool (decide ((0 : Int) < (ws2.length : Int))) from hp 3 (by kernel_rfl) (by decide))
            have ha := ha.add (show act_.tmps.getD 197 undef = .slice AF ws2.length cF from hp 7 (by kernel_rfl) (by decide))
            exact h_gevA (v := .int .i64 (ws2.length : Int)) ha rfl rfl rfl (decide_eq_true (by omega)) (e_lenOwn Try.underlying24 rfl hoF2 (fun _ => rfl)) rfl rfl (Ext.rfl' _)
          · intro Q act_ wI hxI ha hp
            have xw_wI : Ext w wI := Ext.tr xw_w35 hxI
            have xw35_wI : Ext w35 wI := Ext.tr (Ext.rfl' w35) hxI
            replace hbw := hbw.ext hxI
            replace hop := hop.ext hxI
            replace hoL1 := hoL1.ext hxI
            replace hoO1 := hoO1.ext hxI
            replace hoF2 := hoF2.ext hxI
            replace hiF2 := hiF2.ext hxI
            replace hoO2 := hoO2.ext hxI
            have ha := ha.add (show act_.tmps.getD 193 undef = .bool (decide ((0 : Int) < (ws2.length : Int))) from hp 3 (by kernel_rfl) (by decide))
            have ha := ha.add (show act_.tmps.getD 198 undef = .int .i64 (ws2.length : Int) from hp 8 (by kernel_rfl) (by decide))
            exact h_gevA (v := .int .i64 ((ws2.length : Int) - 1)) ha rfl rfl rfl (decide_eq_true (by omega)) (e_sub rfl rfl (by omega)) rfl rfl (Ext.rfl' _)
          · intro Q act_ wI hxI ha hp
            have xw_wI : Ext w wI := Ext.tr xw_w35 hxI
            have xw35_wI : Ext w35 wI := Ext.tr (Ext.rfl' w35) hxI
            replace hbw := hbw.ext hxI
            replace hop := hop.ext hxI
            replace hoL1 := hoL1.ext hxI
            replace hoO1 := hoO1.ext hxI
            replace hoF2 := hoF2.ext hxI
            replace hiF2 := hiF2.ext hxI
            replace hoO2 := hoO2.ext hxI
            have ha := ha.add (show act_.tmps.getD 193 undef = .bool (decide ((0 : Int) < (ws2.length : Int))) from hp 3 (by kernel_rfl) (by decide))
            have ha := ha.add (show act_.tmps.getD 196 undef = .slice AF ws2.length cF from hp 6 (by kernel_rfl) (by decide))
            have ha := ha.add (show act_.tmps.getD 199 undef = .int .i64 ((ws2.length : Int) - 1) from hp 9 (by kernel_rfl) (by decide))
            exact h_gevA (v := .pointer (some (el (ownA (.slice AF ws2.length cF)) 4 ((ws2.length : Int) - 1) 0))) ha rfl rfl rfl (decide_eq_true (by omega)) (e_idxOwn (x0 := xl) Try.underlying24 Try.sizeOf49 rfl rfl hoF2 (fun _ => rfl) hxl (by omega)) rfl rfl (Ext.rfl' _)
          · intro Q act_ wI hxI ha hp
            have xw_wI : Ext w wI := Ext.tr xw_w35 hxI
            have xw35_wI : Ext w35 wI := Ext.tr (Ext.rfl' w35) hxI
            replace hbw := hbw.ext hxI
            replace hop := hop.ext hxI
            replace hoL1 := hoL1.ext hxI
            replace hoO1 := hoO1.ext hxI
            replace hoF2 := hoF2.ext hxI
            replace hiF2 := hiF2.ext hxI
            replace hoO2 := hoO2.ext hxI
            have ha := ha.add (show act_.tmps.getD 193 undef = .bool (decide ((0 : Int) < (ws2.length : Int))) from hp 3 (by kernel_rfl) (by decide))
            have ha := ha.add (show act_.tmps.getD 200 undef = .pointer (some (el (ownA (.slice AF ws2.length cF)) 4 ((ws2.length : Int) - 1) 0)) from hp 10 (by kernel_rfl) (by decide))
            exact h_gevA (v := .pointer (some (el (ownA (.slice AF ws2.length cF)) 4 ((ws2.length : Int) - 1) 0))) ha rfl rfl rfl (decide_eq_true (by omega)) (e_fieldEl (fsz := 1) Try.underlying49 rfl Try.sizeOf3 (by decide) rfl rfl) rfl rfl (Ext.rfl' _)
          · intro Q act_ wI hxI ha hp
            have xw_wI : Ext w wI := Ext.tr xw_w35 hxI
            have xw35_wI : Ext w35 wI := Ext.tr (Ext.rfl' w35) hxI
            replace hbw := hbw.ext hxI
            replace hop := hop.ext hxI
            replace hoL1 := hoL1.ext hxI
            replace hoO1 := hoO1.ext hxI
            replace hoF2 := hoF2.ext hxI
            replace hiF2 := hiF2.ext hxI
            replace hoO2 := hoO2.ext hxI
            have ha := ha.add (show act_.tmps.getD 193 undef = .bool (decide ((0 : Int) < (ws2.length : Int))) from hp 3 (by kernel_rfl) (by decide))
            have ha := ha.add (show act_.tmps.getD 201 undef = .pointer (some (el (ownA (.slice AF ws2.length cF)) 4 ((ws2.length : Int) - 1) 0)) from hp 11 (by kernel_rfl) (by decide))
            exact h_gevA (v := .int .i64 xl.p) ha rfl rfl rfl (decide_eq_true (by omega)) (e_ldEl (xs := ws2) (enc := encW) (e := xl) rfl (Go.XK.Own.rd hoF2 (fun _ => rfl)) hxl Try.isAgg3 rfl) rfl rfl (Ext.rfl' _)
          · intro Q act_ wI hxI ha hp
            have xw_wI : Ext w wI := Ext.tr xw_w35 hxI
            have xw35_wI : Ext w35 wI := Ext.tr (Ext.rfl' w35) hxI
            replace hbw := hbw.ext hxI
            replace hop := hop.ext hxI
            replace hoL1 := hoL1.ext hxI
            replace hoO1 := hoO1.ext hxI
            replace hoF2 := hoF2.ext hxI
            replace hiF2 := hiF2.ext hxI
            replace hoO2 := hoO2.ext hxI
            have ha := ha.add (show act_.tmps.getD 193 undef = .bool (decide ((0 : Int) < (ws2.length : Int))) from hp 3 (by kernel_rfl) (by decide))
            have ha := ha.add (show act_.tmps.getD 202 undef = .int .i64 xl.p from hp 12 (by kernel_rfl) (by decide))
            exact h_gevA (v := .int .i64 (xl.p + 8)) ha rfl rfl rfl (decide_eq_true (by omega)) (e_add rfl rfl (by omega)) rfl rfl (Ext.rfl' _)
          · intro Q act_ wI hxI ha hp
            have xw_wI : Ext w wI := Ext.tr xw_w35 hxI
            have xw35_wI : Ext w35 wI := Ext.tr (Ext.rfl' w35) hxI
            replace hbw := hbw.ext hxI
            replace hop := hop.ext hxI
            replace hoL1 := hoL1.ext hxI
            replace hoO1 := hoO1.ext hxI
            replace hoF2 := hoF2.ext hxI
            replace hiF2 := hiF2.ext hxI
            replace hoO2 := hoO2.ext hxI
            have ha := ha.add (show act_.tmps.getD 193 undef = .bool (decide ((0 : Int) < (ws2.length : Int))) from hp 3 (by kernel_rfl) (by decide))
            have ha := ha.add (show act_.tmps.getD 195 undef = .int .i64 base' from hp 5 (by kernel_rfl) (by decide))
            have ha := ha.add (show act_.tmps.getD 203 undef = .int .i64 (xl.p + 8) from hp 13 (by kernel_rfl) (by decide))
            exact h_gevA (v := .bool (decide (base' = xl.p + 8))) ha rfl rfl rfl (decide_eq_true (by omega)) (e_eq rfl rfl) rfl rfl (Ext.rfl' _)
          · intro Q act_ wI hxI ha hp
            have xw_wI : Ext w wI := Ext.tr xw_w35 hxI
            have xw35_wI : Ext w35 wI := Ext.tr (Ext.rfl' w35) hxI
            replace hbw := hbw.ext hxI
            replace hop := hop.ext hxI
            replace hoL1 := hoL1.ext hxI
            replace hoO1 := hoO1.ext hxI
            replace hoF2 := hoF2.ext hxI
            replace hiF2 := hiF2.ext hxI
            replace hoO2 := hoO2.ext hxI
            have ha := ha.add (show act_.tmps.getD 193 undef = .bool (decide ((0 : Int) < (ws2.length : Int))) from hp 3 (by kernel_rfl) (by decide))
            have ha := ha.add (show act_.tmps.getD 204 undef = .bool (decide (base' = xl.p + 8)) from hp 14 (by kernel_rfl) (by decide))
            exact h_evA (v := .bool (decide (base' = xl.p + 8))) ha rfl (e_pickT rfl (decide_eq_true (by omega)) rfl) rfl rfl (Ext.rfl' _)
          intro vs_ w42 hx_w42 hvs act_ ha hv
          have xw_w42 : Ext w w42 := Ext.tr xw_w35 hx_w42
          have xw35_w42 : Ext w35 w42 := Ext.tr (Ext.rfl' w35) hx_w42
          replace hbw := hbw.ext hx_w42
          replace hop := hop.ext hx_w42
          replace hoL1 := hoL1.ext hx_w42
          replace hoO1 := hoO1.ext hx_w42
          replace hoF2 := hoF2.ext hx_w42
          replace hiF2 := hiF2.ext hx_w42
          replace hoO2 := hoO2.ext hx_w42
          have ha := ha.add ((hv 15 (by decide)).trans (show vs_ 15 = .bool (decide (base' = xl.p + 8)) from hvs 15 (by decide)))
          refine st_go ha ?_
          clear ha hv hvs
          refine st_ev (v := .bool (decide (base' = xl.p + 8))) rfl (e_assign rfl) ?_
          refine st_nil (nrm_k ?_)
          refine sc_retf rfl (ret1 Try.results9 (rvt rfl) ?_)
          exact ⟨congrArg Value.bool (decide_eq_true (by omega)), xw_w42⟩

end Go.Proofs.Ytfcjianiodiejaa
