/- Chapter 52: C16. Printed by my program wip/tools/wk.py. -/
import Derived.Test.YtfcjianiodiejaaC11
import Derived.Test.YtfcjianiodiejaaMath9
import Derived.Test.YtfcjianiodiejaaXKo
set_option linter.unusedVariables false
set_option linter.unusedSimpArgs false
set_option maxRecDepth 4000
set_option maxHeartbeats 40000000
namespace Go.Proofs.Ytfcjianiodiejaa
open Go.XK Go.RowKit
/-- masterdisc/masterdisclaw52.PacketwriterFinds (function 4) -/
theorem finds_c (start next : UInt8) (sizes : List UInt8) (A : Option Addr) (c : Nat) (ctl : Bool) (w : World) (hsz : SlR w A c 1 encB8 sizes) : CallR Try.prog 4 [.int .u8 start.toNat, .int .u8 next.toNat, .slice A sizes.length c, .bool ctl] w (fun v w' => v = .bool true ∧ Ext w w') := by
  have hmx0 := hsz.lenle
  simp only [maxLen] at hmx0
  refine callR_of (n := 197) [(0, .int .u8 start.toNat), (1, .int .u8 next.toNat), (2, .slice A sizes.length c), (3, .bool ctl)] Try.func4 rfl rfl (Nat.le_of_ble_eq_true rfl) rfl ?_
  refine sc_seq ?_
  refine sc_reg ?_
  refine Go.XK.s (v := .bool false) (e_assign rfl) ?_
  refine sl_nil (nrm_k ?_)
  refine sc_seq ?_
  refine sc_seq ?_
  refine sc_reg ?_
  refine sl_call ent11 rfl rfl (awake_c w) (by decide) ?_
  rintro _ w1 ⟨rfl, hw1⟩
  have xw_w1 : Ext w w1 := Ext.tr (Ext.rfl' w) hw1
  refine Go.XK.s (v := .bool false) (e_not (b := true) rfl) ?_
  refine sl_nil (nrm_k ?_)
  refine sc_no rfl rfl ?_
  refine sc_skip (nrm_k ?_)
  refine sc_seq ?_
  refine sc_seq ?_
  have hsn := start.toNat_lt
  have hnn := next.toNat_lt
  refine sc_reg ?_
  refine Go.XK.s (v := .slice A sizes.length c) (e_move rfl) ?_
  refine Go.XK.s (v := .int .i64 (sizes.length : Int)) (e_len Try.underlying34 rfl) ?_
  refine Go.XK.s (v := .bool (decide ((6 : Int) < (sizes.length : Int)))) (e_gt rfl rfl) ?_
  refine sl_nil (nrm_k ?_)
  refine sc_ifd rfl (fun c31 => ?_) (fun c31 => ?_)
  ·
    refine sc_seq ?_
    refine sc_reg ?_
    refine Go.XK.s (v := .bool true) (e_assign rfl) ?_
    refine sl_nil (nrm_k ?_)
    refine sc_retf rfl (ret1 Try.results4 (rvt rfl) ?_)
    exact ⟨rfl, xw_w1⟩
  ·
    refine sc_skip (nrm_k ?_)
    refine sc_seq ?_
    obtain ⟨hE0, base0, hB0, hW0, hb520⟩ := new_ok (st := (start.toNat : Int)) (nx := (next.toNat : Int)) (by omega) (by omega) (by omega) (by omega)
    have hW0b := hW0.sb
    refine sc_reg ?_
    refine Go.XK.s (v := .int .u8 start.toNat) (e_move rfl) ?_
    refine Go.XK.s (v := .int .i64 (start.toNat : Int)) (e_u8int (c := start) Try.underlying5 Try.underlying3 (by decide) rfl) ?_
    refine Go.XK.s (v := .int .u8 start.toNat) (e_move rfl) ?_
    refine Go.XK.s (v := .int .i64 (start.toNat : Int)) (e_u8int (c := start) Try.underlying5 Try.underlying3 (by decide) rfl) ?_
    refine Go.XK.s (v := .int .u8 next.toNat) (e_move rfl) ?_
    refine Go.XK.s (v := .int .i64 (next.toNat : Int)) (e_u8int (c := next) Try.underlying5 Try.underlying3 (by decide) rfl) ?_
    refine Go.XK.s (v := .int .i64 ((start.toNat : Int) + (next.toNat : Int))) (e_add rfl rfl (by omega)) ?_
    refine sl_call ent23 rfl rfl (new_d (start.toNat : Int) ((start.toNat : Int) + (next.toNat : Int)) w1 (by omega) (by omega) base0 hE0 hB0) (by decide) ?_
    rintro _ w2 ⟨bw, rfl, hbw, hgw, hw2⟩
    have ge_bw : w.heap.size ≤ bw := by have h_ := Below.size xw_w1; omega
    have xw_w2 : Ext w w2 := Ext.tr xw_w1 hw2
    have hop : Go.XK.Own w2 w.heap.size 114 2 encP (.slice none 0 0) [] := Go.XK.Own.nil _ _ _ _ _
    refine Go.XK.s (v := .tuple #[.pointer (some ⟨bw, 0, none⟩), .int .i64 0]) (e_move rfl) ?_
    refine Go.XK.s (v := .pointer (some ⟨bw, 0, none⟩)) (e_extract (vs := [.pointer (some ⟨bw, 0, none⟩), .int .i64 0]) rfl rfl) ?_
    refine Go.XK.s (v := .int .i64 0) (e_extract (vs := [.pointer (some ⟨bw, 0, none⟩), .int .i64 0]) rfl rfl) ?_
    refine Go.XK.s (v := .pointer (some ⟨bw, 0, none⟩)) (e_assign rfl) ?_
    refine Go.XK.s (v := .int .i64 0) (e_assign rfl) ?_
    refine sl_nil (nrm_k ?_)
    refine sc_seq ?_
    refine sc_seq ?_
    refine sc_reg ?_
    refine Go.XK.s (v := .int .i64 0) (e_move rfl) ?_
    refine Go.XK.s (v := .bool (decide ((0 : Int) ≠ 0))) (e_ne rfl rfl) ?_
    refine Go.XK.s (v := .bool (decide ((0 : Int) ≠ 0))) (e_move rfl) ?_
    refine sl_gev (v := .pointer (some ⟨bw, 0, none⟩)) rfl rfl (by decide) (e_move rfl) rfl (by decide) ?_
    refine sl_gev (v := .bool false) rfl rfl (by decide) (e_peqnil (by kernel_rfl) rfl rfl) rfl (by decide) ?_
    refine Go.XK.s (v := .bool false) (e_pickF rfl (by decide) rfl) ?_
    refine sl_nil (nrm_k ?_)
    refine sc_no rfl rfl ?_
    refine sc_skip (nrm_k ?_)
    refine sc_seq ?_
    refine sc_reg ?_
    refine Go.XK.s (v := .slice none 0 0) (e_assign rfl) ?_
    refine sl_nil (nrm_k ?_)
    refine sc_seq ?_
    refine sc_reg ?_
    refine Go.XK.s (v := .slice none 0 0) (e_assign rfl) ?_
    refine sl_nil (nrm_k ?_)
    refine sc_seq ?_
    refine sc_reg ?_
    refine Go.XK.s (v := .slice none 0 0) (e_assign rfl) ?_
    refine sl_nil (nrm_k ?_)
    refine sc_seq ?_
    refine sc_seq ?_
    refine sc_reg ?_
    refine Go.XK.s (v := .int .i64 0) (e_move rfl) ?_
    refine sl_nil (nrm_k ?_)
    refine sc_block ?_
    refine sc_loop (fun m_ l_ w_ => ∃ (r : Nat) (im : Img) (Ai : Option Addr) (ci : Nat) (at_ : List Int) (vat : Value) (bl : List (List UInt8)) (vbl : Value) (base : Int) (lv : Value), m_ = 2 - r ∧ l_ = [(49, .int .i64 (r : Int)), (11, .slice Ai im.length ci), (12, vat), (13, vbl), (0, .int .u8 start.toNat), (1, .int .u8 next.toNat), (2, .slice A sizes.length c), (3, .bool ctl), (9, .pointer (some ⟨bw, 0, none⟩))] ∧ Ext w w_ ∧ Blk w_ bw 109 [.int .i64 (start.toNat : Int), .int .i64 base, lv] ∧ Go.XK.Own w_ w.heap.size 114 2 encP lv [] ∧ Go.XK.Own w_ w.heap.size 9 1 encS (.slice Ai im.length ci) im ∧ Go.XK.Own w_ w.heap.size 3 1 encI vat at_ ∧ Go.XK.Own w_ w.heap.size 9 1 encS vbl bl ∧ Dj (.slice Ai im.length ci) vbl ∧ FI (start.toNat : Int) base im at_ bl ∧ Wf (start.toNat : Int) base [] ∧ base ≤ 520 + 116 * (r : Int) ∧ r ≤ 2 ∧ at_.length ≤ 54 * r) _ [(49, .int .i64 (0 : Int)), (11, .slice none [].length 0), (12, (.slice none 0 0)), (13, (.slice none 0 0)), (0, .int .u8 start.toNat), (1, .int .u8 next.toNat), (2, .slice A sizes.length c), (3, .bool ctl), (9, .pointer (some ⟨bw, 0, none⟩))] ⟨0, [], none, 0, [], .slice none 0 0, [], .slice none 0 0, base0, .slice none 0 0, rfl, rfl, xw_w2, hbw, hop, (Go.XK.Own.nil _ _ _ _ _), (Go.XK.Own.nil _ _ _ _ _), (Go.XK.Own.nil _ _ _ _ _), (Dj.nilL _), ⟨FI.nil _ (by omega), hW0, by omega, by omega, by simp⟩⟩ (.cons rfl (.cons rfl (.cons rfl (.cons rfl (.cons rfl (.cons rfl (.cons rfl (.cons rfl (.cons rfl (.nil)))))))))) ?_
    rintro j4 _ w3 ⟨r, im, Ai, ci, at_, vat, bl, vbl, base, lv, rfl, rfl, xw_w3, hbw, hop, hoim, hoat, hobl, dj_hoim_hobl, ⟨hFI, hwf, hbb, hr2, hatl⟩⟩
    refine sc_seq ?_
    refine sc_reg ?_
    refine Go.XK.s (v := .bool (decide ((r : Int) < 2))) (e_lt rfl rfl) ?_
    refine sl_nil (nrm_k ?_)
    refine sc_seq ?_
    refine sc_ifd rfl (fun c50 => ?_) (fun c50 => ?_)
    ·
      refine sc_skip (nrm_k ?_)
      refine sc_seq ?_
      refine sc_block ?_
      refine sc_seq ?_
      refine sc_reg ?_
      refine Go.XK.s (v := .int .i64 (r : Int)) (e_move rfl) ?_
      refine Go.XK.s (v := .int .i64 (r : Int)) (e_assign rfl) ?_
      refine sl_nil (nrm_k ?_)
      refine sc_seq ?_
      refine sc_seq ?_
      refine sc_reg ?_
      refine Go.XK.s (v := .slice A sizes.length c) (e_move rfl) ?_
      refine Go.XK.s (v := .int .i64 (sizes.length : Int)) (e_len Try.underlying34 rfl) ?_
      refine Go.XK.s (v := .int .i64 0) (e_move rfl) ?_
      refine sl_nil (nrm_k ?_)
      refine sc_block ?_
      refine sc_loop (fun m_ l_ w_ => ∃ (i : Nat) (ps : List Pn) (lv2 : Value) (at2 : List Int) (va2 : Value) (bl2 : List (List UInt8)) (vb2 : Value), m_ = sizes.length - i ∧ l_ = [(54, .int .i64 (i : Int)), (12, va2), (13, vb2), (0, .int .u8 start.toNat), (1, .int .u8 next.toNat), (2, .slice A sizes.length c), (3, .bool ctl), (9, .pointer (some ⟨bw, 0, none⟩)), (11, .slice Ai im.length ci), (14, .int .i64 (r : Int)), (49, .int .i64 (r : Int)), (52, .slice A sizes.length c), (53, .int .i64 (sizes.length : Int))] ∧ Ext w w_ ∧ Blk w_ bw 109 [.int .i64 (start.toNat : Int), .int .i64 base, lv2] ∧ Go.XK.Own w_ w.heap.size 114 2 encP lv2 ps ∧ Go.XK.Own w_ w.heap.size 9 1 encS (.slice Ai im.length ci) im ∧ Go.XK.Own w_ w.heap.size 3 1 encI va2 at2 ∧ Go.XK.Own w_ w.heap.size 9 1 encS vb2 bl2 ∧ Dj (.slice Ai im.length ci) vb2 ∧ Ap (start.toNat : Int) base ps ∧ ps.length ≤ 9 * i ∧ i ≤ sizes.length ∧ at2 = at_ ++ ps.map (·.p) ∧ bl2 = bl ++ ps.map (·.b)) _ [(54, .int .i64 (0 : Int)), (12, vat), (13, vbl), (0, .int .u8 start.toNat), (1, .int .u8 next.toNat), (2, .slice A sizes.length c), (3, .bool ctl), (9, .pointer (some ⟨bw, 0, none⟩)), (11, .slice Ai im.length ci), (14, .int .i64 (r : Int)), (49, .int .i64 (r : Int)), (52, .slice A sizes.length c), (53, .int .i64 (sizes.length : Int))] ⟨0, [], lv, at_, vat, bl, vbl, rfl, rfl, xw_w3, hbw, hop, hoim, hoat, hobl, dj_hoim_hobl, ⟨Ap.nil hwf, by simp, by omega, by simp, by simp⟩⟩ (.cons rfl (.cons rfl (.cons rfl (.cons rfl (.cons rfl (.cons rfl (.cons rfl (.cons rfl (.cons rfl (.cons rfl (.cons rfl (.cons rfl (.cons rfl (.nil)))))))))))))) ?_
      rintro j6 _ w5 ⟨i, ps, lv2, at2, va2, bl2, vb2, rfl, rfl, xw_w5, hbw, hop, hoim, hoa2, hob2, dj_hoim_hob2, ⟨hAp, hpl, hi, hat2, hbl2⟩⟩
      have hla2 : at2.length = at_.length + ps.length := by rw [hat2]; simp
      have hlb2 : bl2.length = bl.length + ps.length := by rw [hbl2]; simp
      have hlen2 := hFI.len
      refine sc_seq ?_
      refine sc_reg ?_
      refine Go.XK.s (v := .bool (decide ((i : Int) < (sizes.length : Int)))) (e_lt rfl rfl) ?_
      refine sl_nil (nrm_k ?_)
      refine sc_seq ?_
      refine sc_ifd rfl (fun c55 => ?_) (fun c55 => ?_)
      ·
        obtain ⟨n, hn⟩ : ∃ n, sizes[i]? = some n := ⟨_, List.getElem?_eq_getElem (by omega)⟩
        have hn8 := n.toNat_lt
        refine sc_skip (nrm_k ?_)
        refine sc_seq ?_
        refine sc_block ?_
        refine sc_seq ?_
        refine sc_reg ?_
        refine Go.XK.s (v := .int .i64 (i : Int)) (e_move rfl) ?_
        refine Go.XK.s (v := .pointer (some (el A 1 (i : Int) 0))) (e_idxEl (e := n) Try.underlying34 Try.sizeOf5 rfl rfl (hsz.1.ext xw_w5) hn (by omega) rfl) ?_
        refine Go.XK.s (v := .int .u8 n.toNat) (e_ldEl (xs := sizes) (enc := encB8) (e := n) rfl (hsz.1.ext xw_w5) hn Try.isAgg5 rfl) ?_
        refine Go.XK.s (v := .int .i64 (i : Int)) (e_assign rfl) ?_
        refine Go.XK.s (v := .int .u8 n.toNat) (e_assign rfl) ?_
        refine sl_nil (nrm_k ?_)
        refine sc_seq ?_
        refine sc_reg ?_
        refine Go.XK.s (v := .slice none 0 0) (e_assign rfl) ?_
        refine sl_nil (nrm_k ?_)
        refine sc_seq ?_
        refine sc_seq ?_
        refine sc_reg ?_
        refine Go.XK.s (v := .int .u8 n.toNat) (e_move rfl) ?_
        refine Go.XK.s (v := .int .i64 (n.toNat : Int)) (e_u8int (c := n) Try.underlying5 Try.underlying3 (by decide) rfl) ?_
        refine Go.XK.s (v := .int .i64 ((n.toNat : Int) % 10)) (e_rem rfl rfl (by omega) (by omega)) ?_
        refine Go.XK.s (v := .int .i64 0) (e_move rfl) ?_
        refine sl_nil (nrm_k ?_)
        refine sc_block ?_
        refine sc_loop (fun m_ l_ w_ => ∃ (k : Nat) (lb : List (List UInt8)) (vl : Value), m_ = n.toNat % 10 - k ∧ l_ = [(62, .int .i64 (k : Int)), (17, vl), (0, .int .u8 start.toNat), (1, .int .u8 next.toNat), (2, .slice A sizes.length c), (3, .bool ctl), (9, .pointer (some ⟨bw, 0, none⟩)), (11, .slice Ai im.length ci), (12, va2), (13, vb2), (14, .int .i64 (r : Int)), (15, .int .i64 (i : Int)), (49, .int .i64 (r : Int)), (52, .slice A sizes.length c), (53, .int .i64 (sizes.length : Int)), (54, .int .i64 (i : Int)), (61, .int .i64 ((n.toNat : Int) % 10))] ∧ Ext w w_ ∧ Blk w_ bw 109 [.int .i64 (start.toNat : Int), .int .i64 base, lv2] ∧ Go.XK.Own w_ w.heap.size 114 2 encP lv2 ps ∧ Go.XK.Own w_ w.heap.size 9 1 encS (.slice Ai im.length ci) im ∧ Go.XK.Own w_ w.heap.size 3 1 encI va2 at2 ∧ Go.XK.Own w_ w.heap.size 9 1 encS vb2 bl2 ∧ Go.XK.Own w_ w.heap.size 9 1 encS vl lb ∧ Dj (.slice Ai im.length ci) vb2 ∧ Dj (.slice Ai im.length ci) vl ∧ Dj vb2 vl ∧ lb.length = k ∧ (∀ b ∈ lb, b.length = 2048) ∧ k ≤ n.toNat % 10) _ [(62, .int .i64 (0 : Int)), (17, (.slice none 0 0)), (0, .int .u8 start.toNat), (1, .int .u8 next.toNat), (2, .slice A sizes.length c), (3, .bool ctl), (9, .pointer (some ⟨bw, 0, none⟩)), (11, .slice Ai im.length ci), (12, va2), (13, vb2), (14, .int .i64 (r : Int)), (15, .int .i64 (i : Int)), (49, .int .i64 (r : Int)), (52, .slice A sizes.length c), (53, .int .i64 (sizes.length : Int)), (54, .int .i64 (i : Int)), (61, .int .i64 ((n.toNat : Int) % 10))] ⟨0, [], .slice none 0 0, rfl, rfl, xw_w5, hbw, hop, hoim, hoa2, hob2, (Go.XK.Own.nil _ _ _ _ _), dj_hoim_hob2, (Dj.nilR _), (Dj.nilR _), ⟨rfl, (fun b hb => by cases hb), by omega⟩⟩ (.cons rfl (.cons rfl (.cons rfl (.cons rfl (.cons rfl (.cons rfl (.cons rfl (.cons rfl (.cons rfl (.cons rfl (.cons rfl (.cons rfl (.cons rfl (.cons rfl (.cons rfl (.cons rfl (.cons rfl (.nil)))))))))))))))))) ?_
        rintro j8 _ w7 ⟨k, lb, vl, rfl, rfl, xw_w7, hbw, hop, hoim, hoa2, hob2, hol, dj_hoim_hob2, dj_hoim_hol, dj_hob2_hol, ⟨hlbl, hlb, hk⟩⟩
        refine sc_seq ?_
        refine sc_reg ?_
        refine Go.XK.s (v := .bool (decide ((k : Int) < (n.toNat : Int) % 10))) (e_lt rfl rfl) ?_
        refine sl_nil (nrm_k ?_)
        refine sc_seq ?_
        refine sc_ifd rfl (fun c63 => ?_) (fun c63 => ?_)
        ·
          refine sc_skip (nrm_k ?_)
          refine sc_seq ?_
          refine sc_block ?_
          refine sc_seq ?_
          refine sc_reg ?_
          refine Go.XK.s (v := .int .i64 (k : Int)) (e_move rfl) ?_
          refine Go.XK.s (v := .int .i64 (k : Int)) (e_assign rfl) ?_
          refine sl_nil (nrm_k ?_)
          refine sc_reg ?_
          refine Go.XK.s (v := vl) (e_move rfl) ?_
          refine Go.XK.s (v := .int .i64 (r : Int)) (e_move rfl) ?_
          refine Go.XK.s (v := .int .i64 ((7 : Int) * (r : Int))) (e_mul rfl rfl (by omega)) ?_
          refine Go.XK.s (v := .int .i64 (i : Int)) (e_move rfl) ?_
          refine Go.XK.s (v := .int .i64 ((3 : Int) * (i : Int))) (e_mul rfl rfl (by omega)) ?_
          refine Go.XK.s (v := .int .i64 (((7 : Int) * (r : Int)) + ((3 : Int) * (i : Int)))) (e_add rfl rfl (by omega)) ?_
          refine Go.XK.s (v := .int .i64 (k : Int)) (e_move rfl) ?_
          refine Go.XK.s (v := .int .i64 ((((7 : Int) * (r : Int)) + ((3 : Int) * (i : Int))) + (k : Int))) (e_add rfl rfl (by omega)) ?_
          refine Go.XK.s (v := .int .i64 (((((7 : Int) * (r : Int)) + ((3 : Int) * (i : Int))) + (k : Int)) % 26)) (e_rem rfl rfl (by omega) (by omega)) ?_
          refine Go.XK.s (v := .int .i64 ((97 : Int) + (((((7 : Int) * (r : Int)) + ((3 : Int) * (i : Int))) + (k : Int)) % 26))) (e_add rfl rfl (by omega)) ?_
          refine Go.XK.s (v := .int .u8 ((u8of ((97 : Int) + (((((7 : Int) * (r : Int)) + ((3 : Int) * (i : Int))) + (k : Int)) % 26))).toNat)) (e_intu8 Try.underlying3 Try.underlying5 rfl) ?_
          refine sl_call ent24 rfl rfl (block_c (u8of ((97 : Int) + (((((7 : Int) * (r : Int)) + ((3 : Int) * (i : Int))) + (k : Int)) % 26))) w7 (letter_lt (by omega))) (by decide) ?_
          rintro _ w9 ⟨rfl, hw9⟩
          have xw_w9 : Ext w w9 := Ext.tr xw_w7 hw9
          replace hbw := hbw.ext hw9
          replace hop := hop.ext hw9
          replace hoim := hoim.ext hw9
          replace hoa2 := hoa2.ext hw9
          replace hob2 := hob2.ext hw9
          replace hol := hol.ext hw9
          refine s_bslice (vs := [(0, .string (B (blk1 (u8of ((97 : Int) + (((((7 : Int) * (r : Int)) + ((3 : Int) * (i : Int))) + (k : Int)) % 26))))))]) (e := 9) rfl [.string (B (blk1 (u8of ((97 : Int) + (((((7 : Int) * (r : Int)) + ((3 : Int) * (i : Int))) + (k : Int)) % 26)))))] (by kernel_rfl) ?_
          intro b77 w10 hb77 he77 hs77 hx77
          have ne_b77_bw : b77 ≠ bw := by have h_ := hbw.lt; omega
          have no_b77_hop : Value.ownBlock lv2 ≠ some b77 := fun h_ => by have h2_ := (Go.XK.Own.lt hop _ h_).2; omega
          have no_b77_hoim : Value.ownBlock (.slice Ai im.length ci) ≠ some b77 := fun h_ => by have h2_ := (Go.XK.Own.lt hoim _ h_).2; omega
          have no_b77_hoa2 : Value.ownBlock va2 ≠ some b77 := fun h_ => by have h2_ := (Go.XK.Own.lt hoa2 _ h_).2; omega
          have no_b77_hob2 : Value.ownBlock vb2 ≠ some b77 := fun h_ => by have h2_ := (Go.XK.Own.lt hob2 _ h_).2; omega
          have no_b77_hol : Value.ownBlock vl ≠ some b77 := fun h_ => by have h2_ := (Go.XK.Own.lt hol _ h_).2; omega
          have ge_b77 : w.heap.size ≤ b77 := by have h_ := (Below.size xw_w9); omega
          have xw_w10 : Ext w w10 := Ext.tr xw_w9 hx77
          replace hbw := hbw.ext hx77
          replace hop := hop.ext hx77
          replace hoim := hoim.ext hx77
          replace hoa2 := hoa2.ext hx77
          replace hob2 := hob2.ext hx77
          replace hol := hol.ext hx77
          refine s_appendLit2 (w0 := w) (z := .string (B [])) (kk := 1) (bytes := 16) rfl rfl Try.underlying22 (by kernel_rfl) rfl (by decide) (fun _ => rfl) one_encS [blk1 (u8of ((97 : Int) + (((((7 : Int) * (r : Int)) + ((3 : Int) * (i : Int))) + (k : Int)) % 26)))] hol xw_w10 hb77 rfl rfl (by first | omega | (simp only [maxLen]; omega)) (by first | omega | (simp only [maxLen]; omega)) ?_
          intro v78 w11 ho78 xw_w11 hg78 hat78
          replace hbw := hbw.grown hg78 (Own.ne hol hbw (by decide))
          replace hb77 := hb77.grown hg78 no_b77_hol
          replace hop := Go.XK.Own.other hop hol hg78 (by decide)
          have dj_ho78_hoim := Dj.app (Dj.symm dj_hoim_hol) hoim hat78
          replace hoim := Own.dj hoim (Dj.symm dj_hoim_hol) hg78
          replace hoa2 := Go.XK.Own.other hoa2 hol hg78 (by decide)
          have dj_ho78_hob2 := Dj.app (Dj.symm dj_hob2_hol) hob2 hat78
          replace hob2 := Own.dj hob2 (Dj.symm dj_hob2_hol) hg78
          refine Go.XK.s (v := v78) (e_assign rfl) ?_
          refine sl_nil (nrm_k ?_)
          refine sc_reg ?_
          refine Go.XK.s (v := .int .i64 ((k : Int) + 1)) (e_add rfl rfl (by omega)) ?_
          refine Go.XK.s (v := .int .i64 ((k : Int) + 1)) (e_move rfl) ?_
          refine sl_nil ?_
          exact nrm_loopq rfl _ _ (by omega) ⟨k + 1, lb ++ [blk1 (u8of ((97 : Int) + (((((7 : Int) * (r : Int)) + ((3 : Int) * (i : Int))) + (k : Int)) % 26)))], v78, rfl, rfl, xw_w11, hbw, hop, hoim, hoa2, hob2, ho78, dj_hoim_hob2, (Dj.symm dj_ho78_hoim), (Dj.symm dj_ho78_hob2), ⟨by rw [List.length_append, hlbl]; rfl, (fun b hb => by
            rcases List.mem_append.1 hb with hb | hb
            · exact hlb b hb
            · rw [List.mem_singleton.1 hb]; exact blk1_length _), by omega⟩⟩ (.cons rfl (.cons rfl (.cons rfl (.cons rfl (.cons rfl (.cons rfl (.cons rfl (.cons rfl (.cons rfl (.cons rfl (.cons rfl (.cons rfl (.cons rfl (.cons rfl (.cons rfl (.cons rfl (.cons rfl (.nil))))))))))))))))))
        ·
          refine sc_exit rfl (nrm_k ?_)
          refine sc_seq ?_
          obtain ⟨AQ, cQ, eQ_, hlcQ, hcmQ, _⟩ := Go.XK.Own.shape hol (fun _ => rfl)
          subst eQ_
          obtain ⟨la, hap, hlal, hAp2⟩ := ap_append (bs := lb) hAp hlb (by omega)
          refine sc_reg ?_
          refine Go.XK.s (v := .pointer (some ⟨bw, 0, none⟩)) (e_move rfl) ?_
          refine Go.XK.s (v := .slice AQ lb.length cQ) (e_move rfl) ?_
          refine sl_call ent25 rfl rfl (append_d w _ _ _ _ _ _ _ _ w7 ge_bw xw_w7 hbw hop hAp.wf (Go.XK.Own.slr hol (fun _ => rfl)) (Go.XK.Own.apart hol hbw hop (by decide) (by decide)) (by omega) hap) (by decide) ?_
          rintro _ w12 ⟨vL1, lv1, rfl, hoL1, hbwN, hopN, hfrN, hw12⟩
          have dj_hoL1_hoa2 := Dj.new hoL1 hoa2
          replace hoL1 := Own.low hoL1 (Below.size xw_w7)
          replace hoim := Go.XK.Own.fr2 hoim hfrN hbw hop (by decide) (by decide)
          replace hoa2 := Go.XK.Own.fr2 hoa2 hfrN hbw hop (by decide) (by decide)
          replace hob2 := Go.XK.Own.fr2 hob2 hfrN hbw hop (by decide) (by decide)
          replace hol := Go.XK.Own.fr2 hol hfrN hbw hop (by decide) (by decide)
          clear hbw hop
          have hbw := hbwN
          have hop := hopN
          clear hbwN hopN
          have xw_w12 := hw12
          obtain ⟨AL1, cL1, eL1_, hlcL1, hcmL1, _⟩ := Go.XK.Own.shape hoL1 (fun _ => rfl)
          subst eL1_
          refine Go.XK.s (v := .tuple #[.slice AL1 la.length cL1, .int .i64 0]) (e_move rfl) ?_
          refine Go.XK.s (v := .slice AL1 la.length cL1) (e_extract (vs := [.slice AL1 la.length cL1, .int .i64 0]) rfl rfl) ?_
          refine Go.XK.s (v := .int .i64 0) (e_extract (vs := [.slice AL1 la.length cL1, .int .i64 0]) rfl rfl) ?_
          refine Go.XK.s (v := .slice AL1 la.length cL1) (e_assign rfl) ?_
          refine Go.XK.s (v := .int .i64 0) (e_assign rfl) ?_
          refine sl_nil (nrm_k ?_)
          refine sc_seq ?_
          refine sc_seq ?_
          refine sc_reg ?_
          refine Go.XK.s (v := .int .i64 0) (e_move rfl) ?_
          refine Go.XK.s (v := .bool (decide ((0 : Int) ≠ 0))) (e_ne rfl rfl) ?_
          refine Go.XK.s (v := .bool (decide ((0 : Int) ≠ 0))) (e_move rfl) ?_
          refine sl_gev (v := .slice AL1 la.length cL1) rfl rfl (by decide) (e_move rfl) rfl (by decide) ?_
          refine sl_gev (v := .int .i64 (la.length : Int)) rfl rfl (by decide) (e_lenOwn Try.underlying38 rfl hoL1 (fun _ => rfl)) rfl (by decide) ?_
          refine sl_gev (v := .slice AQ lb.length cQ) rfl rfl (by decide) (e_move rfl) rfl (by decide) ?_
          refine sl_gev (v := .int .i64 (lb.length : Int)) rfl rfl (by decide) (e_lenOwn Try.underlying22 rfl hol (fun _ => rfl)) rfl (by decide) ?_
          refine sl_gev (v := .bool (decide ((la.length : Int) ≠ (lb.length : Int)))) rfl rfl (by decide) (e_ne rfl rfl) rfl (by decide) ?_
          refine Go.XK.s (v := .bool (decide ((la.length : Int) ≠ (lb.length : Int)))) (e_pickF rfl (by decide) rfl) ?_
          refine sl_nil (nrm_k ?_)
          refine sc_no rfl (by exact decide_eq_false (by omega)) ?_
          refine sc_skip (nrm_k ?_)
          refine sc_reg ?_
          refine Go.XK.s (v := va2) (e_move rfl) ?_
          refine Go.XK.s (v := .slice AL1 la.length cL1) (e_move rfl) ?_
          refine s_appendRd (w0 := w) (z := .int .i64 0) (kk := 1) (bytes := 8) rfl (by rw [show .slice AL1 la.length cL1 = _ from Go.XK.Own.val hoL1]; rfl) Try.underlying38 (by kernel_rfl) rfl (by decide) (fun _ => rfl) one_encI la hoa2 xw_w12 (Go.XK.Own.slr hoL1 (fun _ => rfl)) rfl (by first | (simp only [maxLen]; omega) | omega) (by first | (simp only [maxLen]; omega) | omega) ?_
          intro v97 w13 ho97 xw_w13 hg97 hat97
          replace hbw := hbw.grown hg97 (Own.ne hoa2 hbw (by decide))
          replace hop := Go.XK.Own.other hop hoa2 hg97 (by decide)
          replace hoim := Go.XK.Own.other hoim hoa2 hg97 (by decide)
          replace hob2 := Go.XK.Own.other hob2 hoa2 hg97 (by decide)
          replace hol := Go.XK.Own.other hol hoa2 hg97 (by decide)
          have dj_ho97_hoL1 := Dj.app (Dj.symm dj_hoL1_hoa2) hoL1 hat97
          replace hoL1 := Own.dj hoL1 (Dj.symm dj_hoL1_hoa2) hg97
          refine Go.XK.s (v := vb2) (e_move rfl) ?_
          refine Go.XK.s (v := .slice AQ lb.length cQ) (e_move rfl) ?_
          refine s_appendRd (w0 := w) (z := .string (B [])) (kk := 1) (bytes := 16) rfl (by rw [show .slice AQ lb.length cQ = _ from Go.XK.Own.val hol]; rfl) Try.underlying22 (by kernel_rfl) rfl (by decide) (fun _ => rfl) one_encS lb hob2 xw_w13 (Go.XK.Own.slr hol (fun _ => rfl)) rfl (by first | (simp only [maxLen]; omega) | omega) (by first | (simp only [maxLen]; omega) | omega) ?_
          intro v100 w14 ho100 xw_w14 hg100 hat100
          replace hbw := hbw.grown hg100 (Own.ne hob2 hbw (by decide))
          replace hop := Go.XK.Own.other hop hob2 hg100 (by decide)
          have dj_ho100_hoim := Dj.app (Dj.symm dj_hoim_hob2) hoim hat100
          replace hoim := Own.dj hoim (Dj.symm dj_hoim_hob2) hg100
          have dj_ho100_hol := Dj.app dj_hob2_hol hol hat100
          replace hol := Own.dj hol dj_hob2_hol hg100
          replace hoL1 := Go.XK.Own.other hoL1 hob2 hg100 (by decide)
          replace ho97 := Go.XK.Own.other ho97 hob2 hg100 (by decide)
          refine Go.XK.s (v := v97) (e_assign rfl) ?_
          refine Go.XK.s (v := v100) (e_assign rfl) ?_
          refine sl_nil (nrm_k ?_)
          refine sc_reg ?_
          refine Go.XK.s (v := .int .i64 ((i : Int) + 1)) (e_add rfl rfl (by omega)) ?_
          refine Go.XK.s (v := .int .i64 ((i : Int) + 1)) (e_move rfl) ?_
          refine sl_nil ?_
          exact nrm_loopq rfl _ _ (by omega) ⟨i + 1, ps ++ appP la lb, lv1, at2 ++ la, v97, bl2 ++ lb, v100, rfl, rfl, xw_w14, hbw, hop, hoim, ho97, ho100, (Dj.symm dj_ho100_hoim), ⟨hAp2, by rw [List.length_append, appP_length hlal]; omega, by omega, by rw [hat2, List.map_append, appP_p hlal, List.append_assoc], by rw [hbl2, List.map_append, appP_b hlal, List.append_assoc]⟩⟩ (.cons rfl (.cons rfl (.cons rfl (.cons rfl (.cons rfl (.cons rfl (.cons rfl (.cons rfl (.cons rfl (.cons rfl (.cons rfl (.cons rfl (.cons rfl (.nil))))))))))))))
      ·
        refine sc_exit rfl (nrm_k ?_)
        refine sc_seq ?_
        have hps54 : ps.length ≤ 54 := by omega
        refine sc_reg ?_
        refine Go.XK.s (v := .pointer (some ⟨bw, 0, none⟩)) (e_move rfl) ?_
        refine sl_call ent26 rfl rfl (control_c w _ _ _ _ _ w5 ge_bw xw_w5 hbw hop hAp.wf) (by decide) ?_
        rintro _ w15 ⟨rfl, hw15⟩
        have xw_w15 : Ext w w15 := Ext.tr xw_w5 hw15
        replace hbw := hbw.ext hw15
        replace hop := hop.ext hw15
        replace hoim := hoim.ext hw15
        replace hoa2 := hoa2.ext hw15
        replace hob2 := hob2.ext hw15
        refine Go.XK.s (v := .int .i64 (ctlP (start.toNat : Int) base ps)) (e_assign rfl) ?_
        refine Go.XK.s (v := .string (B [])) (e_assign rfl) ?_
        refine sl_nil (nrm_k ?_)
        refine sc_seq ?_
        refine sc_seq ?_
        refine sc_reg ?_
        refine Go.XK.s (v := .bool ctl) (e_move rfl) ?_
        refine sl_nil (nrm_k ?_)
        refine sc_if rfl (fun c104 => ?_) (fun c104 => ?_)
        ·
          refine sc_reg ?_
          refine sl_call ent24 rfl rfl (block_c 33 w15 (by decide)) (by decide) ?_
          rintro _ w16 ⟨rfl, hw16⟩
          have xw_w16 : Ext w w16 := Ext.tr xw_w15 hw16
          replace hbw := hbw.ext hw16
          replace hop := hop.ext hw16
          replace hoim := hoim.ext hw16
          replace hoa2 := hoa2.ext hw16
          replace hob2 := hob2.ext hw16
          refine Go.XK.s (v := .string (B (blk1 33))) (e_assign rfl) ?_
          refine sl_nil (nrm_k ?_)
          refine sc_seq ?_
          obtain ⟨L, K, base', hfl, hble, hwf2, hFI2, hrc, hctl⟩ := round_ok (c := blk1 33) hFI hAp (.inr (blk1_length _)) (by omega)
          refine sc_reg ?_
          refine Go.XK.s (v := .pointer (some ⟨bw, 0, none⟩)) (e_move rfl) ?_
          refine Go.XK.s (v := .string (B (blk1 33))) (e_move rfl) ?_
          refine sl_call ent27 rfl rfl (flush_d w _ _ _ _ _ _ w16 ge_bw xw_w16 hbw hop hAp.wf hfl) (by decide) ?_
          rintro _ w17 ⟨vF1, lvF1, ws1, rfl, hoF1, hiF1, hcs1, hbwN, hopN, hfrN, hw17⟩
          replace hoF1 := Own.low hoF1 (Below.size xw_w16)
          replace hoim := Go.XK.Own.fr2 hoim hfrN hbw hop (by decide) (by decide)
          replace hoa2 := Go.XK.Own.fr2 hoa2 hfrN hbw hop (by decide) (by decide)
          replace hob2 := Go.XK.Own.fr2 hob2 hfrN hbw hop (by decide) (by decide)
          clear hbw hop
          have hbw := hbwN
          have hop := hopN
          clear hbwN hopN
          have xw_w17 := hw17
          obtain ⟨hon, hrec, hst4⟩ := hrc _ hcs1
          obtain ⟨AF, cF, eF_, hlcF, hcmF, _⟩ := Go.XK.Own.shape hoF1 (fun _ => rfl)
          subst eF_
          refine Go.XK.s (v := .tuple #[.slice AF ws1.length cF, .int .i64 0]) (e_move rfl) ?_
          refine Go.XK.s (v := .slice AF ws1.length cF) (e_extract (vs := [.slice AF ws1.length cF, .int .i64 0]) rfl rfl) ?_
          refine Go.XK.s (v := .int .i64 0) (e_extract (vs := [.slice AF ws1.length cF, .int .i64 0]) rfl rfl) ?_
          refine Go.XK.s (v := .slice AF ws1.length cF) (e_assign rfl) ?_
          refine Go.XK.s (v := .int .i64 0) (e_assign rfl) ?_
          refine sl_nil (nrm_k ?_)
          refine sc_seq ?_
          refine sc_seq ?_
          refine sc_reg ?_
          refine Go.XK.s (v := .int .i64 0) (e_move rfl) ?_
          refine Go.XK.s (v := .bool (decide ((0 : Int) ≠ 0))) (e_ne rfl rfl) ?_
          refine Go.XK.s (v := .bool (decide ((0 : Int) ≠ 0))) (e_move rfl) ?_
          refine sl_gev (v := .slice Ai im.length ci) rfl rfl (by decide) (e_move rfl) rfl (by decide) ?_
          refine sl_gev (v := .slice AF ws1.length cF) rfl rfl (by decide) (e_move rfl) rfl (by decide) ?_
          refine sl_gcall rfl rfl (by decide) ent20 rfl rfl ((callB hon (once_c _ _ _ _ _ _ w17 (Go.XK.Own.slr hoim (fun _ => rfl)) (Go.XK.Own.slr hoF1 (fun _ => rfl)) hiF1))) (by decide) ?_
          rintro _ w18 ⟨rfl, hw18⟩
          have xw_w18 : Ext w w18 := Ext.tr xw_w17 hw18
          replace hbw := hbw.ext hw18
          replace hop := hop.ext hw18
          replace hoim := hoim.ext hw18
          replace hoa2 := hoa2.ext hw18
          replace hob2 := hob2.ext hw18
          replace hoF1 := hoF1.ext hw18
          replace hiF1 := hiF1.ext hw18
          refine sl_gev (v := .bool false) rfl rfl (by decide) (e_not (b := true) rfl) rfl (by decide) ?_
          refine Go.XK.s (v := .bool false) (e_pickF rfl (by decide) rfl) ?_
          refine sl_nil (nrm_k ?_)
          refine sc_no rfl rfl ?_
          refine sc_skip (nrm_k ?_)
          refine sc_seq ?_
          refine sc_reg ?_
          refine Go.XK.s (v := .slice Ai im.length ci) (e_move rfl) ?_
          refine Go.XK.s (v := .slice AF ws1.length cF) (e_move rfl) ?_
          refine sl_call ent14 rfl rfl (record_d _ _ _ _ _ _ w18 (Go.XK.Own.slr hoim (fun _ => rfl)) (Go.XK.Own.slr hoF1 (fun _ => rfl)) hiF1 (by omega) hrec) (by decide) ?_
          rintro _ w19 ⟨vI1, rfl, hoI1, hw19⟩
          have dj_hoI1_hoim := Dj.new hoI1 hoim
          have dj_hoI1_hob2 := Dj.new hoI1 hob2
          replace hoI1 := Own.low hoI1 (Below.size xw_w18)
          have xw_w19 : Ext w w19 := Ext.tr xw_w18 hw19
          replace hbw := hbw.ext hw19
          replace hop := hop.ext hw19
          replace hoim := hoim.ext hw19
          replace hoa2 := hoa2.ext hw19
          replace hob2 := hob2.ext hw19
          replace hoF1 := hoF1.ext hw19
          replace hiF1 := hiF1.ext hw19
          obtain ⟨AI1, cI1, eI1_, hlcI1, hcmI1, _⟩ := Go.XK.Own.shape hoI1 (fun _ => rfl)
          subst eI1_
          refine Go.XK.s (v := .tuple #[.slice AI1 (recI base L im).length cI1, .int .i64 0]) (e_move rfl) ?_
          refine Go.XK.s (v := .slice AI1 (recI base L im).length cI1) (e_extract (vs := [.slice AI1 (recI base L im).length cI1, .int .i64 0]) rfl rfl) ?_
          refine Go.XK.s (v := .int .i64 0) (e_extract (vs := [.slice AI1 (recI base L im).length cI1, .int .i64 0]) rfl rfl) ?_
          refine Go.XK.s (v := .slice AI1 (recI base L im).length cI1) (e_assign rfl) ?_
          refine Go.XK.s (v := .int .i64 0) (e_assign rfl) ?_
          refine sl_nil (nrm_k ?_)
          refine sc_seq ?_
          obtain ⟨hct0, hct1, hct2⟩ := hctl (by intro e_; have h_ := congrArg List.length e_; rw [blk1_length] at h_; cases h_)
          refine sc_reg ?_
          refine Go.XK.s (v := .int .i64 0) (e_move rfl) ?_
          refine Go.XK.s (v := .bool (decide ((0 : Int) ≠ 0))) (e_ne rfl rfl) ?_
          refine Go.XK.s (v := .bool (decide ((0 : Int) ≠ 0))) (e_move rfl) ?_
          refine sl_gev (v := .bool ctl) rfl rfl (by decide) (e_move rfl) rfl (by decide) ?_
          refine sl_gev (v := .bool ctl) rfl rfl (by decide) (e_move rfl) rfl (by decide) ?_
          refine sl_gev (v := .int .i64 (ctlP (start.toNat : Int) base ps)) rfl rfl c104 (e_move rfl) rfl (by decide) ?_
          refine sl_gev (v := .bool (decide (ctlP (start.toNat : Int) base ps < 0))) rfl rfl c104 (e_lt rfl rfl) rfl (by decide) ?_
          refine sl_gev (v := .bool (decide (ctlP (start.toNat : Int) base ps < 0))) rfl rfl c104 (e_move rfl) rfl (by decide) ?_
          refine sl_gev (v := .int .i64 (ctlP (start.toNat : Int) base ps)) rfl rfl (decide_eq_false (by omega)) (e_move rfl) rfl (by decide) ?_
          refine sl_gev (v := .slice AI1 (recI base L im).length cI1) rfl rfl (decide_eq_false (by omega)) (e_move rfl) rfl (by decide) ?_
          refine sl_gev (v := .int .i64 ((recI base L im).length : Int)) rfl rfl (decide_eq_false (by omega)) (e_lenOwn Try.underlying23 rfl hoI1 (fun _ => rfl)) rfl (by decide) ?_
          refine sl_gev (v := .bool (decide (((recI base L im).length : Int) ≤ ctlP (start.toNat : Int) base ps))) rfl rfl (decide_eq_false (by omega)) (e_ge rfl rfl) rfl (by decide) ?_
          refine sl_gev (v := .bool (decide (((recI base L im).length : Int) ≤ ctlP (start.toNat : Int) base ps))) rfl rfl c104 (e_pickF rfl (decide_eq_false (by omega)) rfl) rfl (by decide) ?_
          refine sl_gev (v := .bool (decide (((recI base L im).length : Int) ≤ ctlP (start.toNat : Int) base ps))) rfl rfl c104 (e_move rfl) rfl (by decide) ?_
          refine sl_gev (v := .slice AI1 (recI base L im).length cI1) rfl rfl (decide_eq_false (by omega)) (e_move rfl) rfl (by decide) ?_
          refine sl_gev (v := .int .i64 (ctlP (start.toNat : Int) base ps)) rfl rfl (decide_eq_false (by omega)) (e_move rfl) rfl (by decide) ?_
          refine sl_gev (v := .pointer (some (el (ownA (.slice AI1 (recI base L im).length cI1)) 1 (ctlP (start.toNat : Int) base ps) 0))) rfl rfl (decide_eq_false (by omega)) (e_idxOwn (x0 := blk1 33) Try.underlying23 Try.sizeOf9 rfl rfl hoI1 (fun _ => rfl) hct2 (by omega)) rfl (by decide) ?_
          refine sl_gev (v := .string (B (blk1 33))) rfl rfl (decide_eq_false (by omega)) (e_ldEl (xs := (recI base L im)) (enc := encS) (e := blk1 33) rfl (Go.XK.Own.rd hoI1 (fun _ => rfl)) hct2 Try.isAgg9 rfl) rfl (by decide) ?_
          refine sl_gev (v := .string (B (blk1 33))) rfl rfl (decide_eq_false (by omega)) (e_move rfl) rfl (by decide) ?_
          refine sl_gev (v := .bool (decide (blk1 33 ≠ blk1 33))) rfl rfl (decide_eq_false (by omega)) (e_sne rfl rfl) rfl (by decide) ?_
          refine sl_gev (v := .bool (decide (blk1 33 ≠ blk1 33))) rfl rfl c104 (e_pickF rfl (decide_eq_false (by omega)) rfl) rfl (by decide) ?_
          refine sl_gev (v := .bool (decide (blk1 33 ≠ blk1 33))) rfl rfl (by decide) (e_pickT rfl c104 rfl) rfl (by decide) ?_
          refine Go.XK.s (v := .bool (decide (blk1 33 ≠ blk1 33))) (e_pickF rfl (by decide) rfl) ?_
          refine sl_nil (nrm_k ?_)
          refine sc_no rfl (decide_eq_false (fun h_ => h_ rfl)) ?_
          refine sc_skip (nrm_k ?_)
          refine sc_reg ?_
          refine Go.XK.s (v := .int .i64 ((r : Int) + 1)) (e_add rfl rfl (by omega)) ?_
          refine Go.XK.s (v := .int .i64 ((r : Int) + 1)) (e_move rfl) ?_
          refine sl_nil ?_
          exact nrm_loopq rfl _ _ (by omega) ⟨r + 1, recI base L im, AI1, cI1, _, va2, _, vb2, base', lvF1, rfl, rfl, xw_w19, hbw, hop, hoI1, hoa2, hob2, dj_hoI1_hob2, ⟨hat2 ▸ hbl2 ▸ hFI2, hwf2, by omega, by omega, by omega⟩⟩ (.cons rfl (.cons rfl (.cons rfl (.cons rfl (.cons rfl (.cons rfl (.cons rfl (.cons rfl (.cons rfl (.nil))))))))))
        ·
          refine sc_skip (nrm_k ?_)
          refine sc_seq ?_
          obtain ⟨L, K, base', hfl, hble, hwf2, hFI2, hrc, hctl⟩ := round_ok (c := []) hFI hAp (.inl rfl) (by omega)
          refine sc_reg ?_
          refine Go.XK.s (v := .pointer (some ⟨bw, 0, none⟩)) (e_move rfl) ?_
          refine Go.XK.s (v := .string (B [])) (e_move rfl) ?_
          refine sl_call ent27 rfl rfl (flush_d w _ _ _ _ _ _ w15 ge_bw xw_w15 hbw hop hAp.wf hfl) (by decide) ?_
          rintro _ w20 ⟨vF1, lvF1, ws1, rfl, hoF1, hiF1, hcs1, hbwN, hopN, hfrN, hw20⟩
          replace hoF1 := Own.low hoF1 (Below.size xw_w15)
          replace hoim := Go.XK.Own.fr2 hoim hfrN hbw hop (by decide) (by decide)
          replace hoa2 := Go.XK.Own.fr2 hoa2 hfrN hbw hop (by decide) (by decide)
          replace hob2 := Go.XK.Own.fr2 hob2 hfrN hbw hop (by decide) (by decide)
          clear hbw hop
          have hbw := hbwN
          have hop := hopN
          clear hbwN hopN
          have xw_w20 := hw20
          obtain ⟨hon, hrec, hst4⟩ := hrc _ hcs1
          obtain ⟨AF, cF, eF_, hlcF, hcmF, _⟩ := Go.XK.Own.shape hoF1 (fun _ => rfl)
          subst eF_
          refine Go.XK.s (v := .tuple #[.slice AF ws1.length cF, .int .i64 0]) (e_move rfl) ?_
          refine Go.XK.s (v := .slice AF ws1.length cF) (e_extract (vs := [.slice AF ws1.length cF, .int .i64 0]) rfl rfl) ?_
          refine Go.XK.s (v := .int .i64 0) (e_extract (vs := [.slice AF ws1.length cF, .int .i64 0]) rfl rfl) ?_
          refine Go.XK.s (v := .slice AF ws1.length cF) (e_assign rfl) ?_
          refine Go.XK.s (v := .int .i64 0) (e_assign rfl) ?_
          refine sl_nil (nrm_k ?_)
          refine sc_seq ?_
          refine sc_seq ?_
          refine sc_reg ?_
          refine Go.XK.s (v := .int .i64 0) (e_move rfl) ?_
          refine Go.XK.s (v := .bool (decide ((0 : Int) ≠ 0))) (e_ne rfl rfl) ?_
          refine Go.XK.s (v := .bool (decide ((0 : Int) ≠ 0))) (e_move rfl) ?_
          refine sl_gev (v := .slice Ai im.length ci) rfl rfl (by decide) (e_move rfl) rfl (by decide) ?_
          refine sl_gev (v := .slice AF ws1.length cF) rfl rfl (by decide) (e_move rfl) rfl (by decide) ?_
          refine sl_gcall rfl rfl (by decide) ent20 rfl rfl ((callB hon (once_c _ _ _ _ _ _ w20 (Go.XK.Own.slr hoim (fun _ => rfl)) (Go.XK.Own.slr hoF1 (fun _ => rfl)) hiF1))) (by decide) ?_
          rintro _ w21 ⟨rfl, hw21⟩
          have xw_w21 : Ext w w21 := Ext.tr xw_w20 hw21
          replace hbw := hbw.ext hw21
          replace hop := hop.ext hw21
          replace hoim := hoim.ext hw21
          replace hoa2 := hoa2.ext hw21
          replace hob2 := hob2.ext hw21
          replace hoF1 := hoF1.ext hw21
          replace hiF1 := hiF1.ext hw21
          refine sl_gev (v := .bool false) rfl rfl (by decide) (e_not (b := true) rfl) rfl (by decide) ?_
          refine Go.XK.s (v := .bool false) (e_pickF rfl (by decide) rfl) ?_
          refine sl_nil (nrm_k ?_)
          refine sc_no rfl rfl ?_
          refine sc_skip (nrm_k ?_)
          refine sc_seq ?_
          refine sc_reg ?_
          refine Go.XK.s (v := .slice Ai im.length ci) (e_move rfl) ?_
          refine Go.XK.s (v := .slice AF ws1.length cF) (e_move rfl) ?_
          refine sl_call ent14 rfl rfl (record_d _ _ _ _ _ _ w21 (Go.XK.Own.slr hoim (fun _ => rfl)) (Go.XK.Own.slr hoF1 (fun _ => rfl)) hiF1 (by omega) hrec) (by decide) ?_
          rintro _ w22 ⟨vI1, rfl, hoI1, hw22⟩
          have dj_hoI1_hoim := Dj.new hoI1 hoim
          have dj_hoI1_hob2 := Dj.new hoI1 hob2
          replace hoI1 := Own.low hoI1 (Below.size xw_w21)
          have xw_w22 : Ext w w22 := Ext.tr xw_w21 hw22
          replace hbw := hbw.ext hw22
          replace hop := hop.ext hw22
          replace hoim := hoim.ext hw22
          replace hoa2 := hoa2.ext hw22
          replace hob2 := hob2.ext hw22
          replace hoF1 := hoF1.ext hw22
          replace hiF1 := hiF1.ext hw22
          obtain ⟨AI1, cI1, eI1_, hlcI1, hcmI1, _⟩ := Go.XK.Own.shape hoI1 (fun _ => rfl)
          subst eI1_
          refine Go.XK.s (v := .tuple #[.slice AI1 (recI base L im).length cI1, .int .i64 0]) (e_move rfl) ?_
          refine Go.XK.s (v := .slice AI1 (recI base L im).length cI1) (e_extract (vs := [.slice AI1 (recI base L im).length cI1, .int .i64 0]) rfl rfl) ?_
          refine Go.XK.s (v := .int .i64 0) (e_extract (vs := [.slice AI1 (recI base L im).length cI1, .int .i64 0]) rfl rfl) ?_
          refine Go.XK.s (v := .slice AI1 (recI base L im).length cI1) (e_assign rfl) ?_
          refine Go.XK.s (v := .int .i64 0) (e_assign rfl) ?_
          refine sl_nil (nrm_k ?_)
          refine sc_seq ?_
          refine sc_reg ?_
          refine Go.XK.s (v := .int .i64 0) (e_move rfl) ?_
          refine Go.XK.s (v := .bool (decide ((0 : Int) ≠ 0))) (e_ne rfl rfl) ?_
          refine Go.XK.s (v := .bool (decide ((0 : Int) ≠ 0))) (e_move rfl) ?_
          refine sl_gev (v := .bool ctl) rfl rfl (by decide) (e_move rfl) rfl (by decide) ?_
          refine sl_gev (v := .bool ctl) rfl rfl (by decide) (e_move rfl) rfl (by decide) ?_
          refine sl_gskip rfl rfl c104 (by decide) ?_
          refine sl_gskip rfl rfl c104 (by decide) ?_
          refine sl_gskip rfl rfl c104 (by decide) ?_
          refine sl_gskipU rfl rfl (by decide) ?_
          refine sl_gskipU rfl rfl (by decide) ?_
          refine sl_gskipU rfl rfl (by decide) ?_
          refine sl_gskipU rfl rfl (by decide) ?_
          refine sl_gskip rfl rfl c104 (by decide) ?_
          refine sl_gskip rfl rfl c104 (by decide) ?_
          refine sl_gskipU rfl rfl (by decide) ?_
          refine sl_gskipU rfl rfl (by decide) ?_
          refine sl_gskipU rfl rfl (by decide) ?_
          refine sl_gskipU rfl rfl (by decide) ?_
          refine sl_gskipU rfl rfl (by decide) ?_
          refine sl_gskipU rfl rfl (by decide) ?_
          refine sl_gskip rfl rfl c104 (by decide) ?_
          refine sl_gev (v := .bool false) rfl rfl (by decide) (e_pickF rfl c104 rfl) rfl (by decide) ?_
          refine Go.XK.s (v := .bool false) (e_pickF rfl (by decide) rfl) ?_
          refine sl_nil (nrm_k ?_)
          refine sc_no rfl rfl ?_
          refine sc_skip (nrm_k ?_)
          refine sc_reg ?_
          refine Go.XK.s (v := .int .i64 ((r : Int) + 1)) (e_add rfl rfl (by omega)) ?_
          refine Go.XK.s (v := .int .i64 ((r : Int) + 1)) (e_move rfl) ?_
          refine sl_nil ?_
          exact nrm_loopq rfl _ _ (by omega) ⟨r + 1, recI base L im, AI1, cI1, _, va2, _, vb2, base', lvF1, rfl, rfl, xw_w22, hbw, hop, hoI1, hoa2, hob2, dj_hoI1_hob2, ⟨hat2 ▸ hbl2 ▸ hFI2, hwf2, by omega, by omega, by omega⟩⟩ (.cons rfl (.cons rfl (.cons rfl (.cons rfl (.cons rfl (.cons rfl (.cons rfl (.cons rfl (.cons rfl (.nil))))))))))
    ·
      refine sc_exit rfl (nrm_k ?_)
      refine sc_seq ?_
      refine sc_seq ?_
      refine sc_reg ?_
      refine Go.XK.s (v := vat) (e_move rfl) ?_
      refine Go.XK.s (v := .int .i64 (at_.length : Int)) (e_lenOwn Try.underlying38 rfl hoat (fun _ => rfl)) ?_
      refine Go.XK.s (v := .int .i64 0) (e_move rfl) ?_
      refine sl_nil (nrm_k ?_)
      refine sc_block ?_
      refine sc_loop (fun m_ l_ w_ => ∃ (i : Nat), m_ = at_.length - i ∧ l_ = [(152, .int .i64 (i : Int)), (0, .int .u8 start.toNat), (11, .slice Ai im.length ci), (12, vat), (13, vbl), (150, vat), (151, .int .i64 (at_.length : Int))] ∧ Ext w w_ ∧ Blk w_ bw 109 [.int .i64 (start.toNat : Int), .int .i64 base, lv] ∧ Go.XK.Own w_ w.heap.size 114 2 encP lv [] ∧ Go.XK.Own w_ w.heap.size 9 1 encS (.slice Ai im.length ci) im ∧ Go.XK.Own w_ w.heap.size 3 1 encI vat at_ ∧ Go.XK.Own w_ w.heap.size 9 1 encS vbl bl ∧ Dj (.slice Ai im.length ci) vbl ∧ i ≤ at_.length) _ [(152, .int .i64 (0 : Int)), (0, .int .u8 start.toNat), (11, .slice Ai im.length ci), (12, vat), (13, vbl), (150, vat), (151, .int .i64 (at_.length : Int))] ⟨0, rfl, rfl, xw_w3, hbw, hop, hoim, hoat, hobl, dj_hoim_hobl, (by omega)⟩ (.cons rfl (.cons rfl (.cons rfl (.cons rfl (.cons rfl (.cons rfl (.cons rfl (.nil)))))))) ?_
      rintro j24 _ w23 ⟨i, rfl, rfl, xw_w23, hbw, hop, hoim, hoat, hobl, dj_hoim_hobl, hi⟩
      refine sc_seq ?_
      refine sc_reg ?_
      refine Go.XK.s (v := .bool (decide ((i : Int) < (at_.length : Int)))) (e_lt rfl rfl) ?_
      refine sl_nil (nrm_k ?_)
      refine sc_seq ?_
      refine sc_ifd rfl (fun c153 => ?_) (fun c153 => ?_)
      ·
        obtain ⟨x, hx⟩ : ∃ x, at_[i]? = some x := ⟨_, List.getElem?_eq_getElem (by omega)⟩
        refine sc_skip (nrm_k ?_)
        refine sc_seq ?_
        refine sc_block ?_
        refine sc_seq ?_
        refine sc_reg ?_
        refine Go.XK.s (v := .int .i64 (i : Int)) (e_move rfl) ?_
        refine Go.XK.s (v := .pointer (some (el (ownA vat) 1 (i : Int) 0))) (e_idxOwn (x0 := x) Try.underlying38 Try.sizeOf3 rfl rfl hoat (fun _ => rfl) hx (by omega)) ?_
        refine Go.XK.s (v := .int .i64 x) (e_ldEl (xs := at_) (enc := encI) (e := x) rfl (Go.XK.Own.rd hoat (fun _ => rfl)) hx Try.isAgg3 rfl) ?_
        refine Go.XK.s (v := .int .i64 (i : Int)) (e_assign rfl) ?_
        refine Go.XK.s (v := .int .i64 x) (e_assign rfl) ?_
        refine sl_nil (nrm_k ?_)
        refine sc_seq ?_
        obtain ⟨xp, hxp⟩ := fi_prev hFI hx
        obtain ⟨y, hy, hx0, hxl, hxy, hus⟩ := fi_at hFI hx
        have hbml := hFI.il
        have hxbnd : x ≤ 4096 := by omega
        rcases Classical.em ((0 : Int) < (i : Int)) with g25 | g25
        ·
          refine sc_free [(26, .int .i64 x), (25, .int .i64 (i : Int)), (156, .int .i64 x), (155, .pointer (some (el (ownA vat) 1 (i : Int) 0))), (154, .int .i64 (i : Int)), (153, .bool (decide ((i : Int) < (at_.length : Int)))), (152, .int .i64 (i : Int)), (0, .int .u8 start.toNat), (11, .slice Ai im.length ci), (12, vat), (13, vbl), (150, vat), (151, .int .i64 (at_.length : Int))] [157, 158, 159, 160, 161, 162, 163, 164, 165, 166, 167, 168, 169, 170, 171, 172, 173, 174, 175, 176, 177, 178, 179, 180, 181, 182, 183, 184, 185, 186, 187, 188, 189, 190, 191, 192, 193, 194, 195] [(Is (.int .i64 x)), (Is (.bool (decide (x < 0)))), (Is (.bool (decide (x < 0)))), (Is (.int .i64 x)), (Is (.slice Ai im.length ci)), (Is (.int .i64 (im.length : Int))), (Is (.bool (decide ((im.length : Int) ≤ x)))), (Is (.bool (decide ((im.length : Int) ≤ x)))), (Is (.bool (decide ((im.length : Int) ≤ x)))), (Is (.slice Ai im.length ci)), (Is (.int .i64 x)), (Is (.pointer (some (el (ownA (.slice Ai im.length ci)) 1 x 0)))), (Is (.string (B y))), (Is (vbl)), (Is (.int .i64 (i : Int))), (Is (.pointer (some (el (ownA vbl) 1 (i : Int) 0)))), (Is (.string (B y))), (Is (.bool (decide (y ≠ y)))), (Is (.bool (decide (y ≠ y)))), (Is (.bool (decide (y ≠ y)))), (Is (.int .u8 start.toNat)), (Is (.int .i64 (start.toNat : Int))), (Is (.int .i64 x)), (Is (.bool (usbl (start.toNat : Int) x))), (Is (.bool (!(usbl (start.toNat : Int) x)))), (Is (.bool (!(usbl (start.toNat : Int) x)))), (Is (.bool (!(usbl (start.toNat : Int) x)))), (Is (.int .i64 (i : Int))), (Is (.bool (decide ((0 : Int) < (i : Int))))), (Is (.bool (decide ((0 : Int) < (i : Int))))), (Is (.int .i64 x)), (Is (vat)), (Is (.int .i64 (i : Int))), (Is (.int .i64 ((i : Int) - 1))), (Is (.pointer (some (el (ownA vat) 1 ((i : Int) - 1) 0)))), (Is (.int .i64 xp)), (Is (.bool (decide (x ≤ xp)))), (Is (.bool (decide (x ≤ xp)))), (Is (.bool (decide (x ≤ xp))))] [] (by kernel_rfl) (Sub.refl _) (by kernel_rfl) (by kernel_rfl) (by kernel_rfl) rfl (by kernel_rfl) (ds_ext (Stays.spec (.is _ (.is _ (.is _ (.is _ (.is _ (.is _ (.is _ (.is _ (.is _ (.is _ (.is _ (.is _ (.is _ (.is _ (.is _ (.is _ (.is _ (.is _ (.is _ (.is _ (.is _ (.is _ (.is _ (.is _ (.is _ (.is _ (.is _ (.is _ (.is _ (.is _ (.is _ (.is _ (.is _ (.is _ (.is _ (.is _ (.is _ (.is _ (.is _ (.nil)))))))))))))))))))))))))))))))))))))))))) ⟨?_, ?_, ?_, ?_, ?_, ?_, ?_, ?_, ?_, ?_, ?_, ?_, ?_, ?_, ?_, ?_, ?_, ?_, ?_, ?_, ?_, ?_, ?_, ?_, ?_, ?_, ?_, ?_, ?_, ?_, ?_, ?_, ?_, ?_, ?_, ?_, ?_, ?_, ?_, trivial⟩ ?_
          · intro Q act_ wI hxI ha hp
            have xw_wI : Ext w wI := Ext.tr xw_w23 hxI
            replace hbw := hbw.ext hxI
            replace hop := hop.ext hxI
            replace hoim := hoim.ext hxI
            replace hoat := hoat.ext hxI
            replace hobl := hobl.ext hxI
            exact h_evA (v := .int .i64 x) ha rfl (e_move rfl) rfl rfl (Ext.rfl' _)
          · intro Q act_ wI hxI ha hp
            have xw_wI : Ext w wI := Ext.tr xw_w23 hxI
            replace hbw := hbw.ext hxI
            replace hop := hop.ext hxI
            replace hoim := hoim.ext hxI
            replace hoat := hoat.ext hxI
            replace hobl := hobl.ext hxI
            have ha := ha.add (show act_.tmps.getD 157 undef = .int .i64 x from hp 0 (by kernel_rfl) (by decide))
            exact h_evA (v := .bool (decide (x < 0))) ha rfl (e_lt rfl rfl) rfl rfl (Ext.rfl' _)
          · intro Q act_ wI hxI ha hp
            have xw_wI : Ext w wI := Ext.tr xw_w23 hxI
            replace hbw := hbw.ext hxI
            replace hop := hop.ext hxI
            replace hoim := hoim.ext hxI
            replace hoat := hoat.ext hxI
            replace hobl := hobl.ext hxI
            have ha := ha.add (show act_.tmps.getD 158 undef = .bool (decide (x < 0)) from hp 1 (by kernel_rfl) (by decide))
            exact h_evA (v := .bool (decide (x < 0))) ha rfl (e_move rfl) rfl rfl (Ext.rfl' _)
          · intro Q act_ wI hxI ha hp
            have xw_wI : Ext w wI := Ext.tr xw_w23 hxI
            replace hbw := hbw.ext hxI
            replace hop := hop.ext hxI
            replace hoim := hoim.ext hxI
            replace hoat := hoat.ext hxI
            replace hobl := hobl.ext hxI
            have ha := ha.add (show act_.tmps.getD 159 undef = .bool (decide (x < 0)) from hp 2 (by kernel_rfl) (by decide))
            exact h_gevA (v := .int .i64 x) ha rfl rfl rfl (decide_eq_false (by omega)) (e_move rfl) rfl rfl (Ext.rfl' _)
          · intro Q act_ wI hxI ha hp
            have xw_wI : Ext w wI := Ext.tr xw_w23 hxI
            replace hbw := hbw.ext hxI
            replace hop := hop.ext hxI
            replace hoim := hoim.ext hxI
            replace hoat := hoat.ext hxI
            replace hobl := hobl.ext hxI
            have ha := ha.add (show act_.tmps.getD 159 undef = .bool (decide (x < 0)) from hp 2 (by kernel_rfl) (by decide))
            exact h_gevA (v := .slice Ai im.length ci) ha rfl rfl rfl (decide_eq_false (by omega)) (e_move rfl) rfl rfl (Ext.rfl' _)
          · intro Q act_ wI hxI ha hp
            have xw_wI : Ext w wI := Ext.tr xw_w23 hxI
            replace hbw := hbw.ext hxI
            replace hop := hop.ext hxI
            replace hoim := hoim.ext hxI
            replace hoat := hoat.ext hxI
            replace hobl := hobl.ext hxI
            have ha := ha.add (show act_.tmps.getD 159 undef = .bool (decide (x < 0)) from hp 2 (by kernel_rfl) (by decide))
            have ha := ha.add (show act_.tmps.getD 161 undef = .slice Ai im.length ci from hp 4 (by kernel_rfl) (by decide))
            exact h_gevA (v := .int .i64 (im.length : Int)) ha rfl rfl rfl (decide_eq_false (by omega)) (e_lenOwn Try.underlying23 rfl hoim (fun _ => rfl)) rfl rfl (Ext.rfl' _)
          · intro Q act_ wI hxI ha hp
            have xw_wI : Ext w wI := Ext.tr xw_w23 hxI
            replace hbw := hbw.ext hxI
            replace hop := hop.ext hxI
            replace hoim := hoim.ext hxI
            replace hoat := hoat.ext hxI
            replace hobl := hobl.ext hxI
            have ha := ha.add (show act_.tmps.getD 159 undef = .bool (decide (x < 0)) from hp 2 (by kernel_rfl) (by decide))
            have ha := ha.add (show act_.tmps.getD 160 undef = .int .i64 x from hp 3 (by kernel_rfl) (by decide))
            have ha := ha.add (show act_.tmps.getD 162 undef = .int .i64 (im.length : Int) from hp 5 (by kernel_rfl) (by decide))
            exact h_gevA (v := .bool (decide ((im.length : Int) ≤ x))) ha rfl rfl rfl (decide_eq_false (by omega)) (e_ge rfl rfl) rfl rfl (Ext.rfl' _)
          · intro Q act_ wI hxI ha hp
            have xw_wI : Ext w wI := Ext.tr xw_w23 hxI
            replace hbw := hbw.ext hxI
            replace hop := hop.ext hxI
            replace hoim := hoim.ext hxI
            replace hoat := hoat.ext hxI
            replace hobl := hobl.ext hxI
            have ha := ha.add (show act_.tmps.getD 159 undef = .bool (decide (x < 0)) from hp 2 (by kernel_rfl) (by decide))
            have ha := ha.add (show act_.tmps.getD 163 undef = .bool (decide ((im.length : Int) ≤ x)) from hp 6 (by kernel_rfl) (by decide))
            exact h_evA (v := .bool (decide ((im.length : Int) ≤ x))) ha rfl (e_pickF rfl (decide_eq_false (by omega)) rfl) rfl rfl (Ext.rfl' _)
          · intro Q act_ wI hxI ha hp
            have xw_wI : Ext w wI := Ext.tr xw_w23 hxI
            replace hbw := hbw.ext hxI
            replace hop := hop.ext hxI
            replace hoim := hoim.ext hxI
            replace hoat := hoat.ext hxI
            replace hobl := hobl.ext hxI
            have ha := ha.add (show act_.tmps.getD 164 undef = .bool (decide ((im.length : Int) ≤ x)) from hp 7 (by kernel_rfl) (by decide))
            exact h_evA (v := .bool (decide ((im.length : Int) ≤ x))) ha rfl (e_move rfl) rfl rfl (Ext.rfl' _)
          · intro Q act_ wI hxI ha hp
            have xw_wI : Ext w wI := Ext.tr xw_w23 hxI
            replace hbw := hbw.ext hxI
            replace hop := hop.ext hxI
            replace hoim := hoim.ext hxI
            replace hoat := hoat.ext hxI
            replace hobl := hobl.ext hxI
            have ha := ha.add (show act_.tmps.getD 165 undef = .bool (decide ((im.length : Int) ≤ x)) from hp 8 (by kernel_rfl) (by decide))
            exact h_gevA (v := .slice Ai im.length ci) ha rfl rfl rfl (decide_eq_false (by omega)) (e_move rfl) rfl rfl (Ext.rfl' _)
          · intro Q act_ wI hxI ha hp
            have xw_wI : Ext w wI := Ext.tr xw_w23 hxI
            replace hbw := hbw.ext hxI
            replace hop := hop.ext hxI
            replace hoim := hoim.ext hxI
            replace hoat := hoat.ext hxI
            replace hobl := hobl.ext hxI
            have ha := ha.add (show act_.tmps.getD 165 undef = .bool (decide ((im.length : Int) ≤ x)) from hp 8 (by kernel_rfl) (by decide))
            exact h_gevA (v := .int .i64 x) ha rfl rfl rfl (decide_eq_false (by omega)) (e_move rfl) rfl rfl (Ext.rfl' _)
          · intro Q act_ wI hxI ha hp
            have xw_wI : Ext w wI := Ext.tr xw_w23 hxI
            replace hbw := hbw.ext hxI
            replace hop := hop.ext hxI
            replace hoim := hoim.ext hxI
            replace hoat := hoat.ext hxI
            replace hobl := hobl.ext hxI
            have ha := ha.add (show act_.tmps.getD 165 undef = .bool (decide ((im.length : Int) ≤ x)) from hp 8 (by kernel_rfl) (by decide))
            have ha := ha.add (show act_.tmps.getD 166 undef = .slice Ai im.length ci from hp 9 (by kernel_rfl) (by decide))
            have ha := ha.add (show act_.tmps.getD 167 undef = .int .i64 x from hp 10 (by kernel_rfl) (by decide))
            exact h_gevA (v := .pointer (some (el (ownA (.slice Ai im.length ci)) 1 x 0))) ha rfl rfl rfl (decide_eq_false (by omega)) (e_idxOwn (x0 := y) Try.underlying23 Try.sizeOf9 rfl rfl hoim (fun _ => rfl) hxy (by omega)) rfl rfl (Ext.rfl' _)
          · intro Q act_ wI hxI ha hp
            have xw_wI : Ext w wI := Ext.tr xw_w23 hxI
            replace hbw := hbw.ext hxI
            replace hop := hop.ext hxI
            replace hoim := hoim.ext hxI
            replace hoat := hoat.ext hxI
            replace hobl := hobl.ext hxI
            have ha := ha.add (show act_.tmps.getD 165 undef = .bool (decide ((im.length : Int) ≤ x)) from hp 8 (by kernel_rfl) (by decide))
            have ha := ha.add (show act_.tmps.getD 168 undef = .pointer (some (el (ownA (.slice Ai im.length ci)) 1 x 0)) from hp 11 (by kernel_rfl) (by decide))
            exact h_gevA (v := .string (B y)) ha rfl rfl rfl (decide_eq_false (by omega)) (e_ldEl (xs := im) (enc := encS) (e := y) rfl (Go.XK.Own.rd hoim (fun _ => rfl)) hxy Try.isAgg9 rfl) rfl rfl (Ext.rfl' _)
          · intro Q act_ wI hxI ha hp
            have xw_wI : Ext w wI := Ext.tr xw_w23 hxI
            replace hbw := hbw.ext hxI
            replace hop := hop.ext hxI
            replace hoim := hoim.ext hxI
            replace hoat := hoat.ext hxI
            replace hobl := hobl.ext hxI
            have ha := ha.add (show act_.tmps.getD 165 undef = .bool (decide ((im.length : Int) ≤ x)) from hp 8 (by kernel_rfl) (by decide))
            exact h_gevA (v := vbl) ha rfl rfl rfl (decide_eq_false (by omega)) (e_move rfl) rfl rfl (Ext.rfl' _)
          · intro Q act_ wI hxI ha hp
            have xw_wI : Ext w wI := Ext.tr xw_w23 hxI
            replace hbw := hbw.ext hxI
            replace hop := hop.ext hxI
            replace hoim := hoim.ext hxI
            replace hoat := hoat.ext hxI
            replace hobl := hobl.ext hxI
            have ha := ha.add (show act_.tmps.getD 165 undef = .bool (decide ((im.length : Int) ≤ x)) from hp 8 (by kernel_rfl) (by decide))
            exact h_gevA (v := .int .i64 (i : Int)) ha rfl rfl rfl (decide_eq_false (by omega)) (e_move rfl) rfl rfl (Ext.rfl' _)
          · intro Q act_ wI hxI ha hp
            have xw_wI : Ext w wI := Ext.tr xw_w23 hxI
            replace hbw := hbw.ext hxI
            replace hop := hop.ext hxI
            replace hoim := hoim.ext hxI
            replace hoat := hoat.ext hxI
            replace hobl := hobl.ext hxI
            have ha := ha.add (show act_.tmps.getD 165 undef = .bool (decide ((im.length : Int) ≤ x)) from hp 8 (by kernel_rfl) (by decide))
            have ha := ha.add (show act_.tmps.getD 170 undef = vbl from hp 13 (by kernel_rfl) (by decide))
            have ha := ha.add (show act_.tmps.getD 171 undef = .int .i64 (i : Int) from hp 14 (by kernel_rfl) (by decide))
            exact h_gevA (v := .pointer (some (el (ownA vbl) 1 (i : Int) 0))) ha rfl rfl rfl (decide_eq_false (by omega)) (e_idxOwn (x0 := y) Try.underlying22 Try.sizeOf9 rfl rfl hobl (fun _ => rfl) hy (by omega)) rfl rfl (Ext.rfl' _)
          · intro Q act_ wI hxI ha hp
            have xw_wI : Ext w wI := Ext.tr xw_w23 hxI
            replace hbw := hbw.ext hxI
            replace hop := hop.ext hxI
            replace hoim := hoim.ext hxI
            replace hoat := hoat.ext hxI
            replace hobl := hobl.ext hxI
            have ha := ha.add (show act_.tmps.getD 165 undef = .bool (decide ((im.length : Int) ≤ x)) from hp 8 (by kernel_rfl) (by decide))
            have ha := ha.add (show act_.tmps.getD 172 undef = .pointer (some (el (ownA vbl) 1 (i : Int) 0)) from hp 15 (by kernel_rfl) (by decide))
            exact h_gevA (v := .string (B y)) ha rfl rfl rfl (decide_eq_false (by omega)) (e_ldEl (xs := bl) (enc := encS) (e := y) rfl (Go.XK.Own.rd hobl (fun _ => rfl)) hy Try.isAgg9 rfl) rfl rfl (Ext.rfl' _)
          · intro Q act_ wI hxI ha hp
            have xw_wI : Ext w wI := Ext.tr xw_w23 hxI
            replace hbw := hbw.ext hxI
            replace hop := hop.ext hxI
            replace hoim := hoim.ext hxI
            replace hoat := hoat.ext hxI
            replace hobl := hobl.ext hxI
            have ha := ha.add (show act_.tmps.getD 165 undef = .bool (decide ((im.length : Int) ≤ x)) from hp 8 (by kernel_rfl) (by decide))
            have ha := ha.add (show act_.tmps.getD 169 undef = .string (B y) from hp 12 (by kernel_rfl) (by decide))
            have ha := ha.add (show act_.tmps.getD 173 undef = .string (B y) from hp 16 (by kernel_rfl) (by decide))
            exact h_gevA (v := .bool (decide (y ≠ y))) ha rfl rfl rfl (decide_eq_false (by omega)) (e_sne rfl rfl) rfl rfl (Ext.rfl' _)
          · intro Q act_ wI hxI ha hp
            have xw_wI : Ext w wI := Ext.tr xw_w23 hxI
            replace hbw := hbw.ext hxI
            replace hop := hop.ext hxI
            replace hoim := hoim.ext hxI
            replace hoat := hoat.ext hxI
            replace hobl := hobl.ext hxI
            have ha := ha.add (show act_.tmps.getD 165 undef = .bool (decide ((im.length : Int) ≤ x)) from hp 8 (by kernel_rfl) (by decide))
            have ha := ha.add (show act_.tmps.getD 174 undef = .bool (decide (y ≠ y)) from hp 17 (by kernel_rfl) (by decide))
            exact h_evA (v := .bool (decide (y ≠ y))) ha rfl (e_pickF rfl (decide_eq_false (by omega)) rfl) rfl rfl (Ext.rfl' _)
          · intro Q act_ wI hxI ha hp
            have xw_wI : Ext w wI := Ext.tr xw_w23 hxI
            replace hbw := hbw.ext hxI
            replace hop := hop.ext hxI
            replace hoim := hoim.ext hxI
            replace hoat := hoat.ext hxI
            replace hobl := hobl.ext hxI
            have ha := ha.add (show act_.tmps.getD 175 undef = .bool (decide (y ≠ y)) from hp 18 (by kernel_rfl) (by decide))
            exact h_evA (v := .bool (decide (y ≠ y))) ha rfl (e_move rfl) rfl rfl (Ext.rfl' _)
          · intro Q act_ wI hxI ha hp
            have xw_wI : Ext w wI := Ext.tr xw_w23 hxI
            replace hbw := hbw.ext hxI
            replace hop := hop.ext hxI
            replace hoim := hoim.ext hxI
            replace hoat := hoat.ext hxI
            replace hobl := hobl.ext hxI
            have ha := ha.add (show act_.tmps.getD 176 undef = .bool (decide (y ≠ y)) from hp 19 (by kernel_rfl) (by decide))
            exact h_gevA (v := .int .u8 start.toNat) ha rfl rfl rfl (decide_eq_false (fun h_ => h_ rfl)) (e_move rfl) rfl rfl (Ext.rfl' _)
          · intro Q act_ wI hxI ha hp
            have xw_wI : Ext w wI := Ext.tr xw_w23 hxI
            replace hbw := hbw.ext hxI
            replace hop := hop.ext hxI
            replace hoim := hoim.ext hxI
            replace hoat := hoat.ext hxI
            replace hobl := hobl.ext hxI
            have ha := ha.add (show act_.tmps.getD 176 undef = .bool (decide (y ≠ y)) from hp 19 (by kernel_rfl) (by decide))
            have ha := ha.add (show act_.tmps.getD 177 undef = .int .u8 start.toNat from hp 20 (by kernel_rfl) (by decide))
            exact h_gevA (v := .int .i64 (start.toNat : Int)) ha rfl rfl rfl (decide_eq_false (fun h_ => h_ rfl)) (e_u8int (c := start) Try.underlying5 Try.underlying3 (by decide) rfl) rfl rfl (Ext.rfl' _)
          · intro Q act_ wI hxI ha hp
            have xw_wI : Ext w wI := Ext.tr xw_w23 hxI
            replace hbw := hbw.ext hxI
            replace hop := hop.ext hxI
            replace hoim := hoim.ext hxI
            replace hoat := hoat.ext hxI
            replace hobl := hobl.ext hxI
            have ha := ha.add (show act_.tmps.getD 176 undef = .bool (decide (y ≠ y)) from hp 19 (by kernel_rfl) (by decide))
            exact h_gevA (v := .int .i64 x) ha rfl rfl rfl (decide_eq_false (fun h_ => h_ rfl)) (e_move rfl) rfl rfl (Ext.rfl' _)
          · intro Q act_ wI hxI ha hp
            have xw_wI : Ext w wI := Ext.tr xw_w23 hxI
            replace hbw := hbw.ext hxI
            replace hop := hop.ext hxI
            replace hoim := hoim.ext hxI
            replace hoat := hoat.ext hxI
            replace hobl := hobl.ext hxI
            have ha := ha.add (show act_.tmps.getD 176 undef = .bool (decide (y ≠ y)) from hp 19 (by kernel_rfl) (by decide))
            have ha := ha.add (show act_.tmps.getD 178 undef = .int .i64 (start.toNat : Int) from hp 21 (by kernel_rfl) (by decide))
            have ha := ha.add (show act_.tmps.getD 179 undef = .int .i64 x from hp 22 (by kernel_rfl) (by decide))
            exact h_gcallA ha ent28 rfl rfl rfl (decide_eq_false (fun h_ => h_ rfl)) rfl rfl (usable_c (start.toNat : Int) x wI (by omega) (by omega)) rfl (by rintro _ w1 ⟨rfl, hR⟩; exact ⟨rfl, hR⟩)
          · intro Q act_ wI hxI ha hp
            have xw_wI : Ext w wI := Ext.tr xw_w23 hxI
            replace hbw := hbw.ext hxI
            replace hop := hop.ext hxI
            replace hoim := hoim.ext hxI
            replace hoat := hoat.ext hxI
            replace hobl := hobl.ext hxI
            have ha := ha.add (show act_.tmps.getD 176 undef = .bool (decide (y ≠ y)) from hp 19 (by kernel_rfl) (by decide))
            have ha := ha.add (show act_.tmps.getD 180 undef = .bool (usbl (start.toNat : Int) x) from hp 23 (by kernel_rfl) (by decide))
            exact h_gevA (v := .bool (!(usbl (start.toNat : Int) x))) ha rfl rfl rfl (decide_eq_false (fun h_ => h_ rfl)) (e_not rfl) rfl rfl (Ext.rfl' _)
          · intro Q act_ wI hxI ha hp
            have xw_wI : Ext w wI := Ext.tr xw_w23 hxI
            replace hbw := hbw.ext hxI
            replace hop := hop.ext hxI
            replace hoim := hoim.ext hxI
            replace hoat := hoat.ext hxI
            replace hobl := hobl.ext hxI
            have ha := ha.add (show act_.tmps.getD 176 undef = .bool (decide (y ≠ y)) from hp 19 (by kernel_rfl) (by decide))
            have ha := ha.add (show act_.tmps.getD 181 undef = .bool (!(usbl (start.toNat : Int) x)) from hp 24 (by kernel_rfl) (by decide))
            exact h_evA (v := .bool (!(usbl (start.toNat : Int) x))) ha rfl (e_pickF rfl (decide_eq_false (fun h_ => h_ rfl)) rfl) rfl rfl (Ext.rfl' _)
          · intro Q act_ wI hxI ha hp
            have xw_wI : Ext w wI := Ext.tr xw_w23 hxI
            replace hbw := hbw.ext hxI
            replace hop := hop.ext hxI
            replace hoim := hoim.ext hxI
            replace hoat := hoat.ext hxI
            replace hobl := hobl.ext hxI
            have ha := ha.add (show act_.tmps.getD 182 undef = .bool (!(usbl (start.toNat : Int) x)) from hp 25 (by kernel_rfl) (by decide))
            exact h_evA (v := .bool (!(usbl (start.toNat : Int) x))) ha rfl (e_move rfl) rfl rfl (Ext.rfl' _)
          · intro Q act_ wI hxI ha hp
            have xw_wI : Ext w wI := Ext.tr xw_w23 hxI
            replace hbw := hbw.ext hxI
            replace hop := hop.ext hxI
            replace hoim := hoim.ext hxI
            replace hoat := hoat.ext hxI
            replace hobl := hobl.ext hxI
            have ha := ha.add (show act_.tmps.getD 183 undef = .bool (!(usbl (start.toNat : Int) x)) from hp 26 (by kernel_rfl) (by decide))
            exact h_gevA (v := .int .i64 (i : Int)) ha rfl rfl rfl (by rw [hus]; rfl) (e_move rfl) rfl rfl (Ext.rfl' _)
          · intro Q act_ wI hxI ha hp
            have xw_wI : Ext w wI := Ext.tr xw_w23 hxI
            replace hbw := hbw.ext hxI
            replace hop := hop.ext hxI
            replace hoim := hoim.ext hxI
            replace hoat := hoat.ext hxI
            replace hobl := hobl.ext hxI
            have ha := ha.add (show act_.tmps.getD 183 undef = .bool (!(usbl (start.toNat : Int) x)) from hp 26 (by kernel_rfl) (by decide))
            have ha := ha.add (show act_.tmps.getD 184 undef = .int .i64 (i : Int) from hp 27 (by kernel_rfl) (by decide))
            exact h_gevA (v := .bool (decide ((0 : Int) < (i : Int)))) ha rfl rfl rfl (by rw [hus]; rfl) (e_gt rfl rfl) rfl rfl (Ext.rfl' _)
          · intro Q act_ wI hxI ha hp
            have xw_wI : Ext w wI := Ext.tr xw_w23 hxI
            replace hbw := hbw.ext hxI
            replace hop := hop.ext hxI
            replace hoim := hoim.ext hxI
            replace hoat := hoat.ext hxI
            replace hobl := hobl.ext hxI
            have ha := ha.add (show act_.tmps.getD 183 undef = .bool (!(usbl (start.toNat : Int) x)) from hp 26 (by kernel_rfl) (by decide))
            have ha := ha.add (show act_.tmps.getD 185 undef = .bool (decide ((0 : Int) < (i : Int))) from hp 28 (by kernel_rfl) (by decide))
            exact h_gevA (v := .bool (decide ((0 : Int) < (i : Int)))) ha rfl rfl rfl (by rw [hus]; rfl) (e_move rfl) rfl rfl (Ext.rfl' _)
          · intro Q act_ wI hxI ha hp
            have xw_wI : Ext w wI := Ext.tr xw_w23 hxI
            replace hbw := hbw.ext hxI
            replace hop := hop.ext hxI
            replace hoim := hoim.ext hxI
            replace hoat := hoat.ext hxI
            replace hobl := hobl.ext hxI
            have ha := ha.add (show act_.tmps.getD 186 undef = .bool (decide ((0 : Int) < (i : Int))) from hp 29 (by kernel_rfl) (by decide))
            exact h_gevA (v := .int .i64 x) ha rfl rfl rfl (decide_eq_true g25) (e_move rfl) rfl rfl (Ext.rfl' _)
          · intro Q act_ wI hxI ha hp
            have xw_wI : Ext w wI := Ext.tr xw_w23 hxI
            replace hbw := hbw.ext hxI
            replace hop := hop.ext hxI
            replace hoim := hoim.ext hxI
            replace hoat := hoat.ext hxI
            replace hobl := hobl.ext hxI
            have ha := ha.add (show act_.tmps.getD 186 undef = .bool (decide ((0 : Int) < (i : Int))) from hp 29 (by kernel_rfl) (by decide))
            exact h_gevA (v := vat) ha rfl rfl rfl (decide_eq_true g25) (e_move rfl) rfl rfl (Ext.rfl' _)
          · intro Q act_ wI hxI ha hp
            have xw_wI : Ext w wI := Ext.tr xw_w23 hxI
            replace hbw := hbw.ext hxI
            replace hop := hop.ext hxI
            replace hoim := hoim.ext hxI
            replace hoat := hoat.ext hxI
            replace hobl := hobl.ext hxI
            have ha := ha.add (show act_.tmps.getD 186 undef = .bool (decide ((0 : Int) < (i : Int))) from hp 29 (by kernel_rfl) (by decide))
            exact h_gevA (v := .int .i64 (i : Int)) ha rfl rfl rfl (decide_eq_true g25) (e_move rfl) rfl rfl (Ext.rfl' _)
          · intro Q act_ wI hxI ha hp
            have xw_wI : Ext w wI := Ext.tr xw_w23 hxI
            replace hbw := hbw.ext hxI
            replace hop := hop.ext hxI
            replace hoim := hoim.ext hxI
            replace hoat := hoat.ext hxI
            replace hobl := hobl.ext hxI
            have ha := ha.add (show act_.tmps.getD 186 undef = .bool (decide ((0 : Int) < (i : Int))) from hp 29 (by kernel_rfl) (by decide))
            have ha := ha.add (show act_.tmps.getD 189 undef = .int .i64 (i : Int) from hp 32 (by kernel_rfl) (by decide))
            exact h_gevA (v := .int .i64 ((i : Int) - 1)) ha rfl rfl rfl (decide_eq_true g25) (e_sub rfl rfl (by omega)) rfl rfl (Ext.rfl' _)
          · intro Q act_ wI hxI ha hp
            have xw_wI : Ext w wI := Ext.tr xw_w23 hxI
            replace hbw := hbw.ext hxI
            replace hop := hop.ext hxI
            replace hoim := hoim.ext hxI
            replace hoat := hoat.ext hxI
            replace hobl := hobl.ext hxI
            have ha := ha.add (show act_.tmps.getD 186 undef = .bool (decide ((0 : Int) < (i : Int))) from hp 29 (by kernel_rfl) (by decide))
            have ha := ha.add (show act_.tmps.getD 188 undef = vat from hp 31 (by kernel_rfl) (by decide))
            have ha := ha.add (show act_.tmps.getD 190 undef = .int .i64 ((i : Int) - 1) from hp 33 (by kernel_rfl) (by decide))
            exact h_gevA (v := .pointer (some (el (ownA vat) 1 ((i : Int) - 1) 0))) ha rfl rfl rfl (decide_eq_true g25) (e_idxOwn (x0 := xp) Try.underlying38 Try.sizeOf3 rfl rfl hoat (fun _ => rfl) (hxp (by omega)).1 (by omega)) rfl rfl (Ext.rfl' _)
          · intro Q act_ wI hxI ha hp
            have xw_wI : Ext w wI := Ext.tr xw_w23 hxI
            replace hbw := hbw.ext hxI
            replace hop := hop.ext hxI
            replace hoim := hoim.ext hxI
            replace hoat := hoat.ext hxI
            replace hobl := hobl.ext hxI
            have ha := ha.add (show act_.tmps.getD 186 undef = .bool (decide ((0 : Int) < (i : Int))) from hp 29 (by kernel_rfl) (by decide))
            have ha := ha.add (show act_.tmps.getD 191 undef = .pointer (some (el (ownA vat) 1 ((i : Int) - 1) 0)) from hp 34 (by kernel_rfl) (by decide))
            exact h_gevA (v := .int .i64 xp) ha rfl rfl rfl (decide_eq_true g25) (e_ldEl (xs := at_) (enc := encI) (e := xp) rfl (Go.XK.Own.rd hoat (fun _ => rfl)) (hxp (by omega)).1 Try.isAgg3 rfl) rfl rfl (Ext.rfl' _)
          · intro Q act_ wI hxI ha hp
            have xw_wI : Ext w wI := Ext.tr xw_w23 hxI
            replace hbw := hbw.ext hxI
            replace hop := hop.ext hxI
            replace hoim := hoim.ext hxI
            replace hoat := hoat.ext hxI
            replace hobl := hobl.ext hxI
            have ha := ha.add (show act_.tmps.getD 186 undef = .bool (decide ((0 : Int) < (i : Int))) from hp 29 (by kernel_rfl) (by decide))
            have ha := ha.add (show act_.tmps.getD 187 undef = .int .i64 x from hp 30 (by kernel_rfl) (by decide))
            have ha := ha.add (show act_.tmps.getD 192 undef = .int .i64 xp from hp 35 (by kernel_rfl) (by decide))
            exact h_gevA (v := .bool (decide (x ≤ xp))) ha rfl rfl rfl (decide_eq_true g25) (e_le rfl rfl) rfl rfl (Ext.rfl' _)
          · intro Q act_ wI hxI ha hp
            have xw_wI : Ext w wI := Ext.tr xw_w23 hxI
            replace hbw := hbw.ext hxI
            replace hop := hop.ext hxI
            replace hoim := hoim.ext hxI
            replace hoat := hoat.ext hxI
            replace hobl := hobl.ext hxI
            have ha := ha.add (show act_.tmps.getD 183 undef = .bool (!(usbl (start.toNat : Int) x)) from hp 26 (by kernel_rfl) (by decide))
            have ha := ha.add (show act_.tmps.getD 186 undef = .bool (decide ((0 : Int) < (i : Int))) from hp 29 (by kernel_rfl) (by decide))
            have ha := ha.add (show act_.tmps.getD 193 undef = .bool (decide (x ≤ xp)) from hp 36 (by kernel_rfl) (by decide))
            exact h_gevA (v := .bool (decide (x ≤ xp))) ha rfl rfl rfl (by rw [hus]; rfl) (e_pickT rfl (decide_eq_true g25) rfl) rfl rfl (Ext.rfl' _)
          · intro Q act_ wI hxI ha hp
            have xw_wI : Ext w wI := Ext.tr xw_w23 hxI
            replace hbw := hbw.ext hxI
            replace hop := hop.ext hxI
            replace hoim := hoim.ext hxI
            replace hoat := hoat.ext hxI
            replace hobl := hobl.ext hxI
            have ha := ha.add (show act_.tmps.getD 183 undef = .bool (!(usbl (start.toNat : Int) x)) from hp 26 (by kernel_rfl) (by decide))
            have ha := ha.add (show act_.tmps.getD 194 undef = .bool (decide (x ≤ xp)) from hp 37 (by kernel_rfl) (by decide))
            exact h_evA (v := .bool (decide (x ≤ xp))) ha rfl (e_pickF rfl (by rw [hus]; rfl) rfl) rfl rfl (Ext.rfl' _)
          intro vs_ w26 hx_w26 hvs act_ ha hv
          have xw_w26 : Ext w w26 := Ext.tr xw_w23 hx_w26
          replace hbw := hbw.ext hx_w26
          replace hop := hop.ext hx_w26
          replace hoim := hoim.ext hx_w26
          replace hoat := hoat.ext hx_w26
          replace hobl := hobl.ext hx_w26
          have ha := ha.add ((hv 38 (by decide)).trans (show vs_ 38 = .bool (decide (x ≤ xp)) from hvs 38 (by decide)))
          refine st_go ha ?_
          clear ha hv hvs
          refine st_nil (nrm_k ?_)
          refine sc_no rfl (decide_eq_false (by have h_ := (hxp (by omega)).2; omega)) ?_
          refine sc_skip (nrm_k ?_)
          refine sc_reg ?_
          refine Go.XK.s (v := .int .i64 ((i : Int) + 1)) (e_add rfl rfl (by omega)) ?_
          refine Go.XK.s (v := .int .i64 ((i : Int) + 1)) (e_move rfl) ?_
          refine sl_nil ?_
          exact nrm_loopq rfl _ _ (by omega) ⟨i + 1, rfl, rfl, xw_w26, hbw, hop, hoim, hoat, hobl, dj_hoim_hobl, (by omega)⟩ (.cons rfl (.cons rfl (.cons rfl (.cons rfl (.cons rfl (.cons rfl (.cons rfl (.nil))))))))
        ·
          refine sc_free [(26, .int .i64 x), (25, .int .i64 (i : Int)), (156, .int .i64 x), (155, .pointer (some (el (ownA vat) 1 (i : Int) 0))), (154, .int .i64 (i : Int)), (153, .bool (decide ((i : Int) < (at_.length : Int)))), (152, .int .i64 (i : Int)), (0, .int .u8 start.toNat), (11, .slice Ai im.length ci), (12, vat), (13, vbl), (150, vat), (151, .int .i64 (at_.length : Int))] [157, 158, 159, 160, 161, 162, 163, 164, 165, 166, 167, 168, 169, 170, 171, 172, 173, 174, 175, 176, 177, 178, 179, 180, 181, 182, 183, 184, 185, 186, 187, 188, 189, 190, 191, 192, 193, 194, 195] [(Is (.int .i64 x)), (Is (.bool (decide (x < 0)))), (Is (.bool (decide (x < 0)))), (Is (.int .i64 x)), (Is (.slice Ai im.length ci)), (Is (.int .i64 (im.length : Int))), (Is (.bool (decide ((im.length : Int) ≤ x)))), (Is (.bool (decide ((im.length : Int) ≤ x)))), (Is (.bool (decide ((im.length : Int) ≤ x)))), (Is (.slice Ai im.length ci)), (Is (.int .i64 x)), (Is (.pointer (some (el (ownA (.slice Ai im.length ci)) 1 x 0)))), (Is (.string (B y))), (Is (vbl)), (Is (.int .i64 (i : Int))), (Is (.pointer (some (el (ownA vbl) 1 (i : Int) 0)))), (Is (.string (B y))), (Is (.bool (decide (y ≠ y)))), (Is (.bool (decide (y ≠ y)))), (Is (.bool (decide (y ≠ y)))), (Is (.int .u8 start.toNat)), (Is (.int .i64 (start.toNat : Int))), (Is (.int .i64 x)), (Is (.bool (usbl (start.toNat : Int) x))), (Is (.bool (!(usbl (start.toNat : Int) x)))), (Is (.bool (!(usbl (start.toNat : Int) x)))), (Is (.bool (!(usbl (start.toNat : Int) x)))), (Is (.int .i64 (i : Int))), (Is (.bool (decide ((0 : Int) < (i : Int))))), (Is (.bool (decide ((0 : Int) < (i : Int))))), (Is undef), (Is undef), (Is undef), (Is undef), (Is undef), (Is undef), (Is undef), (Is (.bool false)), (Is (.bool false))] [] (by kernel_rfl) (Sub.refl _) (by kernel_rfl) (by kernel_rfl) (by kernel_rfl) rfl (by kernel_rfl) (ds_ext (Stays.spec (.is _ (.is _ (.is _ (.is _ (.is _ (.is _ (.is _ (.is _ (.is _ (.is _ (.is _ (.is _ (.is _ (.is _ (.is _ (.is _ (.is _ (.is _ (.is _ (.is _ (.is _ (.is _ (.is _ (.is _ (.is _ (.is _ (.is _ (.is _ (.is _ (.is _ (.is _ (.is _ (.is _ (.is _ (.is _ (.is _ (.is _ (.is _ (.is _ (.nil)))))))))))))))))))))))))))))))))))))))))) ⟨?_, ?_, ?_, ?_, ?_, ?_, ?_, ?_, ?_, ?_, ?_, ?_, ?_, ?_, ?_, ?_, ?_, ?_, ?_, ?_, ?_, ?_, ?_, ?_, ?_, ?_, ?_, ?_, ?_, ?_, ?_, ?_, ?_, ?_, ?_, ?_, ?_, ?_, ?_, trivial⟩ ?_
          · intro Q act_ wI hxI ha hp
            have xw_wI : Ext w wI := Ext.tr xw_w23 hxI
            replace hbw := hbw.ext hxI
            replace hop := hop.ext hxI
            replace hoim := hoim.ext hxI
            replace hoat := hoat.ext hxI
            replace hobl := hobl.ext hxI
            exact h_evA (v := .int .i64 x) ha rfl (e_move rfl) rfl rfl (Ext.rfl' _)
          · intro Q act_ wI hxI ha hp
            have xw_wI : Ext w wI := Ext.tr xw_w23 hxI
            replace hbw := hbw.ext hxI
            replace hop := hop.ext hxI
            replace hoim := hoim.ext hxI
            replace hoat := hoat.ext hxI
            replace hobl := hobl.ext hxI
            have ha := ha.add (show act_.tmps.getD 157 undef = .int .i64 x from hp 0 (by kernel_rfl) (by decide))
            exact h_evA (v := .bool (decide (x < 0))) ha rfl (e_lt rfl rfl) rfl rfl (Ext.rfl' _)
          · intro Q act_ wI hxI ha hp
            have xw_wI : Ext w wI := Ext.tr xw_w23 hxI
            replace hbw := hbw.ext hxI
            replace hop := hop.ext hxI
            replace hoim := hoim.ext hxI
            replace hoat := hoat.ext hxI
            replace hobl := hobl.ext hxI
            have ha := ha.add (show act_.tmps.getD 158 undef = .bool (decide (x < 0)) from hp 1 (by kernel_rfl) (by decide))
            exact h_evA (v := .bool (decide (x < 0))) ha rfl (e_move rfl) rfl rfl (Ext.rfl' _)
          · intro Q act_ wI hxI ha hp
            have xw_wI : Ext w wI := Ext.tr xw_w23 hxI
            replace hbw := hbw.ext hxI
            replace hop := hop.ext hxI
            replace hoim := hoim.ext hxI
            replace hoat := hoat.ext hxI
            replace hobl := hobl.ext hxI
            have ha := ha.add (show act_.tmps.getD 159 undef = .bool (decide (x < 0)) from hp 2 (by kernel_rfl) (by decide))
            exact h_gevA (v := .int .i64 x) ha rfl rfl rfl (decide_eq_false (by omega)) (e_move rfl) rfl rfl (Ext.rfl' _)
          · intro Q act_ wI hxI ha hp
            have xw_wI : Ext w wI := Ext.tr xw_w23 hxI
            replace hbw := hbw.ext hxI
            replace hop := hop.ext hxI
            replace hoim := hoim.ext hxI
            replace hoat := hoat.ext hxI
            replace hobl := hobl.ext hxI
            have ha := ha.add (show act_.tmps.getD 159 undef = .bool (decide (x < 0)) from hp 2 (by kernel_rfl) (by decide))
            exact h_gevA (v := .slice Ai im.length ci) ha rfl rfl rfl (decide_eq_false (by omega)) (e_move rfl) rfl rfl (Ext.rfl' _)
          · intro Q act_ wI hxI ha hp
            have xw_wI : Ext w wI := Ext.tr xw_w23 hxI
            replace hbw := hbw.ext hxI
            replace hop := hop.ext hxI
            replace hoim := hoim.ext hxI
            replace hoat := hoat.ext hxI
            replace hobl := hobl.ext hxI
            have ha := ha.add (show act_.tmps.getD 159 undef = .bool (decide (x < 0)) from hp 2 (by kernel_rfl) (by decide))
            have ha := ha.add (show act_.tmps.getD 161 undef = .slice Ai im.length ci from hp 4 (by kernel_rfl) (by decide))
            exact h_gevA (v := .int .i64 (im.length : Int)) ha rfl rfl rfl (decide_eq_false (by omega)) (e_lenOwn Try.underlying23 rfl hoim (fun _ => rfl)) rfl rfl (Ext.rfl' _)
          · intro Q act_ wI hxI ha hp
            have xw_wI : Ext w wI := Ext.tr xw_w23 hxI
            replace hbw := hbw.ext hxI
            replace hop := hop.ext hxI
            replace hoim := hoim.ext hxI
            replace hoat := hoat.ext hxI
            replace hobl := hobl.ext hxI
            have ha := ha.add (show act_.tmps.getD 159 undef = .bool (decide (x < 0)) from hp 2 (by kernel_rfl) (by decide))
            have ha := ha.add (show act_.tmps.getD 160 undef = .int .i64 x from hp 3 (by kernel_rfl) (by decide))
            have ha := ha.add (show act_.tmps.getD 162 undef = .int .i64 (im.length : Int) from hp 5 (by kernel_rfl) (by decide))
            exact h_gevA (v := .bool (decide ((im.length : Int) ≤ x))) ha rfl rfl rfl (decide_eq_false (by omega)) (e_ge rfl rfl) rfl rfl (Ext.rfl' _)
          · intro Q act_ wI hxI ha hp
            have xw_wI : Ext w wI := Ext.tr xw_w23 hxI
            replace hbw := hbw.ext hxI
            replace hop := hop.ext hxI
            replace hoim := hoim.ext hxI
            replace hoat := hoat.ext hxI
            replace hobl := hobl.ext hxI
            have ha := ha.add (show act_.tmps.getD 159 undef = .bool (decide (x < 0)) from hp 2 (by kernel_rfl) (by decide))
            have ha := ha.add (show act_.tmps.getD 163 undef = .bool (decide ((im.length : Int) ≤ x)) from hp 6 (by kernel_rfl) (by decide))
            exact h_evA (v := .bool (decide ((im.length : Int) ≤ x))) ha rfl (e_pickF rfl (decide_eq_false (by omega)) rfl) rfl rfl (Ext.rfl' _)
          · intro Q act_ wI hxI ha hp
            have xw_wI : Ext w wI := Ext.tr xw_w23 hxI
            replace hbw := hbw.ext hxI
            replace hop := hop.ext hxI
            replace hoim := hoim.ext hxI
            replace hoat := hoat.ext hxI
            replace hobl := hobl.ext hxI
            have ha := ha.add (show act_.tmps.getD 164 undef = .bool (decide ((im.length : Int) ≤ x)) from hp 7 (by kernel_rfl) (by decide))
            exact h_evA (v := .bool (decide ((im.length : Int) ≤ x))) ha rfl (e_move rfl) rfl rfl (Ext.rfl' _)
          · intro Q act_ wI hxI ha hp
            have xw_wI : Ext w wI := Ext.tr xw_w23 hxI
            replace hbw := hbw.ext hxI
            replace hop := hop.ext hxI
            replace hoim := hoim.ext hxI
            replace hoat := hoat.ext hxI
            replace hobl := hobl.ext hxI
            have ha := ha.add (show act_.tmps.getD 165 undef = .bool (decide ((im.length : Int) ≤ x)) from hp 8 (by kernel_rfl) (by decide))
            exact h_gevA (v := .slice Ai im.length ci) ha rfl rfl rfl (decide_eq_false (by omega)) (e_move rfl) rfl rfl (Ext.rfl' _)
          · intro Q act_ wI hxI ha hp
            have xw_wI : Ext w wI := Ext.tr xw_w23 hxI
            replace hbw := hbw.ext hxI
            replace hop := hop.ext hxI
            replace hoim := hoim.ext hxI
            replace hoat := hoat.ext hxI
            replace hobl := hobl.ext hxI
            have ha := ha.add (show act_.tmps.getD 165 undef = .bool (decide ((im.length : Int) ≤ x)) from hp 8 (by kernel_rfl) (by decide))
            exact h_gevA (v := .int .i64 x) ha rfl rfl rfl (decide_eq_false (by omega)) (e_move rfl) rfl rfl (Ext.rfl' _)
          · intro Q act_ wI hxI ha hp
            have xw_wI : Ext w wI := Ext.tr xw_w23 hxI
            replace hbw := hbw.ext hxI
            replace hop := hop.ext hxI
            replace hoim := hoim.ext hxI
            replace hoat := hoat.ext hxI
            replace hobl := hobl.ext hxI
            have ha := ha.add (show act_.tmps.getD 165 undef = .bool (decide ((im.length : Int) ≤ x)) from hp 8 (by kernel_rfl) (by decide))
            have ha := ha.add (show act_.tmps.getD 166 undef = .slice Ai im.length ci from hp 9 (by kernel_rfl) (by decide))
            have ha := ha.add (show act_.tmps.getD 167 undef = .int .i64 x from hp 10 (by kernel_rfl) (by decide))
            exact h_gevA (v := .pointer (some (el (ownA (.slice Ai im.length ci)) 1 x 0))) ha rfl rfl rfl (decide_eq_false (by omega)) (e_idxOwn (x0 := y) Try.underlying23 Try.sizeOf9 rfl rfl hoim (fun _ => rfl) hxy (by omega)) rfl rfl (Ext.rfl' _)
          · intro Q act_ wI hxI ha hp
            have xw_wI : Ext w wI := Ext.tr xw_w23 hxI
            replace hbw := hbw.ext hxI
            replace hop := hop.ext hxI
            replace hoim := hoim.ext hxI
            replace hoat := hoat.ext hxI
            replace hobl := hobl.ext hxI
            have ha := ha.add (show act_.tmps.getD 165 undef = .bool (decide ((im.length : Int) ≤ x)) from hp 8 (by kernel_rfl) (by decide))
            have ha := ha.add (show act_.tmps.getD 168 undef = .pointer (some (el (ownA (.slice Ai im.length ci)) 1 x 0)) from hp 11 (by kernel_rfl) (by decide))
            exact h_gevA (v := .string (B y)) ha rfl rfl rfl (decide_eq_false (by omega)) (e_ldEl (xs := im) (enc := encS) (e := y) rfl (Go.XK.Own.rd hoim (fun _ => rfl)) hxy Try.isAgg9 rfl) rfl rfl (Ext.rfl' _)
          · intro Q act_ wI hxI ha hp
            have xw_wI : Ext w wI := Ext.tr xw_w23 hxI
            replace hbw := hbw.ext hxI
            replace hop := hop.ext hxI
            replace hoim := hoim.ext hxI
            replace hoat := hoat.ext hxI
            replace hobl := hobl.ext hxI
            have ha := ha.add (show act_.tmps.getD 165 undef = .bool (decide ((im.length : Int) ≤ x)) from hp 8 (by kernel_rfl) (by decide))
            exact h_gevA (v := vbl) ha rfl rfl rfl (decide_eq_false (by omega)) (e_move rfl) rfl rfl (Ext.rfl' _)
          · intro Q act_ wI hxI ha hp
            have xw_wI : Ext w wI := Ext.tr xw_w23 hxI
            replace hbw := hbw.ext hxI
            replace hop := hop.ext hxI
            replace hoim := hoim.ext hxI
            replace hoat := hoat.ext hxI
            replace hobl := hobl.ext hxI
            have ha := ha.add (show act_.tmps.getD 165 undef = .bool (decide ((im.length : Int) ≤ x)) from hp 8 (by kernel_rfl) (by decide))
            exact h_gevA (v := .int .i64 (i : Int)) ha rfl rfl rfl (decide_eq_false (by omega)) (e_move rfl) rfl rfl (Ext.rfl' _)
          · intro Q act_ wI hxI ha hp
            have xw_wI : Ext w wI := Ext.tr xw_w23 hxI
            replace hbw := hbw.ext hxI
            replace hop := hop.ext hxI
            replace hoim := hoim.ext hxI
            replace hoat := hoat.ext hxI
            replace hobl := hobl.ext hxI
            have ha := ha.add (show act_.tmps.getD 165 undef = .bool (decide ((im.length : Int) ≤ x)) from hp 8 (by kernel_rfl) (by decide))
            have ha := ha.add (show act_.tmps.getD 170 undef = vbl from hp 13 (by kernel_rfl) (by decide))
            have ha := ha.add (show act_.tmps.getD 171 undef = .int .i64 (i : Int) from hp 14 (by kernel_rfl) (by decide))
            exact h_gevA (v := .pointer (some (el (ownA vbl) 1 (i : Int) 0))) ha rfl rfl rfl (decide_eq_false (by omega)) (e_idxOwn (x0 := y) Try.underlying22 Try.sizeOf9 rfl rfl hobl (fun _ => rfl) hy (by omega)) rfl rfl (Ext.rfl' _)
          · intro Q act_ wI hxI ha hp
            have xw_wI : Ext w wI := Ext.tr xw_w23 hxI
            replace hbw := hbw.ext hxI
            replace hop := hop.ext hxI
            replace hoim := hoim.ext hxI
            replace hoat := hoat.ext hxI
            replace hobl := hobl.ext hxI
            have ha := ha.add (show act_.tmps.getD 165 undef = .bool (decide ((im.length : Int) ≤ x)) from hp 8 (by kernel_rfl) (by decide))
            have ha := ha.add (show act_.tmps.getD 172 undef = .pointer (some (el (ownA vbl) 1 (i : Int) 0)) from hp 15 (by kernel_rfl) (by decide))
            exact h_gevA (v := .string (B y)) ha rfl rfl rfl (decide_eq_false (by omega)) (e_ldEl (xs := bl) (enc := encS) (e := y) rfl (Go.XK.Own.rd hobl (fun _ => rfl)) hy Try.isAgg9 rfl) rfl rfl (Ext.rfl' _)
          · intro Q act_ wI hxI ha hp
            have xw_wI : Ext w wI := Ext.tr xw_w23 hxI
            replace hbw := hbw.ext hxI
            replace hop := hop.ext hxI
            replace hoim := hoim.ext hxI
            replace hoat := hoat.ext hxI
            replace hobl := hobl.ext hxI
            have ha := ha.add (show act_.tmps.getD 165 undef = .bool (decide ((im.length : Int) ≤ x)) from hp 8 (by kernel_rfl) (by decide))
            have ha := ha.add (show act_.tmps.getD 169 undef = .string (B y) from hp 12 (by kernel_rfl) (by decide))
            have ha := ha.add (show act_.tmps.getD 173 undef = .string (B y) from hp 16 (by kernel_rfl) (by decide))
            exact h_gevA (v := .bool (decide (y ≠ y))) ha rfl rfl rfl (decide_eq_false (by omega)) (e_sne rfl rfl) rfl rfl (Ext.rfl' _)
          · intro Q act_ wI hxI ha hp
            have xw_wI : Ext w wI := Ext.tr xw_w23 hxI
            replace hbw := hbw.ext hxI
            replace hop := hop.ext hxI
            replace hoim := hoim.ext hxI
            replace hoat := hoat.ext hxI
            replace hobl := hobl.ext hxI
            have ha := ha.add (show act_.tmps.getD 165 undef = .bool (decide ((im.length : Int) ≤ x)) from hp 8 (by kernel_rfl) (by decide))
            have ha := ha.add (show act_.tmps.getD 174 undef = .bool (decide (y ≠ y)) from hp 17 (by kernel_rfl) (by decide))
            exact h_evA (v := .bool (decide (y ≠ y))) ha rfl (e_pickF rfl (decide_eq_false (by omega)) rfl) rfl rfl (Ext.rfl' _)
          · intro Q act_ wI hxI ha hp
            have xw_wI : Ext w wI := Ext.tr xw_w23 hxI
            replace hbw := hbw.ext hxI
            replace hop := hop.ext hxI
            replace hoim := hoim.ext hxI
            replace hoat := hoat.ext hxI
            replace hobl := hobl.ext hxI
            have ha := ha.add (show act_.tmps.getD 175 undef = .bool (decide (y ≠ y)) from hp 18 (by kernel_rfl) (by decide))
            exact h_evA (v := .bool (decide (y ≠ y))) ha rfl (e_move rfl) rfl rfl (Ext.rfl' _)
          · intro Q act_ wI hxI ha hp
            have xw_wI : Ext w wI := Ext.tr xw_w23 hxI
            replace hbw := hbw.ext hxI
            replace hop := hop.ext hxI
            replace hoim := hoim.ext hxI
            replace hoat := hoat.ext hxI
            replace hobl := hobl.ext hxI
            have ha := ha.add (show act_.tmps.getD 176 undef = .bool (decide (y ≠ y)) from hp 19 (by kernel_rfl) (by decide))
            exact h_gevA (v := .int .u8 start.toNat) ha rfl rfl rfl (decide_eq_false (fun h_ => h_ rfl)) (e_move rfl) rfl rfl (Ext.rfl' _)
          · intro Q act_ wI hxI ha hp
            have xw_wI : Ext w wI := Ext.tr xw_w23 hxI
            replace hbw := hbw.ext hxI
            replace hop := hop.ext hxI
            replace hoim := hoim.ext hxI
            replace hoat := hoat.ext hxI
            replace hobl := hobl.ext hxI
            have ha := ha.add (show act_.tmps.getD 176 undef = .bool (decide (y ≠ y)) from hp 19 (by kernel_rfl) (by decide))
            have ha := ha.add (show act_.tmps.getD 177 undef = .int .u8 start.toNat from hp 20 (by kernel_rfl) (by decide))
            exact h_gevA (v := .int .i64 (start.toNat : Int)) ha rfl rfl rfl (decide_eq_false (fun h_ => h_ rfl)) (e_u8int (c := start) Try.underlying5 Try.underlying3 (by decide) rfl) rfl rfl (Ext.rfl' _)
          · intro Q act_ wI hxI ha hp
            have xw_wI : Ext w wI := Ext.tr xw_w23 hxI
            replace hbw := hbw.ext hxI
            replace hop := hop.ext hxI
            replace hoim := hoim.ext hxI
            replace hoat := hoat.ext hxI
            replace hobl := hobl.ext hxI
            have ha := ha.add (show act_.tmps.getD 176 undef = .bool (decide (y ≠ y)) from hp 19 (by kernel_rfl) (by decide))
            exact h_gevA (v := .int .i64 x) ha rfl rfl rfl (decide_eq_false (fun h_ => h_ rfl)) (e_move rfl) rfl rfl (Ext.rfl' _)
          · intro Q act_ wI hxI ha hp
            have xw_wI : Ext w wI := Ext.tr xw_w23 hxI
            replace hbw := hbw.ext hxI
            replace hop := hop.ext hxI
            replace hoim := hoim.ext hxI
            replace hoat := hoat.ext hxI
            replace hobl := hobl.ext hxI
            have ha := ha.add (show act_.tmps.getD 176 undef = .bool (decide (y ≠ y)) from hp 19 (by kernel_rfl) (by decide))
            have ha := ha.add (show act_.tmps.getD 178 undef = .int .i64 (start.toNat : Int) from hp 21 (by kernel_rfl) (by decide))
            have ha := ha.add (show act_.tmps.getD 179 undef = .int .i64 x from hp 22 (by kernel_rfl) (by decide))
            exact h_gcallA ha ent28 rfl rfl rfl (decide_eq_false (fun h_ => h_ rfl)) rfl rfl (usable_c (start.toNat : Int) x wI (by omega) (by omega)) rfl (by rintro _ w1 ⟨rfl, hR⟩; exact ⟨rfl, hR⟩)
          · intro Q act_ wI hxI ha hp
            have xw_wI : Ext w wI := Ext.tr xw_w23 hxI
            replace hbw := hbw.ext hxI
            replace hop := hop.ext hxI
            replace hoim := hoim.ext hxI
            replace hoat := hoat.ext hxI
            replace hobl := hobl.ext hxI
            have ha := ha.add (show act_.tmps.getD 176 undef = .bool (decide (y ≠ y)) from hp 19 (by kernel_rfl) (by decide))
            have ha := ha.add (show act_.tmps.getD 180 undef = .bool (usbl (start.toNat : Int) x) from hp 23 (by kernel_rfl) (by decide))
            exact h_gevA (v := .bool (!(usbl (start.toNat : Int) x))) ha rfl rfl rfl (decide_eq_false (fun h_ => h_ rfl)) (e_not rfl) rfl rfl (Ext.rfl' _)
          · intro Q act_ wI hxI ha hp
            have xw_wI : Ext w wI := Ext.tr xw_w23 hxI
            replace hbw := hbw.ext hxI
            replace hop := hop.ext hxI
            replace hoim := hoim.ext hxI
            replace hoat := hoat.ext hxI
            replace hobl := hobl.ext hxI
            have ha := ha.add (show act_.tmps.getD 176 undef = .bool (decide (y ≠ y)) from hp 19 (by kernel_rfl) (by decide))
            have ha := ha.add (show act_.tmps.getD 181 undef = .bool (!(usbl (start.toNat : Int) x)) from hp 24 (by kernel_rfl) (by decide))
            exact h_evA (v := .bool (!(usbl (start.toNat : Int) x))) ha rfl (e_pickF rfl (decide_eq_false (fun h_ => h_ rfl)) rfl) rfl rfl (Ext.rfl' _)
          · intro Q act_ wI hxI ha hp
            have xw_wI : Ext w wI := Ext.tr xw_w23 hxI
            replace hbw := hbw.ext hxI
            replace hop := hop.ext hxI
            replace hoim := hoim.ext hxI
            replace hoat := hoat.ext hxI
            replace hobl := hobl.ext hxI
            have ha := ha.add (show act_.tmps.getD 182 undef = .bool (!(usbl (start.toNat : Int) x)) from hp 25 (by kernel_rfl) (by decide))
            exact h_evA (v := .bool (!(usbl (start.toNat : Int) x))) ha rfl (e_move rfl) rfl rfl (Ext.rfl' _)
          · intro Q act_ wI hxI ha hp
            have xw_wI : Ext w wI := Ext.tr xw_w23 hxI
            replace hbw := hbw.ext hxI
            replace hop := hop.ext hxI
            replace hoim := hoim.ext hxI
            replace hoat := hoat.ext hxI
            replace hobl := hobl.ext hxI
            have ha := ha.add (show act_.tmps.getD 183 undef = .bool (!(usbl (start.toNat : Int) x)) from hp 26 (by kernel_rfl) (by decide))
            exact h_gevA (v := .int .i64 (i : Int)) ha rfl rfl rfl (by rw [hus]; rfl) (e_move rfl) rfl rfl (Ext.rfl' _)
          · intro Q act_ wI hxI ha hp
            have xw_wI : Ext w wI := Ext.tr xw_w23 hxI
            replace hbw := hbw.ext hxI
            replace hop := hop.ext hxI
            replace hoim := hoim.ext hxI
            replace hoat := hoat.ext hxI
            replace hobl := hobl.ext hxI
            have ha := ha.add (show act_.tmps.getD 183 undef = .bool (!(usbl (start.toNat : Int) x)) from hp 26 (by kernel_rfl) (by decide))
            have ha := ha.add (show act_.tmps.getD 184 undef = .int .i64 (i : Int) from hp 27 (by kernel_rfl) (by decide))
            exact h_gevA (v := .bool (decide ((0 : Int) < (i : Int)))) ha rfl rfl rfl (by rw [hus]; rfl) (e_gt rfl rfl) rfl rfl (Ext.rfl' _)
          · intro Q act_ wI hxI ha hp
            have xw_wI : Ext w wI := Ext.tr xw_w23 hxI
            replace hbw := hbw.ext hxI
            replace hop := hop.ext hxI
            replace hoim := hoim.ext hxI
            replace hoat := hoat.ext hxI
            replace hobl := hobl.ext hxI
            have ha := ha.add (show act_.tmps.getD 183 undef = .bool (!(usbl (start.toNat : Int) x)) from hp 26 (by kernel_rfl) (by decide))
            have ha := ha.add (show act_.tmps.getD 185 undef = .bool (decide ((0 : Int) < (i : Int))) from hp 28 (by kernel_rfl) (by decide))
            exact h_gevA (v := .bool (decide ((0 : Int) < (i : Int)))) ha rfl rfl rfl (by rw [hus]; rfl) (e_move rfl) rfl rfl (Ext.rfl' _)
          · intro Q act_ wI hxI ha hp
            have xw_wI : Ext w wI := Ext.tr xw_w23 hxI
            replace hbw := hbw.ext hxI
            replace hop := hop.ext hxI
            replace hoim := hoim.ext hxI
            replace hoat := hoat.ext hxI
            replace hobl := hobl.ext hxI
            have ha := ha.add (show act_.tmps.getD 186 undef = .bool (decide ((0 : Int) < (i : Int))) from hp 29 (by kernel_rfl) (by decide))
            exact h_gskip rfl rfl rfl (decide_eq_false g25) ha rfl rfl
          · intro Q act_ wI hxI ha hp
            have xw_wI : Ext w wI := Ext.tr xw_w23 hxI
            replace hbw := hbw.ext hxI
            replace hop := hop.ext hxI
            replace hoim := hoim.ext hxI
            replace hoat := hoat.ext hxI
            replace hobl := hobl.ext hxI
            have ha := ha.add (show act_.tmps.getD 186 undef = .bool (decide ((0 : Int) < (i : Int))) from hp 29 (by kernel_rfl) (by decide))
            exact h_gskip rfl rfl rfl (decide_eq_false g25) ha rfl rfl
          · intro Q act_ wI hxI ha hp
            have xw_wI : Ext w wI := Ext.tr xw_w23 hxI
            replace hbw := hbw.ext hxI
            replace hop := hop.ext hxI
            replace hoim := hoim.ext hxI
            replace hoat := hoat.ext hxI
            replace hobl := hobl.ext hxI
            have ha := ha.add (show act_.tmps.getD 186 undef = .bool (decide ((0 : Int) < (i : Int))) from hp 29 (by kernel_rfl) (by decide))
            exact h_gskip rfl rfl rfl (decide_eq_false g25) ha rfl rfl
          · intro Q act_ wI hxI ha hp
            have xw_wI : Ext w wI := Ext.tr xw_w23 hxI
            replace hbw := hbw.ext hxI
            replace hop := hop.ext hxI
            replace hoim := hoim.ext hxI
            replace hoat := hoat.ext hxI
            replace hobl := hobl.ext hxI
            have ha := ha.add (show act_.tmps.getD 186 undef = .bool (decide ((0 : Int) < (i : Int))) from hp 29 (by kernel_rfl) (by decide))
            have ha := ha.add (show act_.tmps.getD 189 undef = undef from hp 32 (by kernel_rfl) (by decide))
            exact h_gskip rfl rfl rfl (decide_eq_false g25) ha rfl rfl
          · intro Q act_ wI hxI ha hp
            have xw_wI : Ext w wI := Ext.tr xw_w23 hxI
            replace hbw := hbw.ext hxI
            replace hop := hop.ext hxI
            replace hoim := hoim.ext hxI
            replace hoat := hoat.ext hxI
            replace hobl := hobl.ext hxI
            have ha := ha.add (show act_.tmps.getD 186 undef = .bool (decide ((0 : Int) < (i : Int))) from hp 29 (by kernel_rfl) (by decide))
            have ha := ha.add (show act_.tmps.getD 188 undef = undef from hp 31 (by kernel_rfl) (by decide))
            have ha := ha.add (show act_.tmps.getD 190 undef = undef from hp 33 (by kernel_rfl) (by decide))
            exact h_gskip rfl rfl rfl (decide_eq_false g25) ha rfl rfl
          · intro Q act_ wI hxI ha hp
            have xw_wI : Ext w wI := Ext.tr xw_w23 hxI
            replace hbw := hbw.ext hxI
            replace hop := hop.ext hxI
            replace hoim := hoim.ext hxI
            replace hoat := hoat.ext hxI
            replace hobl := hobl.ext hxI
            have ha := ha.add (show act_.tmps.getD 186 undef = .bool (decide ((0 : Int) < (i : Int))) from hp 29 (by kernel_rfl) (by decide))
            have ha := ha.add (show act_.tmps.getD 191 undef = undef from hp 34 (by kernel_rfl) (by decide))
            exact h_gskip rfl rfl rfl (decide_eq_false g25) ha rfl rfl
          · intro Q act_ wI hxI ha hp
            have xw_wI : Ext w wI := Ext.tr xw_w23 hxI
            replace hbw := hbw.ext hxI
            replace hop := hop.ext hxI
            replace hoim := hoim.ext hxI
            replace hoat := hoat.ext hxI
            replace hobl := hobl.ext hxI
            have ha := ha.add (show act_.tmps.getD 186 undef = .bool (decide ((0 : Int) < (i : Int))) from hp 29 (by kernel_rfl) (by decide))
            have ha := ha.add (show act_.tmps.getD 187 undef = undef from hp 30 (by kernel_rfl) (by decide))
            have ha := ha.add (show act_.tmps.getD 192 undef = undef from hp 35 (by kernel_rfl) (by decide))
            exact h_gskip rfl rfl rfl (decide_eq_false g25) ha rfl rfl
          · intro Q act_ wI hxI ha hp
            have xw_wI : Ext w wI := Ext.tr xw_w23 hxI
            replace hbw := hbw.ext hxI
            replace hop := hop.ext hxI
            replace hoim := hoim.ext hxI
            replace hoat := hoat.ext hxI
            replace hobl := hobl.ext hxI
            have ha := ha.add (show act_.tmps.getD 183 undef = .bool (!(usbl (start.toNat : Int) x)) from hp 26 (by kernel_rfl) (by decide))
            have ha := ha.add (show act_.tmps.getD 186 undef = .bool (decide ((0 : Int) < (i : Int))) from hp 29 (by kernel_rfl) (by decide))
            have ha := ha.add (show act_.tmps.getD 193 undef = undef from hp 36 (by kernel_rfl) (by decide))
            exact h_gevA (v := .bool false) ha rfl rfl rfl (by rw [hus]; rfl) (e_pickF rfl (decide_eq_false g25) rfl) rfl rfl (Ext.rfl' _)
          · intro Q act_ wI hxI ha hp
            have xw_wI : Ext w wI := Ext.tr xw_w23 hxI
            replace hbw := hbw.ext hxI
            replace hop := hop.ext hxI
            replace hoim := hoim.ext hxI
            replace hoat := hoat.ext hxI
            replace hobl := hobl.ext hxI
            have ha := ha.add (show act_.tmps.getD 183 undef = .bool (!(usbl (start.toNat : Int) x)) from hp 26 (by kernel_rfl) (by decide))
            have ha := ha.add (show act_.tmps.getD 194 undef = .bool false from hp 37 (by kernel_rfl) (by decide))
            exact h_evA (v := .bool false) ha rfl (e_pickF rfl (by rw [hus]; rfl) rfl) rfl rfl (Ext.rfl' _)
          intro vs_ w27 hx_w27 hvs act_ ha hv
          have xw_w27 : Ext w w27 := Ext.tr xw_w23 hx_w27
          replace hbw := hbw.ext hx_w27
          replace hop := hop.ext hx_w27
          replace hoim := hoim.ext hx_w27
          replace hoat := hoat.ext hx_w27
          replace hobl := hobl.ext hx_w27
          have ha := ha.add ((hv 38 (by decide)).trans (show vs_ 38 = .bool false from hvs 38 (by decide)))
          refine st_go ha ?_
          clear ha hv hvs
          refine st_nil (nrm_k ?_)
          refine sc_no rfl rfl ?_
          refine sc_skip (nrm_k ?_)
          refine sc_reg ?_
          refine Go.XK.s (v := .int .i64 ((i : Int) + 1)) (e_add rfl rfl (by omega)) ?_
          refine Go.XK.s (v := .int .i64 ((i : Int) + 1)) (e_move rfl) ?_
          refine sl_nil ?_
          exact nrm_loopq rfl _ _ (by omega) ⟨i + 1, rfl, rfl, xw_w27, hbw, hop, hoim, hoat, hobl, dj_hoim_hobl, (by omega)⟩ (.cons rfl (.cons rfl (.cons rfl (.cons rfl (.cons rfl (.cons rfl (.cons rfl (.nil))))))))
      ·
        refine sc_exit rfl (nrm_k ?_)
        refine sc_seq ?_
        refine sc_reg ?_
        refine Go.XK.s (v := .bool true) (e_assign rfl) ?_
        refine sl_nil (nrm_k ?_)
        refine sc_retf rfl (ret1 Try.results4 (rvt rfl) ?_)
        exact ⟨rfl, xw_w23⟩

end Go.Proofs.Ytfcjianiodiejaa
