/- Chapter 27: C11. Printed by my program wip/tools/wk.py. -/
import Derived.Test.YtlgkjpmaekkpjaaC10
import Derived.Test.YtlgkjpmaekkpjaaMath7
import Derived.Test.YtlgkjpmaekkpjaaXKk
set_option linter.unusedVariables false
set_option linter.unusedSimpArgs false
set_option maxRecDepth 4000
set_option maxHeartbeats 1000000
namespace Go.Proofs.Ytlgkjpmaekkpjaa
open Go.XK Go.RowKit
theorem xor_ne {x : UInt8} (e : UInt8) (h : x ≠ 0) : e ^^^ x ≠ e := fun h_ => h (by
  have h2 : e ^^^ (e ^^^ x) = e ^^^ e := by rw [h_]
  rw [← UInt8.xor_assoc, UInt8.xor_self, UInt8.zero_xor] at h2
  exact h2)
/-- masterdisc/masterdisclaw27.EltoritoKey (function 7) -/
theorem key_c (l : List Img) (A : Option Addr) (c : Nat) (k x : UInt8) (w : World) (hl : Rd w A 6 Img.enc l) (hlc : l.length ≤ c) : CallR Try.prog 7 [.slice A l.length c, .int .u8 k.toNat, .int .u8 x.toNat] w (fun v w' => v = .bool true ∧ Ext w w') := by
  refine callR_of (n := 58) [(0, .slice A l.length c), (1, .int .u8 k.toNat), (2, .int .u8 x.toNat)] Try.func7 rfl rfl (Nat.le_of_ble_eq_true rfl) rfl ?_
  refine sc_seq ?_
  refine sc_reg ?_
  refine Go.XK.s (v := .bool false) (e_assign rfl) ?_
  refine sl_nil (nrm_k ?_)
  refine sc_seq ?_
  refine sc_seq ?_
  refine sc_reg ?_
  refine sl_call ent10 rfl rfl (awake_c w) (by decide) ?_
  rintro _ w1 ⟨rfl, hw1⟩
  have xw_w1 : Ext w w1 := Ext.tr (Ext.rfl' w) hw1
  refine Go.XK.s (v := .bool false) (e_not (b := true) rfl) ?_
  refine sl_nil (nrm_k ?_)
  refine sc_no rfl rfl ?_
  refine sc_skip (nrm_k ?_)
  refine sc_seq ?_
  refine sc_seq ?_
  refine sc_reg ?_
  refine Go.XK.s (v := .slice A l.length c) (e_move rfl) ?_
  refine Go.XK.s (v := .int .i64 (l.length : Int)) (e_len Try.underlying22 rfl) ?_
  refine Go.XK.s (v := .bool (decide ((40 : Int) < (l.length : Int)))) (e_gt rfl rfl) ?_
  refine Go.XK.s (v := .bool (decide ((40 : Int) < (l.length : Int)))) (e_move rfl) ?_
  refine sl_merge 3 20 (.bool ((decide ((40 : Int) < (l.length : Int))) || (decide (x = (0 : UInt8))))) ?_ ?_
  · refine sl_case (t := 17) rfl (fun g3_3 => ?_) (fun g3_3 => ?_)
    ·
      refine sl_gskip rfl rfl g3_3 (by decide) ?_
      refine sl_gskip rfl rfl g3_3 (by decide) ?_
      refine Go.XK.s (v := .bool true) (e_pickT rfl g3_3 rfl) ?_
      exact sl_nil (fun a ha => ⟨rfl, ha.sub (.cons (by rw [g3_3]; rfl) (sub_self_cons (sub_self_cons (sub_self_cons (Sub.refl _) rfl) rfl) rfl))⟩)
    ·
      refine sl_gev (v := .int .u8 x.toNat) rfl rfl g3_3 (e_move rfl) rfl (by decide) ?_
      refine sl_gev (v := .bool (decide (x = (0 : UInt8)))) rfl rfl g3_3 (e_beq (a := x) (b := 0) rfl rfl) rfl (by decide) ?_
      refine Go.XK.s (v := .bool (decide (x = (0 : UInt8)))) (e_pickF rfl g3_3 rfl) ?_
      exact sl_nil (fun a ha => ⟨rfl, ha.sub (.cons (by rw [g3_3]; rfl) (sub_self_cons (sub_self_cons (sub_self_cons (Sub.refl _) rfl) rfl) rfl))⟩)
  refine sl_nil (nrm_k ?_)
  refine sc_if rfl (fun c20 => ?_) (fun c20 => ?_)
  ·
    refine sc_seq ?_
    refine sc_reg ?_
    refine Go.XK.s (v := .bool true) (e_assign rfl) ?_
    refine sl_nil (nrm_k ?_)
    refine sc_retf rfl (ret1 Try.results7 (rvt rfl) ?_)
    exact ⟨rfl, xw_w1⟩
  ·
    refine sc_skip (nrm_k ?_)
    refine sc_seq ?_
    refine sc_reg ?_
    refine Go.XK.s (v := .slice A l.length c) (e_move rfl) ?_
    refine sl_call ent11 rfl rfl (encode_c l _ _ w1 (hl.ext xw_w1) hlc) (by decide) ?_
    rintro _ w2 ⟨rfl, hw2⟩
    have xw_w2 : Ext w w2 := Ext.tr xw_w1 hw2
    refine Go.XK.s (v := .tuple #[.string (B ((encR l).1)), .int .i64 ((encR l).2)]) (e_move rfl) ?_
    refine Go.XK.s (v := .string (B ((encR l).1))) (e_extract (vs := [.string (B ((encR l).1)), .int .i64 ((encR l).2)]) rfl rfl) ?_
    refine Go.XK.s (v := .int .i64 ((encR l).2)) (e_extract (vs := [.string (B ((encR l).1)), .int .i64 ((encR l).2)]) rfl rfl) ?_
    refine Go.XK.s (v := .string (B ((encR l).1))) (e_assign rfl) ?_
    refine Go.XK.s (v := .int .i64 ((encR l).2)) (e_assign rfl) ?_
    refine sl_nil (nrm_k ?_)
    refine sc_seq ?_
    refine sc_seq ?_
    refine sc_reg ?_
    refine Go.XK.s (v := .int .i64 ((encR l).2)) (e_move rfl) ?_
    refine Go.XK.s (v := .bool (decide ((encR l).2 ≠ 0))) (e_ne rfl rfl) ?_
    refine Go.XK.s (v := .bool (decide ((encR l).2 ≠ 0))) (e_move rfl) ?_
    refine sl_merge 4 32 (.bool ((decide ((encR l).2 ≠ 0)) || (decide ((((encR l).1).length : Int) ≠ 2048)))) ?_ ?_
    · refine sl_case (t := 28) rfl (fun g6_2 => ?_) (fun g6_2 => ?_)
      ·
        refine sl_gskip rfl rfl g6_2 (by decide) ?_
        refine sl_gskip rfl rfl g6_2 (by decide) ?_
        refine sl_gskip rfl rfl g6_2 (by decide) ?_
        refine Go.XK.s (v := .bool true) (e_pickT rfl g6_2 rfl) ?_
        exact sl_nil (fun a ha => ⟨rfl, ha.sub (.cons (by rw [g6_2]; rfl) (sub_self_cons (sub_self_cons (sub_self_cons (sub_self_cons (Sub.refl _) rfl) rfl) rfl) rfl))⟩)
      ·
        refine sl_gev (v := .string (B ((encR l).1))) rfl rfl g6_2 (e_move rfl) rfl (by decide) ?_
        refine sl_gev (v := .int .i64 (((encR l).1).length : Int)) rfl rfl g6_2 (e_slen Try.underlying9 rfl) rfl (by decide) ?_
        refine sl_gev (v := .bool (decide ((((encR l).1).length : Int) ≠ 2048))) rfl rfl g6_2 (e_ne rfl rfl) rfl (by decide) ?_
        refine Go.XK.s (v := .bool (decide ((((encR l).1).length : Int) ≠ 2048))) (e_pickF rfl g6_2 rfl) ?_
        exact sl_nil (fun a ha => ⟨rfl, ha.sub (.cons (by rw [g6_2]; rfl) (sub_self_cons (sub_self_cons (sub_self_cons (sub_self_cons (Sub.refl _) rfl) rfl) rfl) rfl))⟩)
    refine sl_nil (nrm_k ?_)
    refine sc_if rfl (fun c32 => ?_) (fun c32 => ?_)
    ·
      refine sc_seq ?_
      refine sc_reg ?_
      refine Go.XK.s (v := .int .i64 ((encR l).2)) (e_move rfl) ?_
      refine Go.XK.s (v := .bool (decide ((encR l).2 ≠ 0))) (e_ne rfl rfl) ?_
      refine Go.XK.s (v := .bool (decide ((encR l).2 ≠ 0))) (e_assign rfl) ?_
      refine sl_nil (nrm_k ?_)
      refine sc_retf rfl (ret1 Try.results7 (rvt rfl) ?_)
      exact ⟨congrArg Value.bool (by
        have hne : (encR l).2 ≠ 0 := fun h_ => by rw [h_, enc_length h_] at c32; simp at c32
        exact decide_eq_true hne), xw_w2⟩
    ·
      have he0 : (encR l).2 = 0 := by
        simp at c32
        exact c32.1
      have hSl := enc_length he0
      have hj : (k % 32).toNat < 32 := by rw [UInt8.toNat_mod]; exact Nat.mod_lt _ (by decide)
      obtain ⟨e, hce⟩ : ∃ e, (encR l).1[(k % 32).toNat]? = some e := ⟨_, List.getElem?_eq_getElem (by omega)⟩
      have hx0 : x ≠ 0 := fun h_ => by rw [h_] at c20; simp at c20
      have hdk := dec_key he0 hj hce (xor_ne (x := x) e hx0)
      refine sc_skip (nrm_k ?_)
      refine sc_seq ?_
      refine sc_reg ?_
      refine Go.XK.s (v := .string (B ((encR l).1))) (e_move rfl) ?_
      refine s_bytes rfl Try.underlying9 Try.underlying35 Try.underlying5 ?_
      intro b36 cp36 w3 hB36 he36 hx36
      have ge_b36 : w.heap.size ≤ b36 := by have h_ := (Below.size xw_w2); omega
      have xw_w3 : Ext w w3 := Ext.tr xw_w2 hx36
      refine Go.XK.s (v := .slice (some ⟨b36, 0, none⟩) (((encR l).1).length) cp36) (e_assign rfl) ?_
      refine sl_nil (nrm_k ?_)
      refine sc_seq ?_
      refine sc_reg ?_
      refine Go.XK.s (v := .slice (some ⟨b36, 0, none⟩) (((encR l).1).length) cp36) (e_move rfl) ?_
      refine Go.XK.s (v := .int .u8 k.toNat) (e_move rfl) ?_
      refine Go.XK.s (v := .int .u8 ((k % 32).toNat)) (e_brem (a := k) (b := 32) rfl rfl (by decide)) ?_
      refine Go.XK.s (v := .pointer (some ⟨b36, (k % 32).toNat, none⟩)) (e_idxBlk1 Try.underlying35 Try.sizeOf5 rfl rfl ((k % 32).toNat) (by rfl) (by omega)) ?_
      refine Go.XK.s (v := .int .u8 e.toNat) (e_ldByte ((k % 32).toNat) e rfl hB36 hce Try.isAgg5) ?_
      refine Go.XK.s (v := .int .u8 x.toNat) (e_move rfl) ?_
      refine Go.XK.s (v := .int .u8 ((e ^^^ x).toNat)) (e_bxor (a := e) (b := x) rfl rfl) ?_
      refine Go.XK.s (v := .pointer (some ⟨b36, (k % 32).toNat, none⟩)) (e_idxBlk1 Try.underlying35 Try.sizeOf5 rfl rfl ((k % 32).toNat) (by rfl) (by omega)) ?_
      refine su_byte ((k % 32).toNat) (e ^^^ x) rfl rfl hB36 (by omega) Try.sizeOf5 ?_
      intro w4 hn_ hm_w4 hs_w4
      replace hB36 := hn_
      clear hn_
      have xw_w4 : Ext w w4 := below_mut xw_w3 (Below.size xw_w3) hm_w4 ge_b36
      refine sl_nil (nrm_k ?_)
      refine sc_seq ?_
      refine sc_reg ?_
      refine Go.XK.s (v := .slice (some ⟨b36, 0, none⟩) (((encR l).1).length) cp36) (e_move rfl) ?_
      refine Go.XK.s (v := .string (B (((encR l).1).set ((k % 32).toNat) (e ^^^ x)))) (e_convBB rfl hB36 (by simp) Try.underlying35 Try.underlying5 Try.underlying9) ?_
      refine sl_call ent13 rfl rfl (decode_c (((encR l).1).set ((k % 32).toNat) (e ^^^ x)) w4) (by decide) ?_
      rintro _ w5 ⟨vsX, eX, oX, rfl, hdecX, hoDX, hw5⟩
      rw [hdk] at hdecX
      obtain ⟨e1_, e2_⟩ := Prod.mk.inj hdecX
      subst e1_ e2_
      obtain ⟨AX, cX, hvsX, hlcX, hcmX, hrX⟩ := Own.shape hoDX (fun _ => rfl)
      subst hvsX
      have xw_w5 : Ext w w5 := Ext.tr xw_w4 hw5
      replace hB36 := hB36.ext hw5
      refine Go.XK.s (v := .tuple #[.slice AX ([] : List Img).length cX, .int .i64 10]) (e_move rfl) ?_
      refine Go.XK.s (v := .slice AX ([] : List Img).length cX) (e_extract (vs := [.slice AX ([] : List Img).length cX, .int .i64 10]) rfl rfl) ?_
      refine Go.XK.s (v := .int .i64 10) (e_extract (vs := [.slice AX ([] : List Img).length cX, .int .i64 10]) rfl rfl) ?_
      refine Go.XK.s (v := .slice AX ([] : List Img).length cX) (e_assign rfl) ?_
      refine Go.XK.s (v := .int .i64 10) (e_assign rfl) ?_
      refine sl_nil (nrm_k ?_)
      refine sc_seq ?_
      refine sc_reg ?_
      refine Go.XK.s (v := .int .i64 10) (e_move rfl) ?_
      refine Go.XK.s (v := .bool (decide ((10 : Int) = 10))) (e_eq rfl rfl) ?_
      refine Go.XK.s (v := .bool (decide ((10 : Int) = 10))) (e_move rfl) ?_
      refine sl_merge 4 57 (.bool ((decide ((10 : Int) = 10)) && (decide ((([] : List Img).length : Int) = 0)))) ?_ ?_
      · refine sl_case (t := 53) rfl (fun g11_2 => ?_) (fun g11_2 => ?_)
        ·
          refine sl_gev (v := .slice AX ([] : List Img).length cX) rfl rfl g11_2 (e_move rfl) rfl (by decide) ?_
          refine sl_gev (v := .int .i64 (([] : List Img).length : Int)) rfl rfl g11_2 (e_len Try.underlying22 rfl) rfl (by decide) ?_
          refine sl_gev (v := .bool (decide ((([] : List Img).length : Int) = 0))) rfl rfl g11_2 (e_eq rfl rfl) rfl (by decide) ?_
          refine Go.XK.s (v := .bool (decide ((([] : List Img).length : Int) = 0))) (e_pickT rfl g11_2 rfl) ?_
          exact sl_nil (fun a ha => ⟨rfl, ha.sub (.cons (by rw [g11_2]; rfl) (sub_self_cons (sub_self_cons (sub_self_cons (sub_self_cons (Sub.refl _) rfl) rfl) rfl) rfl))⟩)
        ·
          refine sl_gskip rfl rfl g11_2 (by decide) ?_
          refine sl_gskip rfl rfl g11_2 (by decide) ?_
          refine sl_gskip rfl rfl g11_2 (by decide) ?_
          refine Go.XK.s (v := .bool false) (e_pickF rfl g11_2 rfl) ?_
          exact sl_nil (fun a ha => ⟨rfl, ha.sub (.cons (by rw [g11_2]; rfl) (sub_self_cons (sub_self_cons (sub_self_cons (sub_self_cons (Sub.refl _) rfl) rfl) rfl) rfl))⟩)
      refine Go.XK.s (v := .bool ((decide ((10 : Int) = 10)) && (decide ((([] : List Img).length : Int) = 0)))) (e_assign rfl) ?_
      refine sl_nil (nrm_k ?_)
      refine sc_retf rfl (ret1 Try.results7 (rvt rfl) ?_)
      exact ⟨rfl, xw_w5⟩

theorem key_i (l : List Img) (A : Option Addr) (c : Nat) (k x : Int) (w : World) (hl : Rd w A 6 Img.enc l) (hlc : l.length ≤ c) (hk : 0 ≤ k ∧ k ≤ 255) (hx : 0 ≤ x ∧ x ≤ 255) : CallR Try.prog 7 [.slice A l.length c, .int .u8 k, .int .u8 x] w (fun v w' => v = .bool true ∧ Ext w w') := by
  have h := key_c l A c (u8of k) (u8of x) w hl hlc
  rwa [show ((u8of k).toNat : Int) = k from by rw [u8of_toNat]; omega, show ((u8of x).toNat : Int) = x from by rw [u8of_toNat]; omega] at h

/-- masterdisc/masterdisclaw27.EltoritoCut (function 9) -/
theorem cut_c (l : List Img) (A : Option Addr) (c : Nat) (n : Int) (w : World) (hl : Rd w A 6 Img.enc l) (hlc : l.length ≤ c) (hn : 0 ≤ n ∧ n ≤ 65535) : CallR Try.prog 9 [.slice A l.length c, .int .u16 n] w (fun v w' => v = .bool true ∧ Ext w w') := by
  refine callR_of (n := 89) [(0, .slice A l.length c), (1, .int .u16 n)] Try.func9 rfl rfl (Nat.le_of_ble_eq_true rfl) rfl ?_
  refine sc_seq ?_
  refine sc_reg ?_
  refine Go.XK.s (v := .bool false) (e_assign rfl) ?_
  refine sl_nil (nrm_k ?_)
  refine sc_seq ?_
  refine sc_seq ?_
  refine sc_reg ?_
  refine sl_call ent10 rfl rfl (awake_c w) (by decide) ?_
  rintro _ w1 ⟨rfl, hw1⟩
  have xw_w1 : Ext w w1 := Ext.tr (Ext.rfl' w) hw1
  refine Go.XK.s (v := .bool false) (e_not (b := true) rfl) ?_
  refine sl_nil (nrm_k ?_)
  refine sc_no rfl rfl ?_
  refine sc_skip (nrm_k ?_)
  refine sc_seq ?_
  refine sc_seq ?_
  refine sc_reg ?_
  refine Go.XK.s (v := .slice A l.length c) (e_move rfl) ?_
  refine Go.XK.s (v := .int .i64 (l.length : Int)) (e_len Try.underlying22 rfl) ?_
  refine Go.XK.s (v := .bool (decide ((40 : Int) < (l.length : Int)))) (e_gt rfl rfl) ?_
  refine sl_nil (nrm_k ?_)
  refine sc_ifd rfl (fun c16 => ?_) (fun c16 => ?_)
  ·
    refine sc_seq ?_
    refine sc_reg ?_
    refine Go.XK.s (v := .bool true) (e_assign rfl) ?_
    refine sl_nil (nrm_k ?_)
    refine sc_retf rfl (ret1 Try.results9 (rvt rfl) ?_)
    exact ⟨rfl, xw_w1⟩
  ·
    refine sc_skip (nrm_k ?_)
    refine sc_seq ?_
    refine sc_reg ?_
    refine Go.XK.s (v := .slice A l.length c) (e_move rfl) ?_
    refine sl_call ent11 rfl rfl (encode_c l _ _ w1 (hl.ext xw_w1) hlc) (by decide) ?_
    rintro _ w2 ⟨rfl, hw2⟩
    have xw_w2 : Ext w w2 := Ext.tr xw_w1 hw2
    refine Go.XK.s (v := .tuple #[.string (B ((encR l).1)), .int .i64 ((encR l).2)]) (e_move rfl) ?_
    refine Go.XK.s (v := .string (B ((encR l).1))) (e_extract (vs := [.string (B ((encR l).1)), .int .i64 ((encR l).2)]) rfl rfl) ?_
    refine Go.XK.s (v := .int .i64 ((encR l).2)) (e_extract (vs := [.string (B ((encR l).1)), .int .i64 ((encR l).2)]) rfl rfl) ?_
    refine Go.XK.s (v := .string (B ((encR l).1))) (e_assign rfl) ?_
    refine Go.XK.s (v := .int .i64 ((encR l).2)) (e_assign rfl) ?_
    refine sl_nil (nrm_k ?_)
    refine sc_seq ?_
    refine sc_seq ?_
    refine sc_reg ?_
    refine Go.XK.s (v := .int .i64 ((encR l).2)) (e_move rfl) ?_
    refine Go.XK.s (v := .bool (decide ((encR l).2 ≠ 0))) (e_ne rfl rfl) ?_
    refine Go.XK.s (v := .bool (decide ((encR l).2 ≠ 0))) (e_move rfl) ?_
    refine sl_merge 4 28 (.bool ((decide ((encR l).2 ≠ 0)) || (decide ((((encR l).1).length : Int) ≠ 2048)))) ?_ ?_
    · refine sl_case (t := 24) rfl (fun g6_2 => ?_) (fun g6_2 => ?_)
      ·
        refine sl_gskip rfl rfl g6_2 (by decide) ?_
        refine sl_gskip rfl rfl g6_2 (by decide) ?_
        refine sl_gskip rfl rfl g6_2 (by decide) ?_
        refine Go.XK.s (v := .bool true) (e_pickT rfl g6_2 rfl) ?_
        exact sl_nil (fun a ha => ⟨rfl, ha.sub (.cons (by rw [g6_2]; rfl) (sub_self_cons (sub_self_cons (sub_self_cons (sub_self_cons (Sub.refl _) rfl) rfl) rfl) rfl))⟩)
      ·
        refine sl_gev (v := .string (B ((encR l).1))) rfl rfl g6_2 (e_move rfl) rfl (by decide) ?_
        refine sl_gev (v := .int .i64 (((encR l).1).length : Int)) rfl rfl g6_2 (e_slen Try.underlying9 rfl) rfl (by decide) ?_
        refine sl_gev (v := .bool (decide ((((encR l).1).length : Int) ≠ 2048))) rfl rfl g6_2 (e_ne rfl rfl) rfl (by decide) ?_
        refine Go.XK.s (v := .bool (decide ((((encR l).1).length : Int) ≠ 2048))) (e_pickF rfl g6_2 rfl) ?_
        exact sl_nil (fun a ha => ⟨rfl, ha.sub (.cons (by rw [g6_2]; rfl) (sub_self_cons (sub_self_cons (sub_self_cons (sub_self_cons (Sub.refl _) rfl) rfl) rfl) rfl))⟩)
    refine Go.XK.s (v := .bool ((decide ((encR l).2 ≠ 0)) || (decide ((((encR l).1).length : Int) ≠ 2048)))) (e_move rfl) ?_
    refine sl_merge 4 33 (.bool (((decide ((encR l).2 ≠ 0)) || (decide ((((encR l).1).length : Int) ≠ 2048))) || (decide ((l.length : Int) < 2)))) ?_ ?_
    · refine sl_case (t := 29) rfl (fun g6_7 => ?_) (fun g6_7 => ?_)
      ·
        refine sl_gskip rfl rfl g6_7 (by decide) ?_
        refine sl_gskip rfl rfl g6_7 (by decide) ?_
        refine sl_gskip rfl rfl g6_7 (by decide) ?_
        refine Go.XK.s (v := .bool true) (e_pickT rfl g6_7 rfl) ?_
        exact sl_nil (fun a ha => ⟨rfl, ha.sub (.cons (by rw [g6_7]; rfl) (sub_self_cons (sub_self_cons (sub_self_cons (sub_self_cons (Sub.refl _) rfl) rfl) rfl) rfl))⟩)
      ·
        refine sl_gev (v := .slice A l.length c) rfl rfl g6_7 (e_move rfl) rfl (by decide) ?_
        refine sl_gev (v := .int .i64 (l.length : Int)) rfl rfl g6_7 (e_len Try.underlying22 rfl) rfl (by decide) ?_
        refine sl_gev (v := .bool (decide ((l.length : Int) < 2))) rfl rfl g6_7 (e_lt rfl rfl) rfl (by decide) ?_
        refine Go.XK.s (v := .bool (decide ((l.length : Int) < 2))) (e_pickF rfl g6_7 rfl) ?_
        exact sl_nil (fun a ha => ⟨rfl, ha.sub (.cons (by rw [g6_7]; rfl) (sub_self_cons (sub_self_cons (sub_self_cons (sub_self_cons (Sub.refl _) rfl) rfl) rfl) rfl))⟩)
    refine sl_nil (nrm_k ?_)
    refine sc_if rfl (fun c33 => ?_) (fun c33 => ?_)
    ·
      refine sc_seq ?_
      refine sc_reg ?_
      refine Go.XK.s (v := .bool true) (e_assign rfl) ?_
      refine sl_nil (nrm_k ?_)
      refine sc_retf rfl (ret1 Try.results9 (rvt rfl) ?_)
      exact ⟨rfl, xw_w2⟩
    ·
      have hq : (encR l).2 = 0 ∧ 2 ≤ l.length := by
        simp at c33
        omega
      have he0 := hq.1
      have hSl := enc_length he0
      have hll := enc_ok he0
      refine sc_skip (nrm_k ?_)
      refine sc_seq ?_
      refine sc_reg ?_
      refine Go.XK.s (v := .slice A l.length c) (e_move rfl) ?_
      refine Go.XK.s (v := .int .i64 (l.length : Int)) (e_len Try.underlying22 rfl) ?_
      refine Go.XK.s (v := .int .i64 ((l.length : Int) - 1)) (e_sub rfl rfl (by omega)) ?_
      refine Go.XK.s (v := .int .i64 ((64 : Int) * ((l.length : Int) - 1))) (e_mul rfl rfl (by omega)) ?_
      refine Go.XK.s (v := .int .i64 ((64 : Int) * ((l.length : Int) - 1))) (e_assign rfl) ?_
      refine sl_nil (nrm_k ?_)
      refine sc_seq ?_
      refine sc_reg ?_
      refine Go.XK.s (v := .string (B ((encR l).1))) (e_move rfl) ?_
      refine s_bytes rfl Try.underlying9 Try.underlying35 Try.underlying5 ?_
      intro b39 cp39 w3 hB39 he39 hx39
      have ge_b39 : w.heap.size ≤ b39 := by have h_ := (Below.size xw_w2); omega
      have xw_w3 : Ext w w3 := Ext.tr xw_w2 hx39
      refine Go.XK.s (v := .slice (some ⟨b39, 0, none⟩) (((encR l).1).length) cp39) (e_assign rfl) ?_
      refine sl_nil (nrm_k ?_)
      refine sc_seq ?_
      refine sc_reg ?_
      refine Go.XK.s (v := .slice (some ⟨b39, 0, none⟩) (((encR l).1).length) cp39) (e_move rfl) ?_
      refine Go.XK.s (v := .int .i64 ((64 : Int) * ((l.length : Int) - 1))) (e_move rfl) ?_
      refine Go.XK.s (v := .pointer (some ⟨b39, 64 * (l.length - 1), none⟩)) (e_idxBlk1 Try.underlying35 Try.sizeOf5 rfl rfl (64 * (l.length - 1)) (by omega) (by omega)) ?_
      refine su_byte (64 * (l.length - 1)) (144 : UInt8) rfl rfl hB39 (by omega) Try.sizeOf5 ?_
      intro w4 hn_ hm_w4 hs_w4
      replace hB39 := hn_
      clear hn_
      have xw_w4 : Ext w w4 := below_mut xw_w3 (Below.size xw_w3) hm_w4 ge_b39
      refine sl_nil (nrm_k ?_)
      refine sc_seq ?_
      refine sc_reg ?_
      refine Go.XK.s (v := .slice (some ⟨b39, 0, none⟩) (((encR l).1).length) cp39) (e_move rfl) ?_
      refine Go.XK.s (v := .string (B (((encR l).1).set (64 * (l.length - 1)) 144))) (e_convBB rfl hB39 (by simp) Try.underlying35 Try.underlying5 Try.underlying9) ?_
      refine sl_call ent13 rfl rfl (decode_c (((encR l).1).set (64 * (l.length - 1)) 144) w4) (by decide) ?_
      rintro _ w5 ⟨vsX, eX, oX, rfl, hdecX, hoDX, hw5⟩
      rw [dec_cut1 he0 hq.2] at hdecX
      obtain ⟨e1_, e2_⟩ := Prod.mk.inj hdecX
      subst e1_ e2_
      obtain ⟨AX, cX, hvsX, hlcX, hcmX, hrX⟩ := Own.shape hoDX (fun _ => rfl)
      subst hvsX
      have xw_w5 : Ext w w5 := Ext.tr xw_w4 hw5
      replace hB39 := hB39.ext hw5
      refine Go.XK.s (v := .tuple #[.slice AX ([] : List Img).length cX, .int .i64 10]) (e_move rfl) ?_
      refine Go.XK.s (v := .slice AX ([] : List Img).length cX) (e_extract (vs := [.slice AX ([] : List Img).length cX, .int .i64 10]) rfl rfl) ?_
      refine Go.XK.s (v := .int .i64 10) (e_extract (vs := [.slice AX ([] : List Img).length cX, .int .i64 10]) rfl rfl) ?_
      refine Go.XK.s (v := .slice AX ([] : List Img).length cX) (e_assign rfl) ?_
      refine Go.XK.s (v := .int .i64 10) (e_assign rfl) ?_
      refine sl_nil (nrm_k ?_)
      refine sc_seq ?_
      refine sc_seq ?_
      refine sc_reg ?_
      refine Go.XK.s (v := .int .i64 10) (e_move rfl) ?_
      refine Go.XK.s (v := .bool (decide ((10 : Int) ≠ 10))) (e_ne rfl rfl) ?_
      refine Go.XK.s (v := .bool (decide ((10 : Int) ≠ 10))) (e_move rfl) ?_
      refine sl_merge 4 55 (.bool ((decide ((10 : Int) ≠ 10)) || (decide ((0 : Int) < (([] : List Img).length : Int))))) ?_ ?_
      · refine sl_case (t := 51) rfl (fun g12_2 => ?_) (fun g12_2 => ?_)
        ·
          refine sl_gskip rfl rfl g12_2 (by decide) ?_
          refine sl_gskip rfl rfl g12_2 (by decide) ?_
          refine sl_gskip rfl rfl g12_2 (by decide) ?_
          refine Go.XK.s (v := .bool true) (e_pickT rfl g12_2 rfl) ?_
          exact sl_nil (fun a ha => ⟨rfl, ha.sub (.cons (by rw [g12_2]; rfl) (sub_self_cons (sub_self_cons (sub_self_cons (sub_self_cons (Sub.refl _) rfl) rfl) rfl) rfl))⟩)
        ·
          refine sl_gev (v := .slice AX ([] : List Img).length cX) rfl rfl g12_2 (e_move rfl) rfl (by decide) ?_
          refine sl_gev (v := .int .i64 (([] : List Img).length : Int)) rfl rfl g12_2 (e_len Try.underlying22 rfl) rfl (by decide) ?_
          refine sl_gev (v := .bool (decide ((0 : Int) < (([] : List Img).length : Int)))) rfl rfl g12_2 (e_gt rfl rfl) rfl (by decide) ?_
          refine Go.XK.s (v := .bool (decide ((0 : Int) < (([] : List Img).length : Int)))) (e_pickF rfl g12_2 rfl) ?_
          exact sl_nil (fun a ha => ⟨rfl, ha.sub (.cons (by rw [g12_2]; rfl) (sub_self_cons (sub_self_cons (sub_self_cons (sub_self_cons (Sub.refl _) rfl) rfl) rfl) rfl))⟩)
      refine sl_nil (nrm_k ?_)
      refine sc_no rfl (by simp) ?_
      refine sc_skip (nrm_k ?_)
      refine sc_seq ?_
      refine sc_reg ?_
      refine Go.XK.s (v := .int .u16 n) (e_move rfl) ?_
      refine Go.XK.s (v := .int .i64 n) (e_conv Try.underlying38 Try.underlying3 rfl (i64_id (by omega) (by omega))) ?_
      refine Go.XK.s (v := .int .i64 (n % 1000)) (e_rem rfl rfl (by omega) (by omega)) ?_
      refine Go.XK.s (v := .int .i64 ((n % 1000) + 64)) (e_add rfl rfl (by omega)) ?_
      refine Go.XK.s (v := .int .i64 ((n % 1000) + 64)) (e_assign rfl) ?_
      refine sl_nil (nrm_k ?_)
      refine sc_seq ?_
      refine sc_reg ?_
      refine Go.XK.s (v := .slice (some ⟨b39, 0, none⟩) (((encR l).1).length) cp39) (e_move rfl) ?_
      refine Go.XK.s (v := .int .i64 ((64 : Int) * ((l.length : Int) - 1))) (e_move rfl) ?_
      refine Go.XK.s (v := .slice (some ⟨b39, 0, none⟩) (((encR l).1).length) cp39) (e_move rfl) ?_
      refine Go.XK.s (v := .int .i64 ((64 : Int) * ((l.length : Int) - 1))) (e_move rfl) ?_
      refine Go.XK.s (v := .int .i64 (((64 : Int) * ((l.length : Int) - 1)) + 2)) (e_add rfl rfl (by omega)) ?_
      refine Go.XK.s (v := .slice (some ⟨b39, 0, none⟩) (((encR l).1).length) cp39) (e_move rfl) ?_
      refine Go.XK.s (v := .int .i64 ((64 : Int) * ((l.length : Int) - 1))) (e_move rfl) ?_
      refine Go.XK.s (v := .int .i64 (((64 : Int) * ((l.length : Int) - 1)) + 3)) (e_add rfl rfl (by omega)) ?_
      refine Go.XK.s (v := .int .i64 ((n % 1000) + 64)) (e_move rfl) ?_
      refine Go.XK.s (v := .int .u8 ((u8of ((n % 1000) + 64)).toNat)) (e_intu8 Try.underlying3 Try.underlying5 rfl) ?_
      refine Go.XK.s (v := .int .i64 ((n % 1000) + 64)) (e_move rfl) ?_
      refine Go.XK.s (v := .int .i64 ((n % 1000 + 64) / 256 ^ 1)) (e_shr8 1 (by decide) rfl rfl) ?_
      refine Go.XK.s (v := .int .u8 ((u8of ((n % 1000 + 64) / 256 ^ 1)).toNat)) (e_intu8 Try.underlying3 Try.underlying5 rfl) ?_
      refine Go.XK.s (v := .pointer (some ⟨b39, 64 * (l.length - 1), none⟩)) (e_idxBlk1 Try.underlying35 Try.sizeOf5 rfl rfl (64 * (l.length - 1)) (by omega) (by omega)) ?_
      refine su_byte (64 * (l.length - 1)) (145 : UInt8) rfl rfl hB39 (by simp; omega) Try.sizeOf5 ?_
      intro w6 hn_ hm_w6 hs_w6
      replace hB39 := hn_
      clear hn_
      have xw_w6 : Ext w w6 := below_mut xw_w5 (Below.size xw_w5) hm_w6 ge_b39
      refine Go.XK.s (v := .pointer (some ⟨b39, 64 * (l.length - 1) + 2, none⟩)) (e_idxBlk1 Try.underlying35 Try.sizeOf5 rfl rfl (64 * (l.length - 1) + 2) (by omega) (by omega)) ?_
      refine su_byte (64 * (l.length - 1) + 2) (u8of ((n % 1000) + 64)) rfl rfl hB39 (by simp; omega) Try.sizeOf5 ?_
      intro w7 hn_ hm_w7 hs_w7
      replace hB39 := hn_
      clear hn_
      have xw_w7 : Ext w w7 := below_mut xw_w6 (Below.size xw_w6) hm_w7 ge_b39
      refine Go.XK.s (v := .pointer (some ⟨b39, 64 * (l.length - 1) + 3, none⟩)) (e_idxBlk1 Try.underlying35 Try.sizeOf5 rfl rfl (64 * (l.length - 1) + 3) (by omega) (by omega)) ?_
      refine su_byte (64 * (l.length - 1) + 3) (u8of ((n % 1000 + 64) / 256 ^ 1)) rfl rfl hB39 (by simp; omega) Try.sizeOf5 ?_
      intro w8 hn_ hm_w8 hs_w8
      replace hB39 := hn_
      clear hn_
      have xw_w8 : Ext w w8 := below_mut xw_w7 (Below.size xw_w7) hm_w8 ge_b39
      refine sl_nil (nrm_k ?_)
      refine sc_seq ?_
      refine sc_reg ?_
      refine Go.XK.s (v := .slice (some ⟨b39, 0, none⟩) (((encR l).1).length) cp39) (e_move rfl) ?_
      refine Go.XK.s (v := .string (B ((((((encR l).1).set (64 * (l.length - 1)) 144).set (64 * (l.length - 1)) 145).set (64 * (l.length - 1) + 2) (u8of ((n % 1000) + 64))).set (64 * (l.length - 1) + 3) (u8of ((n % 1000 + 64) / 256 ^ 1))))) (e_convBB rfl hB39 (by simp) Try.underlying35 Try.underlying5 Try.underlying9) ?_
      refine sl_call ent13 rfl rfl (decode_c ((((((encR l).1).set (64 * (l.length - 1)) 144).set (64 * (l.length - 1)) 145).set (64 * (l.length - 1) + 2) (u8of ((n % 1000) + 64))).set (64 * (l.length - 1) + 3) (u8of ((n % 1000 + 64) / 256 ^ 1))) w8) (by decide) ?_
      rintro _ w9 ⟨vsY, eY, oY, rfl, hdecY, hoDY, hw9⟩
      rw [show (256 : Int) ^ 1 = 256 from rfl, dec_cut2 (n := n % 1000 + 64) he0 hq.2 (by omega)] at hdecY
      obtain ⟨e1_, e2_⟩ := Prod.mk.inj hdecY
      subst e1_ e2_
      obtain ⟨AY, cY, hvsY, hlcY, hcmY, hrY⟩ := Own.shape hoDY (fun _ => rfl)
      subst hvsY
      have xw_w9 : Ext w w9 := Ext.tr xw_w8 hw9
      replace hB39 := hB39.ext hw9
      refine Go.XK.s (v := .tuple #[.slice AY ([] : List Img).length cY, .int .i64 10]) (e_move rfl) ?_
      refine Go.XK.s (v := .slice AY ([] : List Img).length cY) (e_extract (vs := [.slice AY ([] : List Img).length cY, .int .i64 10]) rfl rfl) ?_
      refine Go.XK.s (v := .int .i64 10) (e_extract (vs := [.slice AY ([] : List Img).length cY, .int .i64 10]) rfl rfl) ?_
      refine Go.XK.s (v := .slice AY ([] : List Img).length cY) (e_assign rfl) ?_
      refine Go.XK.s (v := .int .i64 10) (e_assign rfl) ?_
      refine sl_nil (nrm_k ?_)
      refine sc_seq ?_
      refine sc_reg ?_
      refine Go.XK.s (v := .int .i64 10) (e_move rfl) ?_
      refine Go.XK.s (v := .bool (decide ((10 : Int) = 10))) (e_eq rfl rfl) ?_
      refine Go.XK.s (v := .bool (decide ((10 : Int) = 10))) (e_move rfl) ?_
      refine sl_merge 4 88 (.bool ((decide ((10 : Int) = 10)) && (decide ((([] : List Img).length : Int) = 0)))) ?_ ?_
      · refine sl_case (t := 84) rfl (fun g17_2 => ?_) (fun g17_2 => ?_)
        ·
          refine sl_gev (v := .slice AY ([] : List Img).length cY) rfl rfl g17_2 (e_move rfl) rfl (by decide) ?_
          refine sl_gev (v := .int .i64 (([] : List Img).length : Int)) rfl rfl g17_2 (e_len Try.underlying22 rfl) rfl (by decide) ?_
          refine sl_gev (v := .bool (decide ((([] : List Img).length : Int) = 0))) rfl rfl g17_2 (e_eq rfl rfl) rfl (by decide) ?_
          refine Go.XK.s (v := .bool (decide ((([] : List Img).length : Int) = 0))) (e_pickT rfl g17_2 rfl) ?_
          exact sl_nil (fun a ha => ⟨rfl, ha.sub (.cons (by rw [g17_2]; rfl) (sub_self_cons (sub_self_cons (sub_self_cons (sub_self_cons (Sub.refl _) rfl) rfl) rfl) rfl))⟩)
        ·
          refine sl_gskip rfl rfl g17_2 (by decide) ?_
          refine sl_gskip rfl rfl g17_2 (by decide) ?_
          refine sl_gskip rfl rfl g17_2 (by decide) ?_
          refine Go.XK.s (v := .bool false) (e_pickF rfl g17_2 rfl) ?_
          exact sl_nil (fun a ha => ⟨rfl, ha.sub (.cons (by rw [g17_2]; rfl) (sub_self_cons (sub_self_cons (sub_self_cons (sub_self_cons (Sub.refl _) rfl) rfl) rfl) rfl))⟩)
      refine Go.XK.s (v := .bool ((decide ((10 : Int) = 10)) && (decide ((([] : List Img).length : Int) = 0)))) (e_assign rfl) ?_
      refine sl_nil (nrm_k ?_)
      refine sc_retf rfl (ret1 Try.results9 (rvt rfl) ?_)
      exact ⟨rfl, xw_w9⟩

end Go.Proofs.Ytlgkjpmaekkpjaa
