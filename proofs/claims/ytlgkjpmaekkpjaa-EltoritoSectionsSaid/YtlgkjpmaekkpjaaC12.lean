/- Chapter 27: C12. Printed by my program wip/tools/wk.py. -/
import Derived.Test.YtlgkjpmaekkpjaaC11
import Derived.Test.YtlgkjpmaekkpjaaMath8
set_option linter.unusedVariables false
set_option linter.unusedSimpArgs false
set_option maxRecDepth 4000
set_option maxHeartbeats 1000000
namespace Go.Proofs.Ytlgkjpmaekkpjaa
open Go.XK Go.RowKit
/-- masterdisc/masterdisclaw27.EltoritoIgnored (function 8) -/
theorem ignored_c (l : List Img) (A : Option Addr) (c : Nat) (n : Int) (x : UInt8) (w : World) (hl : Rd w A 6 Img.enc l) (hlc : l.length ≤ c) (hn : 0 ≤ n ∧ n ≤ 65535) : CallR Try.prog 8 [.slice A l.length c, .int .u16 n, .int .u8 x.toNat] w (fun v w' => v = .bool true ∧ Ext w w') := by
  refine callR_of (n := 101) [(0, .slice A l.length c), (1, .int .u16 n), (2, .int .u8 x.toNat)] Try.func8 rfl rfl (Nat.le_of_ble_eq_true rfl) rfl ?_
  refine sc_seq ?_
  refine sc_reg ?_
  refine Go.XK.s (v := .bool false) (e_assign rfl) ?_
  refine sl_nil (nrm_k ?_)
  refine sc_seq ?_
  refine sc_seq ?_
  refine sc_reg ?_
  refine sl_call ent10 rfl rfl (awake_c w) (by decide) ?_
  rintro _ w1 ⟨rfl, hw1⟩
  have xw_w1 : Ext w w1 := Ext.tr (Ext.rfl' w) hw1
  refine Go.XK.s (v := .bool false) (e_not (b := true) rfl) ?_
  refine sl_nil (nrm_k ?_)
  refine sc_no rfl rfl ?_
  refine sc_skip (nrm_k ?_)
  refine sc_seq ?_
  refine sc_seq ?_
  refine sc_reg ?_
  refine Go.XK.s (v := .slice A l.length c) (e_move rfl) ?_
  refine Go.XK.s (v := .int .i64 (l.length : Int)) (e_len Try.underlying22 rfl) ?_
  refine Go.XK.s (v := .bool (decide ((30 : Int) < (l.length : Int)))) (e_gt rfl rfl) ?_
  refine sl_nil (nrm_k ?_)
  refine sc_ifd rfl (fun c20 => ?_) (fun c20 => ?_)
  ·
    refine sc_seq ?_
    refine sc_reg ?_
    refine Go.XK.s (v := .bool true) (e_assign rfl) ?_
    refine sl_nil (nrm_k ?_)
    refine sc_retf rfl (ret1 Try.results8 (rvt rfl) ?_)
    exact ⟨rfl, xw_w1⟩
  ·
    refine sc_skip (nrm_k ?_)
    refine sc_seq ?_
    refine sc_reg ?_
    refine Go.XK.s (v := .slice A l.length c) (e_move rfl) ?_
    refine sl_call ent11 rfl rfl (encode_c l _ _ w1 (hl.ext xw_w1) hlc) (by decide) ?_
    rintro _ w2 ⟨rfl, hw2⟩
    have xw_w2 : Ext w w2 := Ext.tr xw_w1 hw2
    refine Go.XK.s (v := .tuple #[.string (B ((encR l).1)), .int .i64 ((encR l).2)]) (e_move rfl) ?_
    refine Go.XK.s (v := .string (B ((encR l).1))) (e_extract (vs := [.string (B ((encR l).1)), .int .i64 ((encR l).2)]) rfl rfl) ?_
    refine Go.XK.s (v := .int .i64 ((encR l).2)) (e_extract (vs := [.string (B ((encR l).1)), .int .i64 ((encR l).2)]) rfl rfl) ?_
    refine Go.XK.s (v := .string (B ((encR l).1))) (e_assign rfl) ?_
    refine Go.XK.s (v := .int .i64 ((encR l).2)) (e_assign rfl) ?_
    refine sl_nil (nrm_k ?_)
    refine sc_seq ?_
    refine sc_seq ?_
    refine sc_reg ?_
    refine Go.XK.s (v := .int .i64 ((encR l).2)) (e_move rfl) ?_
    refine Go.XK.s (v := .bool (decide ((encR l).2 ≠ 0))) (e_ne rfl rfl) ?_
    refine Go.XK.s (v := .bool (decide ((encR l).2 ≠ 0))) (e_move rfl) ?_
    refine sl_merge 4 32 (.bool ((decide ((encR l).2 ≠ 0)) || (decide ((((encR l).1).length : Int) ≠ 2048)))) ?_ ?_
    · refine sl_case (t := 28) rfl (fun g6_2 => ?_) (fun g6_2 => ?_)
      ·
        refine sl_gskip rfl rfl g6_2 (by decide) ?_
        refine sl_gskip rfl rfl g6_2 (by decide) ?_
        refine sl_gskip rfl rfl g6_2 (by decide) ?_
        refine Go.XK.s (v := .bool true) (e_pickT rfl g6_2 rfl) ?_
        exact sl_nil (fun a ha => ⟨rfl, ha.sub (.cons (by rw [g6_2]; rfl) (sub_self_cons (sub_self_cons (sub_self_cons (sub_self_cons (Sub.refl _) rfl) rfl) rfl) rfl))⟩)
      ·
        refine sl_gev (v := .string (B ((encR l).1))) rfl rfl g6_2 (e_move rfl) rfl (by decide) ?_
        refine sl_gev (v := .int .i64 (((encR l).1).length : Int)) rfl rfl g6_2 (e_slen Try.underlying9 rfl) rfl (by decide) ?_
        refine sl_gev (v := .bool (decide ((((encR l).1).length : Int) ≠ 2048))) rfl rfl g6_2 (e_ne rfl rfl) rfl (by decide) ?_
        refine Go.XK.s (v := .bool (decide ((((encR l).1).length : Int) ≠ 2048))) (e_pickF rfl g6_2 rfl) ?_
        exact sl_nil (fun a ha => ⟨rfl, ha.sub (.cons (by rw [g6_2]; rfl) (sub_self_cons (sub_self_cons (sub_self_cons (sub_self_cons (Sub.refl _) rfl) rfl) rfl) rfl))⟩)
    refine sl_nil (nrm_k ?_)
    refine sc_if rfl (fun c32 => ?_) (fun c32 => ?_)
    ·
      refine sc_seq ?_
      refine sc_reg ?_
      refine Go.XK.s (v := .int .i64 ((encR l).2)) (e_move rfl) ?_
      refine Go.XK.s (v := .bool (decide ((encR l).2 ≠ 0))) (e_ne rfl rfl) ?_
      refine Go.XK.s (v := .bool (decide ((encR l).2 ≠ 0))) (e_assign rfl) ?_
      refine sl_nil (nrm_k ?_)
      refine sc_retf rfl (ret1 Try.results8 (rvt rfl) ?_)
      exact ⟨congrArg Value.bool (by
        have hne : (encR l).2 ≠ 0 := fun h_ => by rw [h_, enc_length h_] at c32; simp at c32
        exact decide_eq_true hne), xw_w2⟩
    ·
      have he0 : (encR l).2 = 0 := by
        simp at c32
        exact c32.1
      have hSl := enc_length he0
      have hll := enc_ok he0
      obtain ⟨i, hi⟩ : ∃ i : Int, i = 32 + n % 2016 := ⟨_, rfl⟩
      have hib : 32 ≤ i ∧ i < 2048 := by omega
      obtain ⟨e, he⟩ : ∃ e : Nat, (i / 32 : Int) = e := ⟨(i / 32).toNat, by omega⟩
      obtain ⟨j, hj⟩ : ∃ j : Nat, (i % 32 : Int) = j := ⟨(i % 32).toNat, by omega⟩
      have hij : i = ((32 * e + j : Nat) : Int) := by omega
      obtain ⟨cc, hcc⟩ : ∃ cc, (encR l).1[32 * e + j]? = some cc := ⟨_, List.getElem?_eq_getElem (by omega)⟩
      refine sc_skip (nrm_k ?_)
      refine sc_seq ?_
      refine sc_reg ?_
      refine Go.XK.s (v := .int .u16 n) (e_move rfl) ?_
      refine Go.XK.s (v := .int .i64 n) (e_conv Try.underlying38 Try.underlying3 rfl (i64_id (by omega) (by omega))) ?_
      refine Go.XK.s (v := .int .i64 (n % 2016)) (e_rem rfl rfl (by omega) (by omega)) ?_
      refine Go.XK.s (v := .int .i64 i) (hi ▸ e_add rfl rfl (by omega)) ?_
      refine Go.XK.s (v := .int .i64 i) (e_assign rfl) ?_
      refine sl_nil (nrm_k ?_)
      refine sc_seq ?_
      refine sc_reg ?_
      refine Go.XK.s (v := .int .i64 i) (e_move rfl) ?_
      refine Go.XK.s (v := .int .i64 (e : Int)) (he ▸ e_quo rfl rfl (by omega) (by omega) (by omega)) ?_
      refine Go.XK.s (v := .int .i64 i) (e_move rfl) ?_
      refine Go.XK.s (v := .int .i64 (j : Int)) (hj ▸ e_rem rfl rfl (by omega) (by omega)) ?_
      refine Go.XK.s (v := .int .i64 (e : Int)) (e_assign rfl) ?_
      refine Go.XK.s (v := .int .i64 (j : Int)) (e_assign rfl) ?_
      refine sl_nil (nrm_k ?_)
      refine sc_seq ?_
      refine sc_reg ?_
      refine Go.XK.s (v := .int .i64 (j : Int)) (e_move rfl) ?_
      refine Go.XK.s (v := .bool (decide ((j : Int) < 4))) (e_lt rfl rfl) ?_
      refine Go.XK.s (v := .bool (decide ((j : Int) < 4))) (e_move rfl) ?_
      refine sl_merge 7 52 (.bool ((decide ((j : Int) < 4)) || ((decide ((6 : Int) ≤ (j : Int))) && (decide ((j : Int) < 12))))) ?_ ?_
      · refine sl_case (t := 45) rfl (fun g10_2 => ?_) (fun g10_2 => ?_)
        ·
          refine sl_gskip rfl rfl g10_2 (by decide) ?_
          refine sl_gskip rfl rfl g10_2 (by decide) ?_
          refine sl_gskip rfl rfl g10_2 (by decide) ?_
          refine sl_gskipU rfl rfl (by decide) ?_
          refine sl_gskipU rfl rfl (by decide) ?_
          refine sl_gskip rfl rfl g10_2 (by decide) ?_
          refine Go.XK.s (v := .bool true) (e_pickT rfl g10_2 rfl) ?_
          exact sl_nil (fun a ha => ⟨rfl, ha.sub (.cons (by rw [g10_2]; rfl) (sub_self_cons (sub_self_cons (sub_self_cons (sub_self_cons (sub_self_cons (sub_self_cons (sub_self_cons (Sub.refl _) rfl) rfl) rfl) rfl) rfl) rfl) rfl))⟩)
        ·
          refine sl_gev (v := .int .i64 (j : Int)) rfl rfl g10_2 (e_move rfl) rfl (by decide) ?_
          refine sl_gev (v := .bool (decide ((6 : Int) ≤ (j : Int)))) rfl rfl g10_2 (e_ge rfl rfl) rfl (by decide) ?_
          refine sl_gev (v := .bool (decide ((6 : Int) ≤ (j : Int)))) rfl rfl g10_2 (e_move rfl) rfl (by decide) ?_
          refine sl_merge 3 51 (.bool ((decide ((6 : Int) ≤ (j : Int))) && (decide ((j : Int) < 12)))) ?_ ?_
          · refine sl_case (t := 48) rfl (fun g10_5 => ?_) (fun g10_5 => ?_)
            ·
              refine sl_gev (v := .int .i64 (j : Int)) rfl rfl g10_5 (e_move rfl) rfl (by decide) ?_
              refine sl_gev (v := .bool (decide ((j : Int) < 12))) rfl rfl g10_5 (e_lt rfl rfl) rfl (by decide) ?_
              refine sl_gev (v := .bool (decide ((j : Int) < 12))) rfl rfl g10_2 (e_pickT rfl g10_5 rfl) rfl (by decide) ?_
              exact sl_nil (fun a ha => ⟨rfl, ha.sub (.cons (by rw [g10_5]; rfl) (sub_self_cons (sub_self_cons (sub_self_cons (Sub.refl _) rfl) rfl) rfl))⟩)
            ·
              refine sl_gskip rfl rfl g10_5 (by decide) ?_
              refine sl_gskip rfl rfl g10_5 (by decide) ?_
              refine sl_gev (v := .bool false) rfl rfl g10_2 (e_pickF rfl g10_5 rfl) rfl (by decide) ?_
              exact sl_nil (fun a ha => ⟨rfl, ha.sub (.cons (by rw [g10_5]; rfl) (sub_self_cons (sub_self_cons (sub_self_cons (Sub.refl _) rfl) rfl) rfl))⟩)
          refine Go.XK.s (v := .bool ((decide ((6 : Int) ≤ (j : Int))) && (decide ((j : Int) < 12)))) (e_pickF rfl g10_2 rfl) ?_
          exact sl_nil (fun a ha => ⟨rfl, ha.sub (.cons (by rw [g10_2]; rfl) (sub_self_cons (sub_self_cons (sub_self_cons (sub_self_cons (sub_self_cons (Sub.refl _) rfl) rfl) rfl) rfl) rfl))⟩)
      refine Go.XK.s (v := .bool ((decide ((j : Int) < 4)) || ((decide ((6 : Int) ≤ (j : Int))) && (decide ((j : Int) < 12))))) (e_assign rfl) ?_
      refine sl_nil (nrm_k ?_)
      refine sc_seq ?_
      refine sc_seq ?_
      refine sc_reg ?_
      refine Go.XK.s (v := .int .i64 (e : Int)) (e_move rfl) ?_
      refine Go.XK.s (v := .bool (decide ((2 : Int) ≤ (e : Int)))) (e_ge rfl rfl) ?_
      refine Go.XK.s (v := .bool (decide ((2 : Int) ≤ (e : Int)))) (e_move rfl) ?_
      refine sl_merge 4 59 (.bool ((decide ((2 : Int) ≤ (e : Int))) && (decide ((e : Int) % 2 = 0)))) ?_ ?_
      · refine sl_case (t := 55) rfl (fun g11_2 => ?_) (fun g11_2 => ?_)
        ·
          refine sl_gev (v := .int .i64 (e : Int)) rfl rfl g11_2 (e_move rfl) rfl (by decide) ?_
          refine sl_gev (v := .int .i64 ((e : Int) % 2)) rfl rfl g11_2 (e_rem rfl rfl (by omega) (by omega)) rfl (by decide) ?_
          refine sl_gev (v := .bool (decide ((e : Int) % 2 = 0))) rfl rfl g11_2 (e_eq rfl rfl) rfl (by decide) ?_
          refine Go.XK.s (v := .bool (decide ((e : Int) % 2 = 0))) (e_pickT rfl g11_2 rfl) ?_
          exact sl_nil (fun a ha => ⟨rfl, ha.sub (.cons (by rw [g11_2]; rfl) (sub_self_cons (sub_self_cons (sub_self_cons (sub_self_cons (Sub.refl _) rfl) rfl) rfl) rfl))⟩)
        ·
          refine sl_gskip rfl rfl g11_2 (by decide) ?_
          refine sl_gskip rfl rfl g11_2 (by decide) ?_
          refine sl_gskip rfl rfl g11_2 (by decide) ?_
          refine Go.XK.s (v := .bool false) (e_pickF rfl g11_2 rfl) ?_
          exact sl_nil (fun a ha => ⟨rfl, ha.sub (.cons (by rw [g11_2]; rfl) (sub_self_cons (sub_self_cons (sub_self_cons (sub_self_cons (Sub.refl _) rfl) rfl) rfl) rfl))⟩)
      refine sl_nil (nrm_k ?_)
      refine sc_if rfl (fun c59 => ?_) (fun c59 => ?_)
      ·
        refine sc_reg ?_
        refine Go.XK.s (v := .int .i64 (j : Int)) (e_move rfl) ?_
        refine Go.XK.s (v := .bool (decide ((j : Int) < 4))) (e_lt rfl rfl) ?_
        refine Go.XK.s (v := .bool (decide ((j : Int) < 4))) (e_assign rfl) ?_
        refine sl_nil (nrm_k ?_)
        refine sc_seq ?_
        refine sc_seq ?_
        refine sc_reg ?_
        refine Go.XK.s (v := .int .i64 (e : Int)) (e_move rfl) ?_
        refine Go.XK.s (v := .slice A l.length c) (e_move rfl) ?_
        refine Go.XK.s (v := .int .i64 (l.length : Int)) (e_len Try.underlying22 rfl) ?_
        refine Go.XK.s (v := .int .i64 ((2 : Int) * (l.length : Int))) (e_mul rfl rfl (by omega)) ?_
        refine Go.XK.s (v := .bool (decide ((2 : Int) * (l.length : Int) ≤ (e : Int)))) (e_ge rfl rfl) ?_
        refine sl_nil (nrm_k ?_)
        refine sc_ifd rfl (fun c66 => ?_) (fun c66 => ?_)
        ·
          refine sc_reg ?_
          refine Go.XK.s (v := .slice A l.length c) (e_move rfl) ?_
          refine Go.XK.s (v := .int .i64 (l.length : Int)) (e_len Try.underlying22 rfl) ?_
          refine Go.XK.s (v := .bool (decide ((l.length : Int) = 1))) (e_eq rfl rfl) ?_
          refine Go.XK.s (v := .bool (decide ((l.length : Int) = 1))) (e_move rfl) ?_
          refine sl_merge 3 73 (.bool ((decide ((l.length : Int) = 1)) && (decide ((e : Int) = 2)))) ?_ ?_
          · refine sl_case (t := 70) rfl (fun g14_3 => ?_) (fun g14_3 => ?_)
            ·
              refine sl_gev (v := .int .i64 (e : Int)) rfl rfl g14_3 (e_move rfl) rfl (by decide) ?_
              refine sl_gev (v := .bool (decide ((e : Int) = 2))) rfl rfl g14_3 (e_eq rfl rfl) rfl (by decide) ?_
              refine Go.XK.s (v := .bool (decide ((e : Int) = 2))) (e_pickT rfl g14_3 rfl) ?_
              exact sl_nil (fun a ha => ⟨rfl, ha.sub (.cons (by rw [g14_3]; rfl) (sub_self_cons (sub_self_cons (sub_self_cons (Sub.refl _) rfl) rfl) rfl))⟩)
            ·
              refine sl_gskip rfl rfl g14_3 (by decide) ?_
              refine sl_gskip rfl rfl g14_3 (by decide) ?_
              refine Go.XK.s (v := .bool false) (e_pickF rfl g14_3 rfl) ?_
              exact sl_nil (fun a ha => ⟨rfl, ha.sub (.cons (by rw [g14_3]; rfl) (sub_self_cons (sub_self_cons (sub_self_cons (Sub.refl _) rfl) rfl) rfl))⟩)
          refine Go.XK.s (v := .bool ((decide ((l.length : Int) = 1)) && (decide ((e : Int) = 2)))) (e_move rfl) ?_
          refine sl_merge 3 77 (.bool (((decide ((l.length : Int) = 1)) && (decide ((e : Int) = 2))) && (decide ((j : Int) = 0)))) ?_ ?_
          · refine sl_case (t := 74) rfl (fun g14_7 => ?_) (fun g14_7 => ?_)
            ·
              refine sl_gev (v := .int .i64 (j : Int)) rfl rfl g14_7 (e_move rfl) rfl (by decide) ?_
              refine sl_gev (v := .bool (decide ((j : Int) = 0))) rfl rfl g14_7 (e_eq rfl rfl) rfl (by decide) ?_
              refine Go.XK.s (v := .bool (decide ((j : Int) = 0))) (e_pickT rfl g14_7 rfl) ?_
              exact sl_nil (fun a ha => ⟨rfl, ha.sub (.cons (by rw [g14_7]; rfl) (sub_self_cons (sub_self_cons (sub_self_cons (Sub.refl _) rfl) rfl) rfl))⟩)
            ·
              refine sl_gskip rfl rfl g14_7 (by decide) ?_
              refine sl_gskip rfl rfl g14_7 (by decide) ?_
              refine Go.XK.s (v := .bool false) (e_pickF rfl g14_7 rfl) ?_
              exact sl_nil (fun a ha => ⟨rfl, ha.sub (.cons (by rw [g14_7]; rfl) (sub_self_cons (sub_self_cons (sub_self_cons (Sub.refl _) rfl) rfl) rfl))⟩)
          refine Go.XK.s (v := .bool (((decide ((l.length : Int) = 1)) && (decide ((e : Int) = 2))) && (decide ((j : Int) = 0)))) (e_assign rfl) ?_
          refine sl_nil (nrm_k ?_)
          refine sc_seq ?_
          refine sc_seq ?_
          refine sc_reg ?_
          refine Go.XK.s (v := .bool (((decide ((l.length : Int) = 1)) && (decide ((e : Int) = 2))) && (decide ((j : Int) = 0)))) (e_move rfl) ?_
          refine sl_nil (nrm_k ?_)
          refine sc_if rfl (fun c78 => ?_) (fun c78 => ?_)
          ·
            refine sc_seq ?_
            refine sc_reg ?_
            refine Go.XK.s (v := .bool true) (e_assign rfl) ?_
            refine sl_nil (nrm_k ?_)
            refine sc_retf rfl (ret1 Try.results8 (rvt rfl) ?_)
            first | exact ⟨rfl, xw_w2⟩ | exact ⟨by simp, xw_w2⟩
          ·
            have hdi : decR ((encR l).1.set (32 * e + j) (cc ^^^ x)) = (l, 0) := dec_ign he0 (by omega) (by omega) (by omega) (fun h_ => ⟨fun h2_ => by simp only [Bool.and_eq_true, Bool.or_eq_true, decide_eq_true_eq, Bool.and_eq_false_iff, Bool.or_eq_false_iff, decide_eq_false_iff_not] at c59 c78; omega, fun h2_ => by simp only [Bool.and_eq_true, Bool.or_eq_true, decide_eq_true_eq, Bool.and_eq_false_iff, Bool.or_eq_false_iff, decide_eq_false_iff_not] at c59 c78; omega⟩) (fun h_ hc_ => by simp only [Bool.and_eq_true, Bool.or_eq_true, decide_eq_true_eq, Bool.and_eq_false_iff, Bool.or_eq_false_iff, decide_eq_false_iff_not] at c59 c78; omega)
            refine sc_skip (nrm_k ?_)
            refine sc_seq ?_
            refine sc_reg ?_
            refine Go.XK.s (v := .string (B ((encR l).1))) (e_move rfl) ?_
            refine s_bytes rfl Try.underlying9 Try.underlying35 Try.underlying5 ?_
            intro b80 cp80 w3 hB80 he80 hx80
            have ge_b80 : w.heap.size ≤ b80 := by have h_ := (Below.size xw_w2); omega
            have xw_w3 : Ext w w3 := Ext.tr xw_w2 hx80
            refine Go.XK.s (v := .slice (some ⟨b80, 0, none⟩) (((encR l).1).length) cp80) (e_assign rfl) ?_
            refine sl_nil (nrm_k ?_)
            refine sc_seq ?_
            refine sc_reg ?_
            refine Go.XK.s (v := .slice (some ⟨b80, 0, none⟩) (((encR l).1).length) cp80) (e_move rfl) ?_
            refine Go.XK.s (v := .int .i64 i) (e_move rfl) ?_
            refine Go.XK.s (v := .pointer (some ⟨b80, 32 * e + j, none⟩)) (e_idxBlk1 Try.underlying35 Try.sizeOf5 rfl rfl (32 * e + j) (by omega) (by omega)) ?_
            refine Go.XK.s (v := .int .u8 cc.toNat) (e_ldByte (32 * e + j) cc rfl hB80 hcc Try.isAgg5) ?_
            refine Go.XK.s (v := .int .u8 x.toNat) (e_move rfl) ?_
            refine Go.XK.s (v := .int .u8 ((cc ^^^ x).toNat)) (e_bxor (a := cc) (b := x) rfl rfl) ?_
            refine Go.XK.s (v := .pointer (some ⟨b80, 32 * e + j, none⟩)) (e_idxBlk1 Try.underlying35 Try.sizeOf5 rfl rfl (32 * e + j) (by omega) (by omega)) ?_
            refine su_byte (32 * e + j) (cc ^^^ x) rfl rfl hB80 (by omega) Try.sizeOf5 ?_
            intro w4 hn_ hm_w4 hs_w4
            replace hB80 := hn_
            clear hn_
            have xw_w4 : Ext w w4 := below_mut xw_w3 (Below.size xw_w3) hm_w4 ge_b80
            refine sl_nil (nrm_k ?_)
            refine sc_seq ?_
            refine sc_reg ?_
            refine Go.XK.s (v := .slice (some ⟨b80, 0, none⟩) (((encR l).1).length) cp80) (e_move rfl) ?_
            refine Go.XK.s (v := .string (B (((encR l).1).set (32 * e + j) (cc ^^^ x)))) (e_convBB rfl hB80 (by simp) Try.underlying35 Try.underlying5 Try.underlying9) ?_
            refine sl_call ent13 rfl rfl (decode_c (((encR l).1).set (32 * e + j) (cc ^^^ x)) w4) (by decide) ?_
            rintro _ w5 ⟨vsX, eX, oX, rfl, hdecX, hoDX, hw5⟩
            rw [hdi] at hdecX
            obtain ⟨e1_, e2_⟩ := Prod.mk.inj hdecX
            subst e1_ e2_
            obtain ⟨AX, cX, hvsX, hlcX, hcmX, hrX⟩ := Own.shape hoDX (fun _ => rfl)
            subst hvsX
            have xw_w5 : Ext w w5 := Ext.tr xw_w4 hw5
            replace hB80 := hB80.ext hw5
            refine Go.XK.s (v := .tuple #[.slice AX l.length cX, .int .i64 0]) (e_move rfl) ?_
            refine Go.XK.s (v := .slice AX l.length cX) (e_extract (vs := [.slice AX l.length cX, .int .i64 0]) rfl rfl) ?_
            refine Go.XK.s (v := .int .i64 0) (e_extract (vs := [.slice AX l.length cX, .int .i64 0]) rfl rfl) ?_
            refine Go.XK.s (v := .slice AX l.length cX) (e_assign rfl) ?_
            refine Go.XK.s (v := .int .i64 0) (e_assign rfl) ?_
            refine sl_nil (nrm_k ?_)
            refine sc_seq ?_
            refine sc_reg ?_
            refine Go.XK.s (v := .int .i64 0) (e_move rfl) ?_
            refine Go.XK.s (v := .bool (decide ((0 : Int) = 0))) (e_eq rfl rfl) ?_
            refine Go.XK.s (v := .bool (decide ((0 : Int) = 0))) (e_move rfl) ?_
            refine sl_mergeW 4 100 (.bool ((decide ((0 : Int) = 0)) && (decide (l = l)))) (fun w_ => Ext w5 w_) ?_ (fun w6 hw6 => ?_)
            · refine sl_case (t := 96) rfl (fun g20_2 => ?_) (fun g20_2 => ?_)
              ·
                refine sl_gev (v := .slice AX l.length cX) rfl rfl g20_2 (e_move rfl) rfl (by decide) ?_
                refine sl_gev (v := .slice A l.length c) rfl rfl g20_2 (e_move rfl) rfl (by decide) ?_
                refine sl_gcall rfl rfl g20_2 ent15 rfl rfl (same_c l l _ _ _ _ w5 hrX (hl.ext xw_w5) (by omega)) (by decide) ?_
                rintro _ w7 ⟨rfl, hw7⟩
                have xw_w7 : Ext w w7 := Ext.tr xw_w5 hw7
                have xw5_w7 : Ext w5 w7 := Ext.tr (Ext.rfl' w5) hw7
                replace hB80 := hB80.ext hw7
                replace hrX := hrX.ext hw7
                refine Go.XK.s (v := .bool (decide (l = l))) (e_pickT rfl g20_2 rfl) ?_
                exact sl_nil (fun a ha => ⟨xw5_w7, ha.sub (.cons (by rw [g20_2]; rfl) (sub_self_cons (sub_self_cons (sub_self_cons (sub_self_cons (Sub.refl _) rfl) rfl) rfl) rfl))⟩)
              ·
                refine sl_gskip rfl rfl g20_2 (by decide) ?_
                refine sl_gskip rfl rfl g20_2 (by decide) ?_
                refine sl_gskip rfl rfl g20_2 (by decide) ?_
                refine Go.XK.s (v := .bool false) (e_pickF rfl g20_2 rfl) ?_
                exact sl_nil (fun a ha => ⟨(Ext.rfl' w5), ha.sub (.cons (by rw [g20_2]; rfl) (sub_self_cons (sub_self_cons (sub_self_cons (sub_self_cons (Sub.refl _) rfl) rfl) rfl) rfl))⟩)
            have xw_w6 : Ext w w6 := Ext.tr xw_w5 hw6
            replace hB80 := hB80.ext hw6
            replace hrX := hrX.ext hw6
            refine Go.XK.s (v := .bool ((decide ((0 : Int) = 0)) && (decide (l = l)))) (e_assign rfl) ?_
            refine sl_nil (nrm_k ?_)
            refine sc_retf rfl (ret1 Try.results8 (rvt rfl) ?_)
            first | exact ⟨rfl, xw_w6⟩ | exact ⟨by simp, xw_w6⟩
        ·
          refine sc_skip (nrm_k ?_)
          refine sc_seq ?_
          refine sc_seq ?_
          refine sc_reg ?_
          refine Go.XK.s (v := .bool (decide ((j : Int) < 4))) (e_move rfl) ?_
          refine sl_nil (nrm_k ?_)
          refine sc_ifd rfl (fun c78 => ?_) (fun c78 => ?_)
          ·
            refine sc_seq ?_
            refine sc_reg ?_
            refine Go.XK.s (v := .bool true) (e_assign rfl) ?_
            refine sl_nil (nrm_k ?_)
            refine sc_retf rfl (ret1 Try.results8 (rvt rfl) ?_)
            first | exact ⟨rfl, xw_w2⟩ | exact ⟨by simp, xw_w2⟩
          ·
            have hdi : decR ((encR l).1.set (32 * e + j) (cc ^^^ x)) = (l, 0) := dec_ign he0 (by omega) (by omega) (by omega) (fun h_ => ⟨fun h2_ => by simp only [Bool.and_eq_true, Bool.or_eq_true, decide_eq_true_eq, Bool.and_eq_false_iff, Bool.or_eq_false_iff, decide_eq_false_iff_not] at c59 c78; omega, fun h2_ => by simp only [Bool.and_eq_true, Bool.or_eq_true, decide_eq_true_eq, Bool.and_eq_false_iff, Bool.or_eq_false_iff, decide_eq_false_iff_not] at c59 c78; omega⟩) (fun h_ hc_ => by simp only [Bool.and_eq_true, Bool.or_eq_true, decide_eq_true_eq, Bool.and_eq_false_iff, Bool.or_eq_false_iff, decide_eq_false_iff_not] at c59 c78; omega)
            refine sc_skip (nrm_k ?_)
            refine sc_seq ?_
            refine sc_reg ?_
            refine Go.XK.s (v := .string (B ((encR l).1))) (e_move rfl) ?_
            refine s_bytes rfl Try.underlying9 Try.underlying35 Try.underlying5 ?_
            intro b80 cp80 w8 hB80 he80 hx80
            have ge_b80 : w.heap.size ≤ b80 := by have h_ := (Below.size xw_w2); omega
            have xw_w8 : Ext w w8 := Ext.tr xw_w2 hx80
            refine Go.XK.s (v := .slice (some ⟨b80, 0, none⟩) (((encR l).1).length) cp80) (e_assign rfl) ?_
            refine sl_nil (nrm_k ?_)
            refine sc_seq ?_
            refine sc_reg ?_
            refine Go.XK.s (v := .slice (some ⟨b80, 0, none⟩) (((encR l).1).length) cp80) (e_move rfl) ?_
            refine Go.XK.s (v := .int .i64 i) (e_move rfl) ?_
            refine Go.XK.s (v := .pointer (some ⟨b80, 32 * e + j, none⟩)) (e_idxBlk1 Try.underlying35 Try.sizeOf5 rfl rfl (32 * e + j) (by omega) (by omega)) ?_
            refine Go.XK.s (v := .int .u8 cc.toNat) (e_ldByte (32 * e + j) cc rfl hB80 hcc Try.isAgg5) ?_
            refine Go.XK.s (v := .int .u8 x.toNat) (e_move rfl) ?_
            refine Go.XK.s (v := .int .u8 ((cc ^^^ x).toNat)) (e_bxor (a := cc) (b := x) rfl rfl) ?_
            refine Go.XK.s (v := .pointer (some ⟨b80, 32 * e + j, none⟩)) (e_idxBlk1 Try.underlying35 Try.sizeOf5 rfl rfl (32 * e + j) (by omega) (by omega)) ?_
            refine su_byte (32 * e + j) (cc ^^^ x) rfl rfl hB80 (by omega) Try.sizeOf5 ?_
            intro w9 hn_ hm_w9 hs_w9
            replace hB80 := hn_
            clear hn_
            have xw_w9 : Ext w w9 := below_mut xw_w8 (Below.size xw_w8) hm_w9 ge_b80
            refine sl_nil (nrm_k ?_)
            refine sc_seq ?_
            refine sc_reg ?_
            refine Go.XK.s (v := .slice (some ⟨b80, 0, none⟩) (((encR l).1).length) cp80) (e_move rfl) ?_
            refine Go.XK.s (v := .string (B (((encR l).1).set (32 * e + j) (cc ^^^ x)))) (e_convBB rfl hB80 (by simp) Try.underlying35 Try.underlying5 Try.underlying9) ?_
            refine sl_call ent13 rfl rfl (decode_c (((encR l).1).set (32 * e + j) (cc ^^^ x)) w9) (by decide) ?_
            rintro _ w10 ⟨vsX, eX, oX, rfl, hdecX, hoDX, hw10⟩
            rw [hdi] at hdecX
            obtain ⟨e1_, e2_⟩ := Prod.mk.inj hdecX
            subst e1_ e2_
            obtain ⟨AX, cX, hvsX, hlcX, hcmX, hrX⟩ := Own.shape hoDX (fun _ => rfl)
            subst hvsX
            have xw_w10 : Ext w w10 := Ext.tr xw_w9 hw10
            replace hB80 := hB80.ext hw10
            refine Go.XK.s (v := .tuple #[.slice AX l.length cX, .int .i64 0]) (e_move rfl) ?_
            refine Go.XK.s (v := .slice AX l.length cX) (e_extract (vs := [.slice AX l.length cX, .int .i64 0]) rfl rfl) ?_
            refine Go.XK.s (v := .int .i64 0) (e_extract (vs := [.slice AX l.length cX, .int .i64 0]) rfl rfl) ?_
            refine Go.XK.s (v := .slice AX l.length cX) (e_assign rfl) ?_
            refine Go.XK.s (v := .int .i64 0) (e_assign rfl) ?_
            refine sl_nil (nrm_k ?_)
            refine sc_seq ?_
            refine sc_reg ?_
            refine Go.XK.s (v := .int .i64 0) (e_move rfl) ?_
            refine Go.XK.s (v := .bool (decide ((0 : Int) = 0))) (e_eq rfl rfl) ?_
            refine Go.XK.s (v := .bool (decide ((0 : Int) = 0))) (e_move rfl) ?_
            refine sl_mergeW 4 100 (.bool ((decide ((0 : Int) = 0)) && (decide (l = l)))) (fun w_ => Ext w10 w_) ?_ (fun w11 hw11 => ?_)
            · refine sl_case (t := 96) rfl (fun g20_2 => ?_) (fun g20_2 => ?_)
              ·
                refine sl_gev (v := .slice AX l.length cX) rfl rfl g20_2 (e_move rfl) rfl (by decide) ?_
                refine sl_gev (v := .slice A l.length c) rfl rfl g20_2 (e_move rfl) rfl (by decide) ?_
                refine sl_gcall rfl rfl g20_2 ent15 rfl rfl (same_c l l _ _ _ _ w10 hrX (hl.ext xw_w10) (by omega)) (by decide) ?_
                rintro _ w12 ⟨rfl, hw12⟩
                have xw_w12 : Ext w w12 := Ext.tr xw_w10 hw12
                have xw10_w12 : Ext w10 w12 := Ext.tr (Ext.rfl' w10) hw12
                replace hB80 := hB80.ext hw12
                replace hrX := hrX.ext hw12
                refine Go.XK.s (v := .bool (decide (l = l))) (e_pickT rfl g20_2 rfl) ?_
                exact sl_nil (fun a ha => ⟨xw10_w12, ha.sub (.cons (by rw [g20_2]; rfl) (sub_self_cons (sub_self_cons (sub_self_cons (sub_self_cons (Sub.refl _) rfl) rfl) rfl) rfl))⟩)
              ·
                refine sl_gskip rfl rfl g20_2 (by decide) ?_
                refine sl_gskip rfl rfl g20_2 (by decide) ?_
                refine sl_gskip rfl rfl g20_2 (by decide) ?_
                refine Go.XK.s (v := .bool false) (e_pickF rfl g20_2 rfl) ?_
                exact sl_nil (fun a ha => ⟨(Ext.rfl' w10), ha.sub (.cons (by rw [g20_2]; rfl) (sub_self_cons (sub_self_cons (sub_self_cons (sub_self_cons (Sub.refl _) rfl) rfl) rfl) rfl))⟩)
            have xw_w11 : Ext w w11 := Ext.tr xw_w10 hw11
            replace hB80 := hB80.ext hw11
            replace hrX := hrX.ext hw11
            refine Go.XK.s (v := .bool ((decide ((0 : Int) = 0)) && (decide (l = l)))) (e_assign rfl) ?_
            refine sl_nil (nrm_k ?_)
            refine sc_retf rfl (ret1 Try.results8 (rvt rfl) ?_)
            first | exact ⟨rfl, xw_w11⟩ | exact ⟨by simp, xw_w11⟩
      ·
        refine sc_skip (nrm_k ?_)
        refine sc_seq ?_
        refine sc_seq ?_
        refine sc_reg ?_
        refine Go.XK.s (v := .int .i64 (e : Int)) (e_move rfl) ?_
        refine Go.XK.s (v := .slice A l.length c) (e_move rfl) ?_
        refine Go.XK.s (v := .int .i64 (l.length : Int)) (e_len Try.underlying22 rfl) ?_
        refine Go.XK.s (v := .int .i64 ((2 : Int) * (l.length : Int))) (e_mul rfl rfl (by omega)) ?_
        refine Go.XK.s (v := .bool (decide ((2 : Int) * (l.length : Int) ≤ (e : Int)))) (e_ge rfl rfl) ?_
        refine sl_nil (nrm_k ?_)
        refine sc_ifd rfl (fun c66 => ?_) (fun c66 => ?_)
        ·
          refine sc_reg ?_
          refine Go.XK.s (v := .slice A l.length c) (e_move rfl) ?_
          refine Go.XK.s (v := .int .i64 (l.length : Int)) (e_len Try.underlying22 rfl) ?_
          refine Go.XK.s (v := .bool (decide ((l.length : Int) = 1))) (e_eq rfl rfl) ?_
          refine Go.XK.s (v := .bool (decide ((l.length : Int) = 1))) (e_move rfl) ?_
          refine sl_merge 3 73 (.bool ((decide ((l.length : Int) = 1)) && (decide ((e : Int) = 2)))) ?_ ?_
          · refine sl_case (t := 70) rfl (fun g14_3 => ?_) (fun g14_3 => ?_)
            ·
              refine sl_gev (v := .int .i64 (e : Int)) rfl rfl g14_3 (e_move rfl) rfl (by decide) ?_
              refine sl_gev (v := .bool (decide ((e : Int) = 2))) rfl rfl g14_3 (e_eq rfl rfl) rfl (by decide) ?_
              refine Go.XK.s (v := .bool (decide ((e : Int) = 2))) (e_pickT rfl g14_3 rfl) ?_
              exact sl_nil (fun a ha => ⟨rfl, ha.sub (.cons (by rw [g14_3]; rfl) (sub_self_cons (sub_self_cons (sub_self_cons (Sub.refl _) rfl) rfl) rfl))⟩)
            ·
              refine sl_gskip rfl rfl g14_3 (by decide) ?_
              refine sl_gskip rfl rfl g14_3 (by decide) ?_
              refine Go.XK.s (v := .bool false) (e_pickF rfl g14_3 rfl) ?_
              exact sl_nil (fun a ha => ⟨rfl, ha.sub (.cons (by rw [g14_3]; rfl) (sub_self_cons (sub_self_cons (sub_self_cons (Sub.refl _) rfl) rfl) rfl))⟩)
          refine Go.XK.s (v := .bool ((decide ((l.length : Int) = 1)) && (decide ((e : Int) = 2)))) (e_move rfl) ?_
          refine sl_merge 3 77 (.bool (((decide ((l.length : Int) = 1)) && (decide ((e : Int) = 2))) && (decide ((j : Int) = 0)))) ?_ ?_
          · refine sl_case (t := 74) rfl (fun g14_7 => ?_) (fun g14_7 => ?_)
            ·
              refine sl_gev (v := .int .i64 (j : Int)) rfl rfl g14_7 (e_move rfl) rfl (by decide) ?_
              refine sl_gev (v := .bool (decide ((j : Int) = 0))) rfl rfl g14_7 (e_eq rfl rfl) rfl (by decide) ?_
              refine Go.XK.s (v := .bool (decide ((j : Int) = 0))) (e_pickT rfl g14_7 rfl) ?_
              exact sl_nil (fun a ha => ⟨rfl, ha.sub (.cons (by rw [g14_7]; rfl) (sub_self_cons (sub_self_cons (sub_self_cons (Sub.refl _) rfl) rfl) rfl))⟩)
            ·
              refine sl_gskip rfl rfl g14_7 (by decide) ?_
              refine sl_gskip rfl rfl g14_7 (by decide) ?_
              refine Go.XK.s (v := .bool false) (e_pickF rfl g14_7 rfl) ?_
              exact sl_nil (fun a ha => ⟨rfl, ha.sub (.cons (by rw [g14_7]; rfl) (sub_self_cons (sub_self_cons (sub_self_cons (Sub.refl _) rfl) rfl) rfl))⟩)
          refine Go.XK.s (v := .bool (((decide ((l.length : Int) = 1)) && (decide ((e : Int) = 2))) && (decide ((j : Int) = 0)))) (e_assign rfl) ?_
          refine sl_nil (nrm_k ?_)
          refine sc_seq ?_
          refine sc_seq ?_
          refine sc_reg ?_
          refine Go.XK.s (v := .bool (((decide ((l.length : Int) = 1)) && (decide ((e : Int) = 2))) && (decide ((j : Int) = 0)))) (e_move rfl) ?_
          refine sl_nil (nrm_k ?_)
          refine sc_if rfl (fun c78 => ?_) (fun c78 => ?_)
          ·
            refine sc_seq ?_
            refine sc_reg ?_
            refine Go.XK.s (v := .bool true) (e_assign rfl) ?_
            refine sl_nil (nrm_k ?_)
            refine sc_retf rfl (ret1 Try.results8 (rvt rfl) ?_)
            first | exact ⟨rfl, xw_w2⟩ | exact ⟨by simp, xw_w2⟩
          ·
            have hdi : decR ((encR l).1.set (32 * e + j) (cc ^^^ x)) = (l, 0) := dec_ign he0 (by omega) (by omega) (by omega) (fun h_ => ⟨fun h2_ => by simp only [Bool.and_eq_true, Bool.or_eq_true, decide_eq_true_eq, Bool.and_eq_false_iff, Bool.or_eq_false_iff, decide_eq_false_iff_not] at c59 c78; omega, fun h2_ => by simp only [Bool.and_eq_true, Bool.or_eq_true, decide_eq_true_eq, Bool.and_eq_false_iff, Bool.or_eq_false_iff, decide_eq_false_iff_not] at c59 c78; omega⟩) (fun h_ hc_ => by simp only [Bool.and_eq_true, Bool.or_eq_true, decide_eq_true_eq, Bool.and_eq_false_iff, Bool.or_eq_false_iff, decide_eq_false_iff_not] at c59 c78; omega)
            refine sc_skip (nrm_k ?_)
            refine sc_seq ?_
            refine sc_reg ?_
            refine Go.XK.s (v := .string (B ((encR l).1))) (e_move rfl) ?_
            refine s_bytes rfl Try.underlying9 Try.underlying35 Try.underlying5 ?_
            intro b80 cp80 w13 hB80 he80 hx80
            have ge_b80 : w.heap.size ≤ b80 := by have h_ := (Below.size xw_w2); omega
            have xw_w13 : Ext w w13 := Ext.tr xw_w2 hx80
            refine Go.XK.s (v := .slice (some ⟨b80, 0, none⟩) (((encR l).1).length) cp80) (e_assign rfl) ?_
            refine sl_nil (nrm_k ?_)
            refine sc_seq ?_
            refine sc_reg ?_
            refine Go.XK.s (v := .slice (some ⟨b80, 0, none⟩) (((encR l).1).length) cp80) (e_move rfl) ?_
            refine Go.XK.s (v := .int .i64 i) (e_move rfl) ?_
            refine Go.XK.s (v := .pointer (some ⟨b80, 32 * e + j, none⟩)) (e_idxBlk1 Try.underlying35 Try.sizeOf5 rfl rfl (32 * e + j) (by omega) (by omega)) ?_
            refine Go.XK.s (v := .int .u8 cc.toNat) (e_ldByte (32 * e + j) cc rfl hB80 hcc Try.isAgg5) ?_
            refine Go.XK.s (v := .int .u8 x.toNat) (e_move rfl) ?_
            refine Go.XK.s (v := .int .u8 ((cc ^^^ x).toNat)) (e_bxor (a := cc) (b := x) rfl rfl) ?_
            refine Go.XK.s (v := .pointer (some ⟨b80, 32 * e + j, none⟩)) (e_idxBlk1 Try.underlying35 Try.sizeOf5 rfl rfl (32 * e + j) (by omega) (by omega)) ?_
            refine su_byte (32 * e + j) (cc ^^^ x) rfl rfl hB80 (by omega) Try.sizeOf5 ?_
            intro w14 hn_ hm_w14 hs_w14
            replace hB80 := hn_
            clear hn_
            have xw_w14 : Ext w w14 := below_mut xw_w13 (Below.size xw_w13) hm_w14 ge_b80
            refine sl_nil (nrm_k ?_)
            refine sc_seq ?_
            refine sc_reg ?_
            refine Go.XK.s (v := .slice (some ⟨b80, 0, none⟩) (((encR l).1).length) cp80) (e_move rfl) ?_
            refine Go.XK.s (v := .string (B (((encR l).1).set (32 * e + j) (cc ^^^ x)))) (e_convBB rfl hB80 (by simp) Try.underlying35 Try.underlying5 Try.underlying9) ?_
            refine sl_call ent13 rfl rfl (decode_c (((encR l).1).set (32 * e + j) (cc ^^^ x)) w14) (by decide) ?_
            rintro _ w15 ⟨vsX, eX, oX, rfl, hdecX, hoDX, hw15⟩
            rw [hdi] at hdecX
            obtain ⟨e1_, e2_⟩ := Prod.mk.inj hdecX
            subst e1_ e2_
            obtain ⟨AX, cX, hvsX, hlcX, hcmX, hrX⟩ := Own.shape hoDX (fun _ => rfl)
            subst hvsX
            have xw_w15 : Ext w w15 := Ext.tr xw_w14 hw15
            replace hB80 := hB80.ext hw15
            refine Go.XK.s (v := .tuple #[.slice AX l.length cX, .int .i64 0]) (e_move rfl) ?_
            refine Go.XK.s (v := .slice AX l.length cX) (e_extract (vs := [.slice AX l.length cX, .int .i64 0]) rfl rfl) ?_
            refine Go.XK.s (v := .int .i64 0) (e_extract (vs := [.slice AX l.length cX, .int .i64 0]) rfl rfl) ?_
            refine Go.XK.s (v := .slice AX l.length cX) (e_assign rfl) ?_
            refine Go.XK.s (v := .int .i64 0) (e_assign rfl) ?_
            refine sl_nil (nrm_k ?_)
            refine sc_seq ?_
            refine sc_reg ?_
            refine Go.XK.s (v := .int .i64 0) (e_move rfl) ?_
            refine Go.XK.s (v := .bool (decide ((0 : Int) = 0))) (e_eq rfl rfl) ?_
            refine Go.XK.s (v := .bool (decide ((0 : Int) = 0))) (e_move rfl) ?_
            refine sl_mergeW 4 100 (.bool ((decide ((0 : Int) = 0)) && (decide (l = l)))) (fun w_ => Ext w15 w_) ?_ (fun w16 hw16 => ?_)
            · refine sl_case (t := 96) rfl (fun g20_2 => ?_) (fun g20_2 => ?_)
              ·
                refine sl_gev (v := .slice AX l.length cX) rfl rfl g20_2 (e_move rfl) rfl (by decide) ?_
                refine sl_gev (v := .slice A l.length c) rfl rfl g20_2 (e_move rfl) rfl (by decide) ?_
                refine sl_gcall rfl rfl g20_2 ent15 rfl rfl (same_c l l _ _ _ _ w15 hrX (hl.ext xw_w15) (by omega)) (by decide) ?_
                rintro _ w17 ⟨rfl, hw17⟩
                have xw_w17 : Ext w w17 := Ext.tr xw_w15 hw17
                have xw15_w17 : Ext w15 w17 := Ext.tr (Ext.rfl' w15) hw17
                replace hB80 := hB80.ext hw17
                replace hrX := hrX.ext hw17
                refine Go.XK.s (v := .bool (decide (l = l))) (e_pickT rfl g20_2 rfl) ?_
                exact sl_nil (fun a ha => ⟨xw15_w17, ha.sub (.cons (by rw [g20_2]; rfl) (sub_self_cons (sub_self_cons (sub_self_cons (sub_self_cons (Sub.refl _) rfl) rfl) rfl) rfl))⟩)
              ·
                refine sl_gskip rfl rfl g20_2 (by decide) ?_
                refine sl_gskip rfl rfl g20_2 (by decide) ?_
                refine sl_gskip rfl rfl g20_2 (by decide) ?_
                refine Go.XK.s (v := .bool false) (e_pickF rfl g20_2 rfl) ?_
                exact sl_nil (fun a ha => ⟨(Ext.rfl' w15), ha.sub (.cons (by rw [g20_2]; rfl) (sub_self_cons (sub_self_cons (sub_self_cons (sub_self_cons (Sub.refl _) rfl) rfl) rfl) rfl))⟩)
            have xw_w16 : Ext w w16 := Ext.tr xw_w15 hw16
            replace hB80 := hB80.ext hw16
            replace hrX := hrX.ext hw16
            refine Go.XK.s (v := .bool ((decide ((0 : Int) = 0)) && (decide (l = l)))) (e_assign rfl) ?_
            refine sl_nil (nrm_k ?_)
            refine sc_retf rfl (ret1 Try.results8 (rvt rfl) ?_)
            first | exact ⟨rfl, xw_w16⟩ | exact ⟨by simp, xw_w16⟩
        ·
          refine sc_skip (nrm_k ?_)
          refine sc_seq ?_
          refine sc_seq ?_
          refine sc_reg ?_
          refine Go.XK.s (v := .bool ((decide ((j : Int) < 4)) || ((decide ((6 : Int) ≤ (j : Int))) && (decide ((j : Int) < 12))))) (e_move rfl) ?_
          refine sl_nil (nrm_k ?_)
          refine sc_if rfl (fun c78 => ?_) (fun c78 => ?_)
          ·
            refine sc_seq ?_
            refine sc_reg ?_
            refine Go.XK.s (v := .bool true) (e_assign rfl) ?_
            refine sl_nil (nrm_k ?_)
            refine sc_retf rfl (ret1 Try.results8 (rvt rfl) ?_)
            first | exact ⟨rfl, xw_w2⟩ | exact ⟨by simp, xw_w2⟩
          ·
            have hdi : decR ((encR l).1.set (32 * e + j) (cc ^^^ x)) = (l, 0) := dec_ign he0 (by omega) (by omega) (by omega) (fun h_ => ⟨fun h2_ => by simp only [Bool.and_eq_true, Bool.or_eq_true, decide_eq_true_eq, Bool.and_eq_false_iff, Bool.or_eq_false_iff, decide_eq_false_iff_not] at c59 c78; omega, fun h2_ => by simp only [Bool.and_eq_true, Bool.or_eq_true, decide_eq_true_eq, Bool.and_eq_false_iff, Bool.or_eq_false_iff, decide_eq_false_iff_not] at c59 c78; omega⟩) (fun h_ hc_ => by simp only [Bool.and_eq_true, Bool.or_eq_true, decide_eq_true_eq, Bool.and_eq_false_iff, Bool.or_eq_false_iff, decide_eq_false_iff_not] at c59 c78; omega)
            refine sc_skip (nrm_k ?_)
            refine sc_seq ?_
            refine sc_reg ?_
            refine Go.XK.s (v := .string (B ((encR l).1))) (e_move rfl) ?_
            refine s_bytes rfl Try.underlying9 Try.underlying35 Try.underlying5 ?_
            intro b80 cp80 w18 hB80 he80 hx80
            have ge_b80 : w.heap.size ≤ b80 := by have h_ := (Below.size xw_w2); omega
            have xw_w18 : Ext w w18 := Ext.tr xw_w2 hx80
            refine Go.XK.s (v := .slice (some ⟨b80, 0, none⟩) (((encR l).1).length) cp80) (e_assign rfl) ?_
            refine sl_nil (nrm_k ?_)
            refine sc_seq ?_
            refine sc_reg ?_
            refine Go.XK.s (v := .slice (some ⟨b80, 0, none⟩) (((encR l).1).length) cp80) (e_move rfl) ?_
            refine Go.XK.s (v := .int .i64 i) (e_move rfl) ?_
            refine Go.XK.s (v := .pointer (some ⟨b80, 32 * e + j, none⟩)) (e_idxBlk1 Try.underlying35 Try.sizeOf5 rfl rfl (32 * e + j) (by omega) (by omega)) ?_
            refine Go.XK.s (v := .int .u8 cc.toNat) (e_ldByte (32 * e + j) cc rfl hB80 hcc Try.isAgg5) ?_
            refine Go.XK.s (v := .int .u8 x.toNat) (e_move rfl) ?_
            refine Go.XK.s (v := .int .u8 ((cc ^^^ x).toNat)) (e_bxor (a := cc) (b := x) rfl rfl) ?_
            refine Go.XK.s (v := .pointer (some ⟨b80, 32 * e + j, none⟩)) (e_idxBlk1 Try.underlying35 Try.sizeOf5 rfl rfl (32 * e + j) (by omega) (by omega)) ?_
            refine su_byte (32 * e + j) (cc ^^^ x) rfl rfl hB80 (by omega) Try.sizeOf5 ?_
            intro w19 hn_ hm_w19 hs_w19
            replace hB80 := hn_
            clear hn_
            have xw_w19 : Ext w w19 := below_mut xw_w18 (Below.size xw_w18) hm_w19 ge_b80
            refine sl_nil (nrm_k ?_)
            refine sc_seq ?_
            refine sc_reg ?_
            refine Go.XK.s (v := .slice (some ⟨b80, 0, none⟩) (((encR l).1).length) cp80) (e_move rfl) ?_
            refine Go.XK.s (v := .string (B (((encR l).1).set (32 * e + j) (cc ^^^ x)))) (e_convBB rfl hB80 (by simp) Try.underlying35 Try.underlying5 Try.underlying9) ?_
            refine sl_call ent13 rfl rfl (decode_c (((encR l).1).set (32 * e + j) (cc ^^^ x)) w19) (by decide) ?_
            rintro _ w20 ⟨vsX, eX, oX, rfl, hdecX, hoDX, hw20⟩
            rw [hdi] at hdecX
            obtain ⟨e1_, e2_⟩ := Prod.mk.inj hdecX
            subst e1_ e2_
            obtain ⟨AX, cX, hvsX, hlcX, hcmX, hrX⟩ := Own.shape hoDX (fun _ => rfl)
            subst hvsX
            have xw_w20 : Ext w w20 := Ext.tr xw_w19 hw20
            replace hB80 := hB80.ext hw20
            refine Go.XK.s (v := .tuple #[.slice AX l.length cX, .int .i64 0]) (e_move rfl) ?_
            refine Go.XK.s (v := .slice AX l.length cX) (e_extract (vs := [.slice AX l.length cX, .int .i64 0]) rfl rfl) ?_
            refine Go.XK.s (v := .int .i64 0) (e_extract (vs := [.slice AX l.length cX, .int .i64 0]) rfl rfl) ?_
            refine Go.XK.s (v := .slice AX l.length cX) (e_assign rfl) ?_
            refine Go.XK.s (v := .int .i64 0) (e_assign rfl) ?_
            refine sl_nil (nrm_k ?_)
            refine sc_seq ?_
            refine sc_reg ?_
            refine Go.XK.s (v := .int .i64 0) (e_move rfl) ?_
            refine Go.XK.s (v := .bool (decide ((0 : Int) = 0))) (e_eq rfl rfl) ?_
            refine Go.XK.s (v := .bool (decide ((0 : Int) = 0))) (e_move rfl) ?_
            refine sl_mergeW 4 100 (.bool ((decide ((0 : Int) = 0)) && (decide (l = l)))) (fun w_ => Ext w20 w_) ?_ (fun w21 hw21 => ?_)
            · refine sl_case (t := 96) rfl (fun g20_2 => ?_) (fun g20_2 => ?_)
              ·
                refine sl_gev (v := .slice AX l.length cX) rfl rfl g20_2 (e_move rfl) rfl (by decide) ?_
                refine sl_gev (v := .slice A l.length c) rfl rfl g20_2 (e_move rfl) rfl (by decide) ?_
                refine sl_gcall rfl rfl g20_2 ent15 rfl rfl (same_c l l _ _ _ _ w20 hrX (hl.ext xw_w20) (by omega)) (by decide) ?_
                rintro _ w22 ⟨rfl, hw22⟩
                have xw_w22 : Ext w w22 := Ext.tr xw_w20 hw22
                have xw20_w22 : Ext w20 w22 := Ext.tr (Ext.rfl' w20) hw22
                replace hB80 := hB80.ext hw22
                replace hrX := hrX.ext hw22
                refine Go.XK.s (v := .bool (decide (l = l))) (e_pickT rfl g20_2 rfl) ?_
                exact sl_nil (fun a ha => ⟨xw20_w22, ha.sub (.cons (by rw [g20_2]; rfl) (sub_self_cons (sub_self_cons (sub_self_cons (sub_self_cons (Sub.refl _) rfl) rfl) rfl) rfl))⟩)
              ·
                refine sl_gskip rfl rfl g20_2 (by decide) ?_
                refine sl_gskip rfl rfl g20_2 (by decide) ?_
                refine sl_gskip rfl rfl g20_2 (by decide) ?_
                refine Go.XK.s (v := .bool false) (e_pickF rfl g20_2 rfl) ?_
                exact sl_nil (fun a ha => ⟨(Ext.rfl' w20), ha.sub (.cons (by rw [g20_2]; rfl) (sub_self_cons (sub_self_cons (sub_self_cons (sub_self_cons (Sub.refl _) rfl) rfl) rfl) rfl))⟩)
            have xw_w21 : Ext w w21 := Ext.tr xw_w20 hw21
            replace hB80 := hB80.ext hw21
            replace hrX := hrX.ext hw21
            refine Go.XK.s (v := .bool ((decide ((0 : Int) = 0)) && (decide (l = l)))) (e_assign rfl) ?_
            refine sl_nil (nrm_k ?_)
            refine sc_retf rfl (ret1 Try.results8 (rvt rfl) ?_)
            first | exact ⟨rfl, xw_w21⟩ | exact ⟨by simp, xw_w21⟩

theorem ignored_i (l : List Img) (A : Option Addr) (c : Nat) (n x : Int) (w : World) (hl : Rd w A 6 Img.enc l) (hlc : l.length ≤ c) (hn : 0 ≤ n ∧ n ≤ 65535) (hx : 0 ≤ x ∧ x ≤ 255) : CallR Try.prog 8 [.slice A l.length c, .int .u16 n, .int .u8 x] w (fun v w' => v = .bool true ∧ Ext w w') := by
  have h := ignored_c l A c n (u8of x) w hl hlc hn
  rwa [show ((u8of x).toNat : Int) = x from by rw [u8of_toNat]; omega] at h

end Go.Proofs.Ytlgkjpmaekkpjaa
