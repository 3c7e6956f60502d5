/- Chapter 24: C1. Printed by my program wip/tools/wk.py. -/
import Derived.Test.YtnbclhbpjlpcoaaC2a
import Derived.Test.YtnbclhbpjlpcoaaXKk
import Derived.Test.YtnbclhbpjlpcoaaXKq
import Derived.Test.YtnbclhbpjlpcoaaProg
set_option linter.unusedVariables false
set_option linter.unusedSimpArgs false
set_option maxRecDepth 4000
set_option maxHeartbeats 4000000
namespace Go.Proofs.Ytnbclhbpjlpcoaa
open Go.XK Go.RowKit
theorem ent3 : Ent Try.prog 3 := enters_of Try.func3 (by kernel_rfl) rfl
theorem ent4 : Ent Try.prog 4 := enters_of Try.func4 (by kernel_rfl) rfl
theorem ent5 : Ent Try.prog 5 := enters_of Try.func5 (by kernel_rfl) rfl
theorem ent6 : Ent Try.prog 6 := enters_of Try.func6 (by kernel_rfl) rfl
theorem ent7 : Ent Try.prog 7 := enters_of Try.func7 (by kernel_rfl) rfl
theorem ent8 : Ent Try.prog 8 := enters_of Try.func8 (by kernel_rfl) rfl
theorem ent9 : Ent Try.prog 9 := enters_of Try.func9 (by kernel_rfl) rfl
theorem ent10 : Ent Try.prog 10 := enters_of Try.func10 (by kernel_rfl) rfl
theorem ent11 : Ent Try.prog 11 := enters_of Try.func11 (by kernel_rfl) rfl
theorem ent12 : Ent Try.prog 12 := enters_of Try.func12 (by kernel_rfl) rfl
theorem ent13 : Ent Try.prog 13 := enters_of Try.func13 (by kernel_rfl) rfl
theorem ent14 : Ent Try.prog 14 := enters_of Try.func14 (by kernel_rfl) rfl
theorem ent15 : Ent Try.prog 15 := enters_of Try.func15 (by kernel_rfl) rfl
theorem ent16 : Ent Try.prog 16 := enters_of Try.func16 (by kernel_rfl) rfl
theorem ent17 : Ent Try.prog 17 := enters_of Try.func17 (by kernel_rfl) rfl
theorem ent18 : Ent Try.prog 18 := enters_of Try.func18 (by kernel_rfl) rfl
theorem ent19 : Ent Try.prog 19 := enters_of Try.func19 (by kernel_rfl) rfl
theorem ent20 : Ent Try.prog 20 := enters_of Try.func20 (by kernel_rfl) rfl
theorem ent21 : Ent Try.prog 21 := enters_of Try.func21 (by kernel_rfl) rfl
theorem ent22 : Ent Try.prog 22 := enters_of Try.func22 (by kernel_rfl) rfl
theorem ent23 : Ent Try.prog 23 := enters_of Try.func23 (by kernel_rfl) rfl
theorem ent24 : Ent Try.prog 24 := enters_of Try.func24 (by kernel_rfl) rfl
theorem ent25 : Ent Try.prog 25 := enters_of Try.func25 (by kernel_rfl) rfl
theorem ent26 : Ent Try.prog 26 := enters_of Try.func26 (by kernel_rfl) rfl
theorem ent27 : Ent Try.prog 27 := enters_of Try.func27 (by kernel_rfl) rfl
theorem ent28 : Ent Try.prog 28 := enters_of Try.func28 (by kernel_rfl) rfl
theorem ent29 : Ent Try.prog 29 := enters_of Try.func29 (by kernel_rfl) rfl
theorem ent30 : Ent Try.prog 30 := enters_of Try.func30 (by kernel_rfl) rfl
theorem ent31 : Ent Try.prog 31 := enters_of Try.func31 (by kernel_rfl) rfl
theorem ent32 : Ent Try.prog 32 := enters_of Try.func32 (by kernel_rfl) rfl
theorem ent33 : Ent Try.prog 33 := enters_of Try.func33 (by kernel_rfl) rfl
theorem ent34 : Ent Try.prog 34 := enters_of Try.func34 (by kernel_rfl) rfl
theorem ent35 : Ent Try.prog 35 := enters_of Try.func35 (by kernel_rfl) rfl
theorem ent36 : Ent Try.prog 36 := enters_of Try.func36 (by kernel_rfl) rfl
theorem ent37 : Ent Try.prog 37 := enters_of Try.func37 (by kernel_rfl) rfl
theorem ent38 : Ent Try.prog 38 := enters_of Try.func38 (by kernel_rfl) rfl
theorem ent39 : Ent Try.prog 39 := enters_of Try.func39 (by kernel_rfl) rfl
theorem ent40 : Ent Try.prog 40 := enters_of Try.func40 (by kernel_rfl) rfl
theorem ent41 : Ent Try.prog 41 := enters_of Try.func41 (by kernel_rfl) rfl
theorem ent42 : Ent Try.prog 42 := enters_of Try.func42 (by kernel_rfl) rfl
theorem ent43 : Ent Try.prog 43 := enters_of Try.func43 (by kernel_rfl) rfl
theorem ent44 : Ent Try.prog 44 := enters_of Try.func44 (by kernel_rfl) rfl
theorem ent45 : Ent Try.prog 45 := enters_of Try.func45 (by kernel_rfl) rfl
theorem ent46 : Ent Try.prog 46 := enters_of Try.func46 (by kernel_rfl) rfl
theorem ent47 : Ent Try.prog 47 := enters_of Try.func47 (by kernel_rfl) rfl
theorem ent48 : Ent Try.prog 48 := enters_of Try.func48 (by kernel_rfl) rfl
theorem ent49 : Ent Try.prog 49 := enters_of Try.func49 (by kernel_rfl) rfl
theorem ent50 : Ent Try.prog 50 := enters_of Try.func50 (by kernel_rfl) rfl
theorem ent51 : Ent Try.prog 51 := enters_of Try.func51 (by kernel_rfl) rfl
theorem ent52 : Ent Try.prog 52 := enters_of Try.func52 (by kernel_rfl) rfl
theorem ent53 : Ent Try.prog 53 := enters_of Try.func53 (by kernel_rfl) rfl
theorem ent54 : Ent Try.prog 54 := enters_of Try.func54 (by kernel_rfl) rfl
theorem ent55 : Ent Try.prog 55 := enters_of Try.func55 (by kernel_rfl) rfl
theorem ent56 : Ent Try.prog 56 := enters_of Try.func56 (by kernel_rfl) rfl
theorem ent57 : Ent Try.prog 57 := enters_of Try.func57 (by kernel_rfl) rfl
theorem ent58 : Ent Try.prog 58 := enters_of Try.func58 (by kernel_rfl) rfl
theorem ent59 : Ent Try.prog 59 := enters_of Try.func59 (by kernel_rfl) rfl
theorem ent60 : Ent Try.prog 60 := enters_of Try.func60 (by kernel_rfl) rfl
theorem ent61 : Ent Try.prog 61 := enters_of Try.func61 (by kernel_rfl) rfl
theorem ent62 : Ent Try.prog 62 := enters_of Try.func62 (by kernel_rfl) rfl
theorem ent63 : Ent Try.prog 63 := enters_of Try.func63 (by kernel_rfl) rfl
theorem ent64 : Ent Try.prog 64 := enters_of Try.func64 (by kernel_rfl) rfl
theorem ent65 : Ent Try.prog 65 := enters_of Try.func65 (by kernel_rfl) rfl
theorem ent66 : Ent Try.prog 66 := enters_of Try.func66 (by kernel_rfl) rfl
theorem ent67 : Ent Try.prog 67 := enters_of Try.func67 (by kernel_rfl) rfl
theorem ent68 : Ent Try.prog 68 := enters_of Try.func68 (by kernel_rfl) rfl
theorem ent69 : Ent Try.prog 69 := enters_of Try.func69 (by kernel_rfl) rfl
theorem ent70 : Ent Try.prog 70 := enters_of Try.func70 (by kernel_rfl) rfl
theorem ent71 : Ent Try.prog 71 := enters_of Try.func71 (by kernel_rfl) rfl
theorem ent72 : Ent Try.prog 72 := enters_of Try.func72 (by kernel_rfl) rfl
theorem ent73 : Ent Try.prog 73 := enters_of Try.func73 (by kernel_rfl) rfl
theorem ent74 : Ent Try.prog 74 := enters_of Try.func74 (by kernel_rfl) rfl
theorem ent77 : Ent Try.prog 77 := enters_of Try.func77 (by kernel_rfl) rfl
theorem ent78 : Ent Try.prog 78 := enters_of Try.func78 (by kernel_rfl) rfl
theorem ent79 : Ent Try.prog 79 := enters_of Try.func79 (by kernel_rfl) rfl
theorem ent80 : Ent Try.prog 80 := enters_of Try.func80 (by kernel_rfl) rfl
theorem ent81 : Ent Try.prog 81 := enters_of Try.func81 (by kernel_rfl) rfl
theorem ent82 : Ent Try.prog 82 := enters_of Try.func82 (by kernel_rfl) rfl
theorem ent83 : Ent Try.prog 83 := enters_of Try.func83 (by kernel_rfl) rfl
theorem ent84 : Ent Try.prog 84 := enters_of Try.func84 (by kernel_rfl) rfl
theorem int_beq (a b : Int) : (a == b) = decide (a = b) := rfl
theorem lst_beq (s t : List UInt8) : (s == t) = decide (s = t) := by by_cases h : s = t <;> simp [h]
theorem ite_and (c d : Bool) (w : World) : (if c = false then Result.ok false w else Result.ok d w) = Result.ok (c && d) w := by cases c <;> rfl
theorem one_encS : ∀ (x : List UInt8), ∀ u ∈ encS x, u.oneCell' = true := fun x u hu => by simp [encS] at hu; subst hu; rfl
theorem one_encI : ∀ (x : Int), ∀ u ∈ encI x, u.oneCell' = true := fun x u hu => by simp [encI] at hu; subst hu; rfl
theorem sig_bad {s : List UInt8} {i : Nat} {x : UInt8} (hx : s[i]? = some x) (h : badc x = true) : sig s = false := by
  rw [sig, all_no hx (by rw [okc, h]; rfl), Bool.and_false]
theorem okc_of {x : UInt8} (h : badc x = false) : okc x = true := by rw [okc, h]; rfl
theorem sig_end {s : List UInt8} {i : Nat} (h : (s.take i).all okc = true) (hi : s.length ≤ i) : sig s = decide ((s.length : Int) = 2) := by
  rw [sig, all_end h hi, Bool.and_true]
theorem at_get {s : List UInt8} {i : Nat} (h : i < s.length) : s[i]? = some (at_ s (i : Int)) := by
  rw [List.getElem?_eq_getElem h]
  simp [at_, List.getD_eq_getElem?_getD, h]
theorem badE_1 {x : En} (h : sig x.g = false) : badE x = 1 := by rw [badE, if_pos h]
theorem badE_2 {x : En} (h : sig x.g = true) (h2 : (decide (x.v < 0) || decide ((255 : Int) < x.v)) = true) : badE x = 2 := by rw [badE, if_neg (by simp [h]), if_pos h2]
theorem badE_7 {x : En} (h : sig x.g = true) (h2 : (decide (x.v < 0) || decide ((255 : Int) < x.v)) = false) (h3 : (251 : Int) < (x.d.length : Int)) : badE x = 7 := by rw [badE, if_neg (by simp [h]), if_neg (by rw [h2]; simp), if_pos h3]
theorem badE_0 {x : En} (h : sig x.g = true) (h2 : (decide (x.v < 0) || decide ((255 : Int) < x.v)) = false) (h3 : ¬ (251 : Int) < (x.d.length : Int)) : badE x = 0 := by rw [badE, if_neg (by simp [h]), if_neg (by rw [h2]; simp), if_neg h3]
theorem chkR_many {l : List En} (h : (1024 : Int) < (l.length : Int)) : chkR l = 7 := by rw [chkR, if_pos h]
theorem chkR_no {l : List En} {i : Nat} {x : En} {e : Int} (hn : ¬ (1024 : Int) < (l.length : Int)) (hc : chkL (l.drop i) = chkL l) (hx : l[i]? = some x) (hb : badE x = e) (he : e ≠ 0) : chkR l = e := by rw [chkR, if_neg hn, ← hc, chk_no hx hb he]
theorem chkR_end {l : List En} {i : Nat} (hn : ¬ (1024 : Int) < (l.length : Int)) (hc : chkL (l.drop i) = chkL l) (hi : l.length ≤ i) : chkR l = 0 := by rw [chkR, if_neg hn, ← hc, List.drop_eq_nil_of_le hi]; rfl
theorem sz_next {l : List En} {i : Nat} {x : En} {z : Int} (hx : l[i]? = some x) (hz : z = wr64 (szL (l.take i) : Int)) : wr64 (z + wr64 (4 + (x.d.length : Int))) = wr64 (szL (l.take (i + 1)) : Int) := by
  rw [wr64_add2, hz, wr64_add, szL_take hx, szE]
  congr 1 <;> omega
theorem sz_next2 {l : List En} {i : Nat} {x : En} {z : Int} (hx : l[i]? = some x) (hz : z = wr64 (szL (l.take i) : Int)) : wr64 (wr64 (z + 4) + (x.d.length : Int)) = wr64 (szL (l.take (i + 1)) : Int) := by
  rw [wr64_add, hz, Int.add_assoc, wr64_add, szL_take hx, szE]
  congr 1
theorem small_no {l : List En} {m : Int} {i : Nat} {x : En} (hx : l[i]? = some x) (h : (decide ((400 : Int) < (x.d.length : Int)) || decide ((20 : Int) < (x.g.length : Int))) = true) : small l m = false := by
  rw [small, all_no hx (by rw [smE, h]; rfl), Bool.and_false]
theorem small_end {l : List En} {m : Int} {i : Nat} (h0 : ¬ m < (l.length : Int)) (h : (l.take i).all smE = true) (hi : l.length ≤ i) : small l m = true := by
  rw [small, all_end h hi, decide_eq_false h0]; rfl
theorem run_neq_en (x y : Operand) (a b : En) (w : World) : (do eqGuard .neq 41 x y (.agg (encE a).toArray) (.agg (encE b).toArray); binOp .neq 41 (.agg (encE a).toArray) (.agg (encE b).toArray) : Sem Value).run Try.prog w = .ok (.bool (decide (a ≠ b))) w := by
  have hf : (Try.prog.fieldsOf 41).toList = [⟨"Signature", 9, 0, false, "", "", 0⟩, ⟨"Version", 3, 1, false, "", "", 16⟩, ⟨"Data", 9, 2, false, "", "", 24⟩] := by kernel_rfl
  rw [Sem.run_bind, run_eqGuard_agg _ _ _ _ _ _ _ (by kernel_rfl), Result.andThen_ok, run_neq_struct, run_equalIn_struct _ _ _ _ _ (by kernel_rfl) (by kernel_rfl), hf]
  have hx : (decide (a ≠ b)) = !(decide (a.g = b.g) && (decide (a.v = b.v) && decide (a.d = b.d))) := by
    cases a; cases b; simp
  rw [hx]
  simp [Op.eqFields, encE, part, run_equalIn_int _ _ _ _ _ _ _ Try.underlying3, run_equalIn_string _ _ _ _ _ Try.underlying9, Try.isAgg3, Try.isAgg9, ite_and, int_beq, B_toList, lst_beq]

/-- masterdisc/susp.isSignature (function 49) -/
theorem sig_c (s : List UInt8) (w : World) (hs0 : s.length ≤ 9223372036854775807) : CallR Try.prog 49 [.string (B s)] w (fun v w' => v = .bool (sig s) ∧ Ext w w') := by
  refine callR_of (n := 30) [(0, .string (B s))] Try.func49 rfl rfl (Nat.le_of_ble_eq_true rfl) rfl ?_
  refine sc_seq ?_
  refine sc_reg ?_
  refine Go.XK.s (v := .bool false) (e_assign rfl) ?_
  refine sl_nil (nrm_k ?_)
  refine sc_seq ?_
  refine sc_seq ?_
  refine sc_reg ?_
  refine Go.XK.s (v := .string (B s)) (e_move rfl) ?_
  refine s_bytes rfl Try.underlying9 Try.underlying70 Try.underlying5 ?_
  intro b6 cp6 w1 hB6 he6 hx6
  have ge_b6 : w.heap.size ≤ b6 := by have h_ := (Below.size (Ext.rfl' w)); omega
  have xw_w1 : Ext w w1 := Ext.tr (Ext.rfl' w) hx6
  refine Go.XK.s (v := .int .i64 (s.length : Int)) (e_len Try.underlying70 rfl) ?_
  refine Go.XK.s (v := .int .i64 0) (e_move rfl) ?_
  refine sl_nil (nrm_k ?_)
  refine sc_block ?_
  refine sc_loop (fun m_ l_ w_ => ∃ (i : Nat), m_ = s.length - i ∧ l_ = [(8, .int .i64 (i : Int)), (0, .string (B s)), (6, .slice (some ⟨b6, 0, none⟩) s.length cp6), (7, .int .i64 (s.length : Int))] ∧ Ext w w_ ∧ BB w_ b6 5 s ∧ i ≤ s.length ∧ (s.take i).all okc = true) _ [(8, .int .i64 (0 : Int)), (0, .string (B s)), (6, .slice (some ⟨b6, 0, none⟩) s.length cp6), (7, .int .i64 (s.length : Int))] ⟨0, rfl, rfl, xw_w1, hB6, ⟨by omega, rfl⟩⟩ (.cons rfl (.cons rfl (.cons rfl (.cons rfl (.nil))))) ?_
  rintro j3 _ w2 ⟨i, rfl, rfl, xw_w2, hB6, ⟨hi, hs⟩⟩
  refine sc_seq ?_
  refine sc_reg ?_
  refine Go.XK.s (v := .bool (decide ((i : Int) < (s.length : Int)))) (e_lt rfl rfl) ?_
  refine sl_nil (nrm_k ?_)
  refine sc_seq ?_
  refine sc_ifd rfl (fun c9 => ?_) (fun c9 => ?_)
  ·
    obtain ⟨x, hx⟩ : ∃ x, s[i]? = some x := ⟨_, List.getElem?_eq_getElem (by omega)⟩
    refine sc_skip (nrm_k ?_)
    refine sc_seq ?_
    refine sc_block ?_
    refine sc_seq ?_
    refine sc_reg ?_
    refine Go.XK.s (v := .pointer (some ⟨b6, i, none⟩)) (e_idxBlk1 Try.underlying70 Try.sizeOf5 rfl rfl i (by omega) (by omega)) ?_
    refine Go.XK.s (v := .int .u8 x.toNat) (e_ldByte i x rfl hB6 hx Try.isAgg5) ?_
    refine Go.XK.s (v := .int .u8 x.toNat) (e_assign rfl) ?_
    refine sl_nil (nrm_k ?_)
    refine sc_seq ?_
    refine sc_reg ?_
    refine Go.XK.s (v := .int .u8 x.toNat) (e_move rfl) ?_
    refine Go.XK.s (v := .bool (decide (x < (65 : UInt8)))) (e_blt (a := x) (b := 65) rfl rfl) ?_
    refine Go.XK.s (v := .bool (decide (x < (65 : UInt8)))) (e_move rfl) ?_
    refine sl_merge 3 17 (.bool ((decide (x < (65 : UInt8))) || (decide ((90 : UInt8) < x)))) ?_ ?_
    · refine sl_case (t := 14) rfl (fun g4_2 => ?_) (fun g4_2 => ?_)
      ·
        refine sl_gskip rfl rfl g4_2 (by decide) ?_
        refine sl_gskip rfl rfl g4_2 (by decide) ?_
        refine Go.XK.s (v := .bool true) (e_pickT rfl g4_2 rfl) ?_
        exact sl_nil (fun a ha => ⟨rfl, ha.sub (.cons (by rw [g4_2]; rfl) (sub_self_cons (sub_self_cons (sub_self_cons (Sub.refl _) rfl) rfl) rfl))⟩)
      ·
        refine sl_gev (v := .int .u8 x.toNat) rfl rfl g4_2 (e_move rfl) rfl (by decide) ?_
        refine sl_gev (v := .bool (decide ((90 : UInt8) < x))) rfl rfl g4_2 (e_bgt (a := x) (b := 90) rfl rfl) rfl (by decide) ?_
        refine Go.XK.s (v := .bool (decide ((90 : UInt8) < x))) (e_pickF rfl g4_2 rfl) ?_
        exact sl_nil (fun a ha => ⟨rfl, ha.sub (.cons (by rw [g4_2]; rfl) (sub_self_cons (sub_self_cons (sub_self_cons (Sub.refl _) rfl) rfl) rfl))⟩)
    refine Go.XK.s (v := .bool ((decide (x < (65 : UInt8))) || (decide ((90 : UInt8) < x)))) (e_move rfl) ?_
    refine sl_merge 7 25 (.bool (((decide (x < (65 : UInt8))) || (decide ((90 : UInt8) < x))) && ((decide (x < (48 : UInt8))) || (decide ((57 : UInt8) < x))))) ?_ ?_
    · refine sl_case (t := 18) rfl (fun g4_6 => ?_) (fun g4_6 => ?_)
      ·
        refine sl_gev (v := .int .u8 x.toNat) rfl rfl g4_6 (e_move rfl) rfl (by decide) ?_
        refine sl_gev (v := .bool (decide (x < (48 : UInt8)))) rfl rfl g4_6 (e_blt (a := x) (b := 48) rfl rfl) rfl (by decide) ?_
        refine sl_gev (v := .bool (decide (x < (48 : UInt8)))) rfl rfl g4_6 (e_move rfl) rfl (by decide) ?_
        refine sl_merge 3 24 (.bool ((decide (x < (48 : UInt8))) || (decide ((57 : UInt8) < x)))) ?_ ?_
        · refine sl_case (t := 21) rfl (fun g4_9 => ?_) (fun g4_9 => ?_)
          ·
            refine sl_gskip rfl rfl g4_9 (by decide) ?_
            refine sl_gskip rfl rfl g4_9 (by decide) ?_
            refine sl_gev (v := .bool true) rfl rfl g4_6 (e_pickT rfl g4_9 rfl) rfl (by decide) ?_
            exact sl_nil (fun a ha => ⟨rfl, ha.sub (.cons (by rw [g4_9]; rfl) (sub_self_cons (sub_self_cons (sub_self_cons (Sub.refl _) rfl) rfl) rfl))⟩)
          ·
            refine sl_gev (v := .int .u8 x.toNat) rfl rfl g4_9 (e_move rfl) rfl (by decide) ?_
            refine sl_gev (v := .bool (decide ((57 : UInt8) < x))) rfl rfl g4_9 (e_bgt (a := x) (b := 57) rfl rfl) rfl (by decide) ?_
            refine sl_gev (v := .bool (decide ((57 : UInt8) < x))) rfl rfl g4_6 (e_pickF rfl g4_9 rfl) rfl (by decide) ?_
            exact sl_nil (fun a ha => ⟨rfl, ha.sub (.cons (by rw [g4_9]; rfl) (sub_self_cons (sub_self_cons (sub_self_cons (Sub.refl _) rfl) rfl) rfl))⟩)
        refine Go.XK.s (v := .bool ((decide (x < (48 : UInt8))) || (decide ((57 : UInt8) < x)))) (e_pickT rfl g4_6 rfl) ?_
        exact sl_nil (fun a ha => ⟨rfl, ha.sub (.cons (by rw [g4_6]; rfl) (sub_self_cons (sub_self_cons (sub_self_cons (sub_self_cons (sub_self_cons (Sub.refl _) rfl) rfl) rfl) rfl) rfl))⟩)
      ·
        refine sl_gskip rfl rfl g4_6 (by decide) ?_
        refine sl_gskip rfl rfl g4_6 (by decide) ?_
        refine sl_gskip rfl rfl g4_6 (by decide) ?_
        refine sl_gskipU rfl rfl (by decide) ?_
        refine sl_gskipU rfl rfl (by decide) ?_
        refine sl_gskip rfl rfl g4_6 (by decide) ?_
        refine Go.XK.s (v := .bool false) (e_pickF rfl g4_6 rfl) ?_
        exact sl_nil (fun a ha => ⟨rfl, ha.sub (.cons (by rw [g4_6]; rfl) (sub_self_cons (sub_self_cons (sub_self_cons (sub_self_cons (sub_self_cons (sub_self_cons (sub_self_cons (Sub.refl _) rfl) rfl) rfl) rfl) rfl) rfl) rfl))⟩)
    refine sl_nil (nrm_k ?_)
    refine sc_if rfl (fun c25 => ?_) (fun c25 => ?_)
    ·
      refine sc_seq ?_
      refine sc_reg ?_
      refine Go.XK.s (v := .bool false) (e_assign rfl) ?_
      refine sl_nil (nrm_k ?_)
      refine sc_retf rfl (ret1 Try.results49 (rvt rfl) ?_)
      exact ⟨congrArg Value.bool (sig_bad hx c25).symm, xw_w2⟩
    ·
      refine sc_skip (nrm_k ?_)
      refine sc_reg ?_
      refine Go.XK.s (v := .int .i64 ((i : Int) + 1)) (e_add rfl rfl (by omega)) ?_
      refine Go.XK.s (v := .int .i64 ((i : Int) + 1)) (e_move rfl) ?_
      refine sl_nil ?_
      exact nrm_loopq rfl _ _ (by omega) ⟨i + 1, rfl, rfl, xw_w2, hB6, ⟨by omega, all_take hx hs (okc_of c25)⟩⟩ (.cons rfl (.cons rfl (.cons rfl (.cons rfl (.nil)))))
  ·
    refine sc_exit rfl (nrm_k ?_)
    refine sc_seq ?_
    refine sc_reg ?_
    refine Go.XK.s (v := .string (B s)) (e_move rfl) ?_
    refine Go.XK.s (v := .int .i64 (s.length : Int)) (e_slen Try.underlying9 rfl) ?_
    refine Go.XK.s (v := .bool (decide ((s.length : Int) = 2))) (e_eq rfl rfl) ?_
    refine Go.XK.s (v := .bool (decide ((s.length : Int) = 2))) (e_assign rfl) ?_
    refine sl_nil (nrm_k ?_)
    refine sc_retf rfl (ret1 Try.results49 (rvt rfl) ?_)
    exact ⟨congrArg Value.bool (sig_end hs (by omega)).symm, xw_w2⟩

/-- masterdisc/masterdiscref24.signature (function 50) -/
theorem rsig_c (s : List UInt8) (w : World) : CallR Try.prog 50 [.string (B s)] w (fun v w' => v = .bool (sig s) ∧ Ext w w') := by
  refine callR_of (n := 33) [(0, .string (B s))] Try.func50 rfl rfl (Nat.le_of_ble_eq_true rfl) rfl ?_
  refine sc_seq ?_
  refine sc_reg ?_
  refine Go.XK.s (v := .bool false) (e_assign rfl) ?_
  refine sl_nil (nrm_k ?_)
  refine sc_seq ?_
  refine sc_seq ?_
  refine sc_reg ?_
  refine Go.XK.s (v := .string (B s)) (e_move rfl) ?_
  refine Go.XK.s (v := .int .i64 (s.length : Int)) (e_slen Try.underlying9 rfl) ?_
  refine Go.XK.s (v := .bool (decide ((s.length : Int) ≠ 2))) (e_ne rfl rfl) ?_
  refine sl_nil (nrm_k ?_)
  refine sc_ifd rfl (fun c6 => ?_) (fun c6 => ?_)
  ·
    refine sc_seq ?_
    refine sc_reg ?_
    refine Go.XK.s (v := .bool false) (e_assign rfl) ?_
    refine sl_nil (nrm_k ?_)
    refine sc_retf rfl (ret1 Try.results50 (rvt rfl) ?_)
    exact ⟨congrArg Value.bool (show sig s = false from by rw [sig, decide_eq_false (by omega)]; rfl).symm, (Ext.rfl' w)⟩
  ·
    have hl2 : (s.length : Int) = 2 := by omega
    refine sc_skip (nrm_k ?_)
    refine sc_seq ?_
    refine sc_seq ?_
    refine sc_reg ?_
    refine Go.XK.s (v := .int .i64 0) (e_assign rfl) ?_
    refine sl_nil (nrm_k ?_)
    refine sc_block ?_
    refine sc_loop (fun m_ l_ w_ => ∃ (i : Nat), m_ = 2 - i ∧ l_ = [(3, .int .i64 (i : Int)), (0, .string (B s))] ∧ Ext w w_ ∧ i ≤ 2 ∧ (s.take i).all okc = true) _ [(3, .int .i64 (0 : Int)), (0, .string (B s))] ⟨0, rfl, rfl, (Ext.rfl' w), ⟨by omega, rfl⟩⟩ (.cons rfl (.cons rfl (.nil))) ?_
    rintro j2 _ w1 ⟨i, rfl, rfl, xw_w1, ⟨hi, hs⟩⟩
    refine sc_seq ?_
    refine sc_seq ?_
    refine sc_reg ?_
    refine Go.XK.s (v := .int .i64 (i : Int)) (e_move rfl) ?_
    refine Go.XK.s (v := .bool (decide ((i : Int) < 2))) (e_lt rfl rfl) ?_
    refine sl_nil (nrm_k ?_)
    refine sc_ifd rfl (fun c8 => ?_) (fun c8 => ?_)
    ·
      have hx := at_get (s := s) (i := i) (by omega)
      refine sc_skip (nrm_k ?_)
      refine sc_seq ?_
      refine sc_block ?_
      refine sc_seq ?_
      refine sc_reg ?_
      refine Go.XK.s (v := .string (B s)) (e_move rfl) ?_
      refine Go.XK.s (v := .int .i64 (i : Int)) (e_move rfl) ?_
      refine Go.XK.s (v := .int .u8 ((at_ s (i : Int)).toNat)) (e_sat Try.underlying9 rfl rfl (by omega) (by omega)) ?_
      refine Go.XK.s (v := .bool (decide ((at_ s (i : Int)) < (65 : UInt8)))) (e_blt (a := (at_ s (i : Int))) (b := 65) rfl rfl) ?_
      refine Go.XK.s (v := .bool (decide ((at_ s (i : Int)) < (65 : UInt8)))) (e_move rfl) ?_
      refine sl_merge 5 20 (.bool ((decide ((at_ s (i : Int)) < (65 : UInt8))) || (decide ((90 : UInt8) < (at_ s (i : Int)))))) ?_ ?_
      · refine sl_case (t := 15) rfl (fun g6_4 => ?_) (fun g6_4 => ?_)
        ·
          refine sl_gskip rfl rfl g6_4 (by decide) ?_
          refine sl_gskip rfl rfl g6_4 (by decide) ?_
          refine sl_gskip rfl rfl g6_4 (by decide) ?_
          refine sl_gskip rfl rfl g6_4 (by decide) ?_
          refine Go.XK.s (v := .bool true) (e_pickT rfl g6_4 rfl) ?_
          exact sl_nil (fun a ha => ⟨rfl, ha.sub (.cons (by rw [g6_4]; rfl) (sub_self_cons (sub_self_cons (sub_self_cons (sub_self_cons (sub_self_cons (Sub.refl _) rfl) rfl) rfl) rfl) rfl))⟩)
        ·
          refine sl_gev (v := .string (B s)) rfl rfl g6_4 (e_move rfl) rfl (by decide) ?_
          refine sl_gev (v := .int .i64 (i : Int)) rfl rfl g6_4 (e_move rfl) rfl (by decide) ?_
          refine sl_gev (v := .int .u8 ((at_ s (i : Int)).toNat)) rfl rfl g6_4 (e_sat Try.underlying9 rfl rfl (by omega) (by omega)) rfl (by decide) ?_
          refine sl_gev (v := .bool (decide ((90 : UInt8) < (at_ s (i : Int))))) rfl rfl g6_4 (e_bgt (a := (at_ s (i : Int))) (b := 90) rfl rfl) rfl (by decide) ?_
          refine Go.XK.s (v := .bool (decide ((90 : UInt8) < (at_ s (i : Int))))) (e_pickF rfl g6_4 rfl) ?_
          exact sl_nil (fun a ha => ⟨rfl, ha.sub (.cons (by rw [g6_4]; rfl) (sub_self_cons (sub_self_cons (sub_self_cons (sub_self_cons (sub_self_cons (Sub.refl _) rfl) rfl) rfl) rfl) rfl))⟩)
      refine Go.XK.s (v := .bool ((decide ((at_ s (i : Int)) < (65 : UInt8))) || (decide ((90 : UInt8) < (at_ s (i : Int)))))) (e_move rfl) ?_
      refine sl_merge 11 32 (.bool (((decide ((at_ s (i : Int)) < (65 : UInt8))) || (decide ((90 : UInt8) < (at_ s (i : Int))))) && ((decide ((at_ s (i : Int)) < (48 : UInt8))) || (decide ((57 : UInt8) < (at_ s (i : Int))))))) ?_ ?_
      · refine sl_case (t := 21) rfl (fun g6_10 => ?_) (fun g6_10 => ?_)
        ·
          refine sl_gev (v := .string (B s)) rfl rfl g6_10 (e_move rfl) rfl (by decide) ?_
          refine sl_gev (v := .int .i64 (i : Int)) rfl rfl g6_10 (e_move rfl) rfl (by decide) ?_
          refine sl_gev (v := .int .u8 ((at_ s (i : Int)).toNat)) rfl rfl g6_10 (e_sat Try.underlying9 rfl rfl (by omega) (by omega)) rfl (by decide) ?_
          refine sl_gev (v := .bool (decide ((at_ s (i : Int)) < (48 : UInt8)))) rfl rfl g6_10 (e_blt (a := (at_ s (i : Int))) (b := 48) rfl rfl) rfl (by decide) ?_
          refine sl_gev (v := .bool (decide ((at_ s (i : Int)) < (48 : UInt8)))) rfl rfl g6_10 (e_move rfl) rfl (by decide) ?_
          refine sl_merge 5 31 (.bool ((decide ((at_ s (i : Int)) < (48 : UInt8))) || (decide ((57 : UInt8) < (at_ s (i : Int)))))) ?_ ?_
          · refine sl_case (t := 26) rfl (fun g6_15 => ?_) (fun g6_15 => ?_)
            ·
              refine sl_gskip rfl rfl g6_15 (by decide) ?_
              refine sl_gskip rfl rfl g6_15 (by decide) ?_
              refine sl_gskip rfl rfl g6_15 (by decide) ?_
              refine sl_gskip rfl rfl g6_15 (by decide) ?_
              refine sl_gev (v := .bool true) rfl rfl g6_10 (e_pickT rfl g6_15 rfl) rfl (by decide) ?_
              exact sl_nil (fun a ha => ⟨rfl, ha.sub (.cons (by rw [g6_15]; rfl) (sub_self_cons (sub_self_cons (sub_self_cons (sub_self_cons (sub_self_cons (Sub.refl _) rfl) rfl) rfl) rfl) rfl))⟩)
            ·
              refine sl_gev (v := .string (B s)) rfl rfl g6_15 (e_move rfl) rfl (by decide) ?_
              refine sl_gev (v := .int .i64 (i : Int)) rfl rfl g6_15 (e_move rfl) rfl (by decide) ?_
              refine sl_gev (v := .int .u8 ((at_ s (i : Int)).toNat)) rfl rfl g6_15 (e_sat Try.underlying9 rfl rfl (by omega) (by omega)) rfl (by decide) ?_
              refine sl_gev (v := .bool (decide ((57 : UInt8) < (at_ s (i : Int))))) rfl rfl g6_15 (e_bgt (a := (at_ s (i : Int))) (b := 57) rfl rfl) rfl (by decide) ?_
              refine sl_gev (v := .bool (decide ((57 : UInt8) < (at_ s (i : Int))))) rfl rfl g6_10 (e_pickF rfl g6_15 rfl) rfl (by decide) ?_
              exact sl_nil (fun a ha => ⟨rfl, ha.sub (.cons (by rw [g6_15]; rfl) (sub_self_cons (sub_self_cons (sub_self_cons (sub_self_cons (sub_self_cons (Sub.refl _) rfl) rfl) rfl) rfl) rfl))⟩)
          refine Go.XK.s (v := .bool ((decide ((at_ s (i : Int)) < (48 : UInt8))) || (decide ((57 : UInt8) < (at_ s (i : Int)))))) (e_pickT rfl g6_10 rfl) ?_
          exact sl_nil (fun a ha => ⟨rfl, ha.sub (.cons (by rw [g6_10]; rfl) (sub_self_cons (sub_self_cons (sub_self_cons (sub_self_cons (sub_self_cons (sub_self_cons (sub_self_cons (Sub.refl _) rfl) rfl) rfl) rfl) rfl) rfl) rfl))⟩)
        ·
          refine sl_gskip rfl rfl g6_10 (by decide) ?_
          refine sl_gskip rfl rfl g6_10 (by decide) ?_
          refine sl_gskip rfl rfl g6_10 (by decide) ?_
          refine sl_gskip rfl rfl g6_10 (by decide) ?_
          refine sl_gskip rfl rfl g6_10 (by decide) ?_
          refine sl_gskipU rfl rfl (by decide) ?_
          refine sl_gskipU rfl rfl (by decide) ?_
          refine sl_gskipU rfl rfl (by decide) ?_
          refine sl_gskipU rfl rfl (by decide) ?_
          refine sl_gskip rfl rfl g6_10 (by decide) ?_
          refine Go.XK.s (v := .bool false) (e_pickF rfl g6_10 rfl) ?_
          exact sl_nil (fun a ha => ⟨rfl, ha.sub (.cons (by rw [g6_10]; rfl) (sub_self_cons (sub_self_cons (sub_self_cons (sub_self_cons (sub_self_cons (sub_self_cons (sub_self_cons (sub_self_cons (sub_self_cons (sub_self_cons (sub_self_cons (Sub.refl _) rfl) rfl) rfl) rfl) rfl) rfl) rfl) rfl) rfl) rfl) rfl))⟩)
      refine sl_nil (nrm_k ?_)
      refine sc_if rfl (fun c32 => ?_) (fun c32 => ?_)
      ·
        refine sc_seq ?_
        refine sc_reg ?_
        refine Go.XK.s (v := .bool false) (e_assign rfl) ?_
        refine sl_nil (nrm_k ?_)
        refine sc_retf rfl (ret1 Try.results50 (rvt rfl) ?_)
        exact ⟨congrArg Value.bool (sig_bad hx c32).symm, xw_w1⟩
      ·
        refine sc_skip (nrm_k ?_)
        refine sc_reg ?_
        refine Go.XK.s (v := .int .i64 (i : Int)) (e_move rfl) ?_
        refine Go.XK.s (v := .int .i64 ((i : Int) + 1)) (e_add rfl rfl (by omega)) ?_
        refine Go.XK.s (v := .int .i64 ((i : Int) + 1)) (e_assign rfl) ?_
        refine sl_nil ?_
        exact nrm_loopq rfl _ _ (by omega) ⟨i + 1, rfl, rfl, xw_w1, ⟨by omega, all_take hx hs (okc_of c32)⟩⟩ (.cons rfl (.cons rfl (.nil)))
    ·
      refine sc_exit rfl (nrm_k ?_)
      refine sc_seq ?_
      refine sc_reg ?_
      refine Go.XK.s (v := .bool true) (e_assign rfl) ?_
      refine sl_nil (nrm_k ?_)
      refine sc_retf rfl (ret1 Try.results50 (rvt rfl) ?_)
      exact ⟨congrArg Value.bool ((sig_end hs (by omega)).trans (decide_eq_true hl2)).symm, xw_w1⟩

/-- masterdisc/susp.check (function 44) -/
theorem check_c (l : List En) (A : Option Addr) (c : Nat) (w : World) (hl : SlR w A c 3 encE l) (hsl : ∀ x ∈ l, x.g.length ≤ 9223372036854775807) : CallR Try.prog 44 [.slice A l.length c] w (fun v w' => v = .int .i64 (chkR l) ∧ Ext w w') := by
  have hmx0 := hl.lenle
  simp only [maxLen] at hmx0
  refine callR_of (n := 34) [(0, .slice A l.length c)] Try.func44 rfl rfl (Nat.le_of_ble_eq_true rfl) rfl ?_
  refine sc_seq ?_
  refine sc_reg ?_
  refine Go.XK.s (v := .int .i64 0) (e_assign rfl) ?_
  refine sl_nil (nrm_k ?_)
  refine sc_seq ?_
  refine sc_seq ?_
  refine sc_reg ?_
  refine Go.XK.s (v := .slice A l.length c) (e_move rfl) ?_
  refine Go.XK.s (v := .int .i64 (l.length : Int)) (e_len Try.underlying22 rfl) ?_
  refine Go.XK.s (v := .bool (decide ((1024 : Int) < (l.length : Int)))) (e_gt rfl rfl) ?_
  refine sl_nil (nrm_k ?_)
  refine sc_ifd rfl (fun c7 => ?_) (fun c7 => ?_)
  ·
    refine sc_seq ?_
    refine sc_reg ?_
    refine Go.XK.s (v := .int .i64 7) (e_assign rfl) ?_
    refine sl_nil (nrm_k ?_)
    refine sc_retf rfl (ret1 Try.results44 (rvt rfl) ?_)
    exact ⟨congrArg (Value.int .i64) (chkR_many c7).symm, (Ext.rfl' w)⟩
  ·
    refine sc_skip (nrm_k ?_)
    refine sc_seq ?_
    refine sc_seq ?_
    refine sc_reg ?_
    refine Go.XK.s (v := .slice A l.length c) (e_move rfl) ?_
    refine Go.XK.s (v := .int .i64 (l.length : Int)) (e_len Try.underlying22 rfl) ?_
    refine Go.XK.s (v := .int .i64 0) (e_move rfl) ?_
    refine sl_nil (nrm_k ?_)
    refine sc_block ?_
    refine sc_loop (fun m_ l_ w_ => ∃ (i : Nat), m_ = l.length - i ∧ l_ = [(10, .int .i64 (i : Int)), (8, .slice A l.length c), (9, .int .i64 (l.length : Int))] ∧ Ext w w_ ∧ i ≤ l.length ∧ chkL (l.drop i) = chkL l) _ [(10, .int .i64 (0 : Int)), (8, .slice A l.length c), (9, .int .i64 (l.length : Int))] ⟨0, rfl, rfl, (Ext.rfl' w), ⟨by omega, rfl⟩⟩ (.cons rfl (.cons rfl (.cons rfl (.nil)))) ?_
    rintro j2 _ w1 ⟨i, rfl, rfl, xw_w1, ⟨hi, hch⟩⟩
    refine sc_seq ?_
    refine sc_reg ?_
    refine Go.XK.s (v := .bool (decide ((i : Int) < (l.length : Int)))) (e_lt rfl rfl) ?_
    refine sl_nil (nrm_k ?_)
    refine sc_seq ?_
    refine sc_ifd rfl (fun c11 => ?_) (fun c11 => ?_)
    ·
      obtain ⟨x, hx⟩ : ∃ x, l[i]? = some x := ⟨_, List.getElem?_eq_getElem (by omega)⟩
      have hsx := hsl x (List.mem_of_getElem? hx)
      refine sc_skip (nrm_k ?_)
      refine sc_seq ?_
      refine sc_block ?_
      refine sc_seq ?_
      refine sc_reg ?_
      refine Go.XK.s (v := .pointer (some (el A 3 (i : Int) 0))) (e_idxEl (e := x) Try.underlying22 Try.sizeOf41 rfl rfl (hl.1.ext xw_w1) hx (by omega) rfl) ?_
      refine Go.XK.s (v := .agg #[.string (B x.g), .int .i64 x.v, .string (B x.d)]) (e_ldElA (xs := l) (enc := encE) (e := x) rfl (hl.1.ext xw_w1) hx Try.isAgg41 Try.sizeOf41 rfl) ?_
      refine s_alloc (cs := [.string (B []), .int .i64 0, .string (B [])]) Try.zeroValue41 rfl ?_
      intro b4 w3 hb4 he4 hs4 hx4
      have ge_b4 : w.heap.size ≤ b4 := by have h_ := (Below.size xw_w1); omega
      have xw_w3 : Ext w w3 := Ext.tr xw_w1 hx4
      refine su_blkV [.string (B x.g), .int .i64 x.v, .string (B x.d)] [.string (B x.g), .int .i64 x.v, .string (B x.d)] rfl rfl hb4 rfl Try.sizeOf41 (Nat.le_of_ble_eq_true rfl) rfl rfl ?_
      intro w4 hn_ hm_w4 hs_w4
      have ho_ := hb4
      replace hb4 := hn_
      clear hn_
      have xw_w4 : Ext w w4 := below_mut xw_w3 (Below.size xw_w3) hm_w4 ge_b4
      refine sl_nil (nrm_k ?_)
      refine sc_block ?_
      refine sc_seq ?_
      refine sc_reg ?_
      refine Go.XK.s (v := .pointer (some ⟨b4, 0, none⟩)) (e_fieldB (sz := 1) Try.underlying41 rfl Try.sizeOf9 (by decide) rfl rfl) ?_
      refine Go.XK.s (v := .string (B x.g)) (e_load rfl (load1 Try.isAgg9 (hb4.cell (j := 0) rfl))) ?_
      refine sl_call ent49 rfl rfl (sig_c _ w4 hsx) (by decide) ?_
      rintro _ w5 ⟨rfl, hw5⟩
      have xw_w5 : Ext w w5 := Ext.tr xw_w4 hw5
      replace hb4 := hb4.ext hw5
      refine Go.XK.s (v := .bool (!(sig x.g))) (e_not rfl) ?_
      refine Go.XK.s (v := .bool (!(sig x.g))) (e_assign rfl) ?_
      refine sl_nil (nrm_k ?_)
      refine sc_if rfl (fun c14 => ?_) (fun c14 => ?_)
      ·
        refine sc_seq ?_
        refine sc_reg ?_
        refine Go.XK.s (v := .int .i64 1) (e_assign rfl) ?_
        refine sl_nil (nrm_k ?_)
        refine sc_retf rfl (ret1 Try.results44 (rvt rfl) ?_)
        exact ⟨congrArg (Value.int .i64) (chkR_no (e := 1) c7 hch hx (badE_1 (by simpa using c14)) (by decide)).symm, xw_w5⟩
      ·
        refine sc_seq ?_
        refine sc_reg ?_
        refine Go.XK.s (v := .pointer (some ⟨b4, 1, none⟩)) (e_fieldB (sz := 1) Try.underlying41 rfl Try.sizeOf3 (by decide) rfl rfl) ?_
        refine Go.XK.s (v := .int .i64 x.v) (e_load rfl (load1 Try.isAgg3 (hb4.cell (j := 1) rfl))) ?_
        refine Go.XK.s (v := .bool (decide (x.v < 0))) (e_lt rfl rfl) ?_
        refine Go.XK.s (v := .bool (decide (x.v < 0))) (e_move rfl) ?_
        refine sl_merge 4 27 (.bool ((decide (x.v < 0)) || (decide ((255 : Int) < x.v)))) ?_ ?_
        · refine sl_case (t := 23) rfl (fun g8_3 => ?_) (fun g8_3 => ?_)
          ·
            refine sl_gskip rfl rfl g8_3 (by decide) ?_
            refine sl_gskip rfl rfl g8_3 (by decide) ?_
            refine sl_gskip rfl rfl g8_3 (by decide) ?_
            refine Go.XK.s (v := .bool true) (e_pickT rfl g8_3 rfl) ?_
            exact sl_nil (fun a ha => ⟨rfl, ha.sub (.cons (by rw [g8_3]; rfl) (sub_self_cons (sub_self_cons (sub_self_cons (sub_self_cons (Sub.refl _) rfl) rfl) rfl) rfl))⟩)
          ·
            refine sl_gev (v := .pointer (some ⟨b4, 1, none⟩)) rfl rfl g8_3 (e_fieldB (sz := 1) Try.underlying41 rfl Try.sizeOf3 (by decide) rfl rfl) rfl (by decide) ?_
            refine sl_gev (v := .int .i64 x.v) rfl rfl g8_3 (e_load rfl (load1 Try.isAgg3 (hb4.cell (j := 1) rfl))) rfl (by decide) ?_
            refine sl_gev (v := .bool (decide ((255 : Int) < x.v))) rfl rfl g8_3 (e_gt rfl rfl) rfl (by decide) ?_
            refine Go.XK.s (v := .bool (decide ((255 : Int) < x.v))) (e_pickF rfl g8_3 rfl) ?_
            exact sl_nil (fun a ha => ⟨rfl, ha.sub (.cons (by rw [g8_3]; rfl) (sub_self_cons (sub_self_cons (sub_self_cons (sub_self_cons (Sub.refl _) rfl) rfl) rfl) rfl))⟩)
        refine Go.XK.s (v := .bool ((decide (x.v < 0)) || (decide ((255 : Int) < x.v)))) (e_assign rfl) ?_
        refine sl_nil (nrm_k ?_)
        refine sc_if rfl (fun c19 => ?_) (fun c19 => ?_)
        ·
          refine sc_seq ?_
          refine sc_reg ?_
          refine Go.XK.s (v := .int .i64 2) (e_assign rfl) ?_
          refine sl_nil (nrm_k ?_)
          refine sc_retf rfl (ret1 Try.results44 (rvt rfl) ?_)
          exact ⟨congrArg (Value.int .i64) (chkR_no (e := 2) c7 hch hx (badE_2 (by simpa using c14) c19) (by decide)).symm, xw_w5⟩
        ·
          refine sc_seq ?_
          refine sc_reg ?_
          refine Go.XK.s (v := .pointer (some ⟨b4, 2, none⟩)) (e_fieldB (sz := 1) Try.underlying41 rfl Try.sizeOf9 (by decide) rfl rfl) ?_
          refine Go.XK.s (v := .string (B x.d)) (e_load rfl (load1 Try.isAgg9 (hb4.cell (j := 2) rfl))) ?_
          refine Go.XK.s (v := .int .i64 (x.d.length : Int)) (e_slen Try.underlying9 rfl) ?_
          refine Go.XK.s (v := .bool (decide ((251 : Int) < (x.d.length : Int)))) (e_gt rfl rfl) ?_
          refine Go.XK.s (v := .bool (decide ((251 : Int) < (x.d.length : Int)))) (e_assign rfl) ?_
          refine sl_nil (nrm_k ?_)
          refine sc_ifd rfl (fun c28 => ?_) (fun c28 => ?_)
          ·
            refine sc_seq ?_
            refine sc_reg ?_
            refine Go.XK.s (v := .int .i64 7) (e_assign rfl) ?_
            refine sl_nil (nrm_k ?_)
            refine sc_retf rfl (ret1 Try.results44 (rvt rfl) ?_)
            exact ⟨congrArg (Value.int .i64) (chkR_no (e := 7) c7 hch hx (badE_7 (by simpa using c14) c19 c28) (by decide)).symm, xw_w5⟩
          ·
            refine sc_skip (nrm_k ?_)
            refine sc_reg ?_
            refine Go.XK.s (v := .int .i64 ((i : Int) + 1)) (e_add rfl rfl (by omega)) ?_
            refine Go.XK.s (v := .int .i64 ((i : Int) + 1)) (e_move rfl) ?_
            refine sl_nil ?_
            exact nrm_loopq rfl _ _ (by omega) ⟨i + 1, rfl, rfl, xw_w5, ⟨by omega, by rw [← hch]; exact (chk_ok hx (badE_0 (by simpa using c14) c19 c28)).symm⟩⟩ (.cons rfl (.cons rfl (.cons rfl (.nil))))
    ·
      refine sc_exit rfl (nrm_k ?_)
      refine sc_seq ?_
      refine sc_reg ?_
      refine Go.XK.s (v := .int .i64 0) (e_assign rfl) ?_
      refine sl_nil (nrm_k ?_)
      refine sc_retf rfl (ret1 Try.results44 (rvt rfl) ?_)
      exact ⟨congrArg (Value.int .i64) (chkR_end c7 hch (by omega)).symm, xw_w1⟩

/-- masterdisc/masterdiscref24.Check (function 48) -/
theorem rcheck_c (l : List En) (A : Option Addr) (c : Nat) (w : World) (hl : SlR w A c 3 encE l) : CallR Try.prog 48 [.slice A l.length c] w (fun v w' => v = .int .i64 (chkR l) ∧ Ext w w') := by
  have hmx0 := hl.lenle
  simp only [maxLen] at hmx0
  refine callR_of (n := 41) [(0, .slice A l.length c)] Try.func48 rfl rfl (Nat.le_of_ble_eq_true rfl) rfl ?_
  refine sc_seq ?_
  refine sc_reg ?_
  refine Go.XK.s (v := .int .i64 0) (e_assign rfl) ?_
  refine sl_nil (nrm_k ?_)
  refine sc_seq ?_
  refine sc_seq ?_
  refine sc_reg ?_
  refine Go.XK.s (v := .slice A l.length c) (e_move rfl) ?_
  refine Go.XK.s (v := .int .i64 (l.length : Int)) (e_len Try.underlying22 rfl) ?_
  refine Go.XK.s (v := .bool (decide ((1024 : Int) < (l.length : Int)))) (e_gt rfl rfl) ?_
  refine sl_nil (nrm_k ?_)
  refine sc_ifd rfl (fun c6 => ?_) (fun c6 => ?_)
  ·
    refine sc_seq ?_
    refine sc_reg ?_
    refine Go.XK.s (v := .int .i64 7) (e_assign rfl) ?_
    refine sl_nil (nrm_k ?_)
    refine sc_retf rfl (ret1 Try.results48 (rvt rfl) ?_)
    exact ⟨congrArg (Value.int .i64) (chkR_many c6).symm, (Ext.rfl' w)⟩
  ·
    refine sc_skip (nrm_k ?_)
    refine sc_seq ?_
    refine sc_seq ?_
    refine sc_reg ?_
    refine Go.XK.s (v := .int .i64 0) (e_assign rfl) ?_
    refine sl_nil (nrm_k ?_)
    refine sc_block ?_
    refine sc_loop (fun m_ l_ w_ => ∃ (i : Nat), m_ = l.length - i ∧ l_ = [(3, .int .i64 (i : Int)), (0, .slice A l.length c)] ∧ Ext w w_ ∧ i ≤ l.length ∧ chkL (l.drop i) = chkL l) _ [(3, .int .i64 (0 : Int)), (0, .slice A l.length c)] ⟨0, rfl, rfl, (Ext.rfl' w), ⟨by omega, rfl⟩⟩ (.cons rfl (.cons rfl (.nil))) ?_
    rintro j2 _ w1 ⟨i, rfl, rfl, xw_w1, ⟨hi, hch⟩⟩
    refine sc_seq ?_
    refine sc_seq ?_
    refine sc_reg ?_
    refine Go.XK.s (v := .int .i64 (i : Int)) (e_move rfl) ?_
    refine Go.XK.s (v := .slice A l.length c) (e_move rfl) ?_
    refine Go.XK.s (v := .int .i64 (l.length : Int)) (e_len Try.underlying22 rfl) ?_
    refine Go.XK.s (v := .bool (decide ((i : Int) < (l.length : Int)))) (e_lt rfl rfl) ?_
    refine sl_nil (nrm_k ?_)
    refine sc_ifd rfl (fun c10 => ?_) (fun c10 => ?_)
    ·
      obtain ⟨x, hx⟩ : ∃ x, l[i]? = some x := ⟨_, List.getElem?_eq_getElem (by omega)⟩
      refine sc_skip (nrm_k ?_)
      refine sc_seq ?_
      refine sc_block ?_
      refine sc_seq ?_
      refine sc_seq ?_
      refine sc_reg ?_
      refine Go.XK.s (v := .slice A l.length c) (e_move rfl) ?_
      refine Go.XK.s (v := .int .i64 (i : Int)) (e_move rfl) ?_
      refine Go.XK.s (v := .pointer (some (el A 3 (i : Int) 0))) (e_idxEl (e := x) Try.underlying22 Try.sizeOf41 rfl rfl (hl.1.ext xw_w1) hx (by omega) rfl) ?_
      refine Go.XK.s (v := .pointer (some (el A 3 (i : Int) 0))) (e_fieldEl (fsz := 1) Try.underlying41 rfl Try.sizeOf9 (by decide) rfl rfl) ?_
      refine Go.XK.s (v := .string (B x.g)) (e_ldEl (xs := l) (enc := encE) (e := x) rfl (hl.1.ext xw_w1) hx Try.isAgg9 rfl) ?_
      refine sl_call ent50 rfl rfl (rsig_c _ w1) (by decide) ?_
      rintro _ w3 ⟨rfl, hw3⟩
      have xw_w3 : Ext w w3 := Ext.tr xw_w1 hw3
      refine Go.XK.s (v := .bool (!(sig x.g))) (e_not rfl) ?_
      refine sl_nil (nrm_k ?_)
      refine sc_if rfl (fun c19 => ?_) (fun c19 => ?_)
      ·
        refine sc_seq ?_
        refine sc_reg ?_
        refine Go.XK.s (v := .int .i64 1) (e_assign rfl) ?_
        refine sl_nil (nrm_k ?_)
        refine sc_retf rfl (ret1 Try.results48 (rvt rfl) ?_)
        exact ⟨congrArg (Value.int .i64) (chkR_no (e := 1) c6 hch hx (badE_1 (by simpa using c19)) (by decide)).symm, xw_w3⟩
      ·
        refine sc_skip (nrm_k ?_)
        refine sc_seq ?_
        refine sc_seq ?_
        refine sc_reg ?_
        refine Go.XK.s (v := .slice A l.length c) (e_move rfl) ?_
        refine Go.XK.s (v := .int .i64 (i : Int)) (e_move rfl) ?_
        refine Go.XK.s (v := .pointer (some (el A 3 (i : Int) 0))) (e_idxEl (e := x) Try.underlying22 Try.sizeOf41 rfl rfl (hl.1.ext xw_w3) hx (by omega) rfl) ?_
        refine Go.XK.s (v := .pointer (some (el A 3 (i : Int) 1))) (e_fieldEl (fsz := 1) Try.underlying41 rfl Try.sizeOf3 (by decide) rfl rfl) ?_
        refine Go.XK.s (v := .int .i64 x.v) (e_ldEl (xs := l) (enc := encE) (e := x) rfl (hl.1.ext xw_w3) hx Try.isAgg3 rfl) ?_
        refine Go.XK.s (v := .bool (decide (x.v < 0))) (e_lt rfl rfl) ?_
        refine Go.XK.s (v := .bool (decide (x.v < 0))) (e_move rfl) ?_
        refine sl_merge 7 33 (.bool ((decide (x.v < 0)) || (decide ((255 : Int) < x.v)))) ?_ ?_
        · refine sl_case (t := 26) rfl (fun g8_6 => ?_) (fun g8_6 => ?_)
          ·
            refine sl_gskip rfl rfl g8_6 (by decide) ?_
            refine sl_gskip rfl rfl g8_6 (by decide) ?_
            refine sl_gskip rfl rfl g8_6 (by decide) ?_
            refine sl_gskip rfl rfl g8_6 (by decide) ?_
            refine sl_gskip rfl rfl g8_6 (by decide) ?_
            refine sl_gskip rfl rfl g8_6 (by decide) ?_
            refine Go.XK.s (v := .bool true) (e_pickT rfl g8_6 rfl) ?_
            exact sl_nil (fun a ha => ⟨rfl, ha.sub (.cons (by rw [g8_6]; rfl) (sub_self_cons (sub_self_cons (sub_self_cons (sub_self_cons (sub_self_cons (sub_self_cons (sub_self_cons (Sub.refl _) rfl) rfl) rfl) rfl) rfl) rfl) rfl))⟩)
          ·
            refine sl_gev (v := .slice A l.length c) rfl rfl g8_6 (e_move rfl) rfl (by decide) ?_
            refine sl_gev (v := .int .i64 (i : Int)) rfl rfl g8_6 (e_move rfl) rfl (by decide) ?_
            refine sl_gev (v := .pointer (some (el A 3 (i : Int) 0))) rfl rfl g8_6 (e_idxEl (e := x) Try.underlying22 Try.sizeOf41 rfl rfl (hl.1.ext xw_w3) hx (by omega) rfl) rfl (by decide) ?_
            refine sl_gev (v := .pointer (some (el A 3 (i : Int) 1))) rfl rfl g8_6 (e_fieldEl (fsz := 1) Try.underlying41 rfl Try.sizeOf3 (by decide) rfl rfl) rfl (by decide) ?_
            refine sl_gev (v := .int .i64 x.v) rfl rfl g8_6 (e_ldEl (xs := l) (enc := encE) (e := x) rfl (hl.1.ext xw_w3) hx Try.isAgg3 rfl) rfl (by decide) ?_
            refine sl_gev (v := .bool (decide ((255 : Int) < x.v))) rfl rfl g8_6 (e_gt rfl rfl) rfl (by decide) ?_
            refine Go.XK.s (v := .bool (decide ((255 : Int) < x.v))) (e_pickF rfl g8_6 rfl) ?_
            exact sl_nil (fun a ha => ⟨rfl, ha.sub (.cons (by rw [g8_6]; rfl) (sub_self_cons (sub_self_cons (sub_self_cons (sub_self_cons (sub_self_cons (sub_self_cons (sub_self_cons (Sub.refl _) rfl) rfl) rfl) rfl) rfl) rfl) rfl))⟩)
        refine sl_nil (nrm_k ?_)
        refine sc_if rfl (fun c33 => ?_) (fun c33 => ?_)
        ·
          refine sc_seq ?_
          refine sc_reg ?_
          refine Go.XK.s (v := .int .i64 2) (e_assign rfl) ?_
          refine sl_nil (nrm_k ?_)
          refine sc_retf rfl (ret1 Try.results48 (rvt rfl) ?_)
          exact ⟨congrArg (Value.int .i64) (chkR_no (e := 2) c6 hch hx (badE_2 (by simpa using c19) c33) (by decide)).symm, xw_w3⟩
        ·
          refine sc_skip (nrm_k ?_)
          refine sc_seq ?_
          refine sc_reg ?_
          refine Go.XK.s (v := .slice A l.length c) (e_move rfl) ?_
          refine Go.XK.s (v := .int .i64 (i : Int)) (e_move rfl) ?_
          refine Go.XK.s (v := .pointer (some (el A 3 (i : Int) 0))) (e_idxEl (e := x) Try.underlying22 Try.sizeOf41 rfl rfl (hl.1.ext xw_w3) hx (by omega) rfl) ?_
          refine Go.XK.s (v := .pointer (some (el A 3 (i : Int) 2))) (e_fieldEl (fsz := 1) Try.underlying41 rfl Try.sizeOf9 (by decide) rfl rfl) ?_
          refine Go.XK.s (v := .string (B x.d)) (e_ldEl (xs := l) (enc := encE) (e := x) rfl (hl.1.ext xw_w3) hx Try.isAgg9 rfl) ?_
          refine Go.XK.s (v := .int .i64 (x.d.length : Int)) (e_slen Try.underlying9 rfl) ?_
          refine Go.XK.s (v := .bool (decide ((251 : Int) < (x.d.length : Int)))) (e_gt rfl rfl) ?_
          refine sl_nil (nrm_k ?_)
          refine sc_ifd rfl (fun c40 => ?_) (fun c40 => ?_)
          ·
            refine sc_seq ?_
            refine sc_reg ?_
            refine Go.XK.s (v := .int .i64 7) (e_assign rfl) ?_
            refine sl_nil (nrm_k ?_)
            refine sc_retf rfl (ret1 Try.results48 (rvt rfl) ?_)
            exact ⟨congrArg (Value.int .i64) (chkR_no (e := 7) c6 hch hx (badE_7 (by simpa using c19) c33 c40) (by decide)).symm, xw_w3⟩
          ·
            refine sc_skip (nrm_k ?_)
            refine sc_reg ?_
            refine Go.XK.s (v := .int .i64 (i : Int)) (e_move rfl) ?_
            refine Go.XK.s (v := .int .i64 ((i : Int) + 1)) (e_add rfl rfl (by omega)) ?_
            refine Go.XK.s (v := .int .i64 ((i : Int) + 1)) (e_assign rfl) ?_
            refine sl_nil ?_
            exact nrm_loopq rfl _ _ (by omega) ⟨i + 1, rfl, rfl, xw_w3, ⟨by omega, by rw [← hch]; exact (chk_ok hx (badE_0 (by simpa using c19) c33 c40)).symm⟩⟩ (.cons rfl (.cons rfl (.nil)))
    ·
      refine sc_exit rfl (nrm_k ?_)
      refine sc_seq ?_
      refine sc_reg ?_
      refine Go.XK.s (v := .int .i64 0) (e_assign rfl) ?_
      refine sl_nil (nrm_k ?_)
      refine sc_retf rfl (ret1 Try.results48 (rvt rfl) ?_)
      exact ⟨congrArg (Value.int .i64) (chkR_end c6 hch (by omega)).symm, xw_w1⟩

/-- masterdisc/susp.Size (function 15) -/
theorem size_c (l : List En) (A : Option Addr) (c : Nat) (w : World) (hl : SlR w A c 3 encE l) : CallR Try.prog 15 [.slice A l.length c] w (fun v w' => v = .int .i64 (wr64 (szL l : Int)) ∧ Ext w w') := by
  have hmx0 := hl.lenle
  simp only [maxLen] at hmx0
  refine callR_of (n := 20) [(0, .slice A l.length c)] Try.func15 rfl rfl (Nat.le_of_ble_eq_true rfl) rfl ?_
  refine sc_seq ?_
  refine sc_reg ?_
  refine Go.XK.s (v := .int .i64 0) (e_assign rfl) ?_
  refine sl_nil (nrm_k ?_)
  refine sc_seq ?_
  refine sc_reg ?_
  refine Go.XK.s (v := .int .i64 0) (e_assign rfl) ?_
  refine sl_nil (nrm_k ?_)
  refine sc_seq ?_
  refine sc_seq ?_
  refine sc_reg ?_
  refine Go.XK.s (v := .slice A l.length c) (e_move rfl) ?_
  refine Go.XK.s (v := .int .i64 (l.length : Int)) (e_len Try.underlying22 rfl) ?_
  refine Go.XK.s (v := .int .i64 0) (e_move rfl) ?_
  refine sl_nil (nrm_k ?_)
  refine sc_block ?_
  refine sc_loop (fun m_ l_ w_ => ∃ (i : Nat) (z : Int), m_ = l.length - i ∧ l_ = [(8, .int .i64 (i : Int)), (3, .int .i64 z), (6, .slice A l.length c), (7, .int .i64 (l.length : Int))] ∧ Ext w w_ ∧ i ≤ l.length ∧ z = wr64 (szL (l.take i) : Int)) _ [(8, .int .i64 (0 : Int)), (3, .int .i64 0), (6, .slice A l.length c), (7, .int .i64 (l.length : Int))] ⟨0, 0, rfl, rfl, (Ext.rfl' w), ⟨by omega, by rw [wr64_id (by omega) (by simp [szL])]; rfl⟩⟩ (.cons rfl (.cons rfl (.cons rfl (.cons rfl (.nil))))) ?_
  rintro j2 _ w1 ⟨i, z, rfl, rfl, xw_w1, ⟨hi, hz⟩⟩
  refine sc_seq ?_
  refine sc_reg ?_
  refine Go.XK.s (v := .bool (decide ((i : Int) < (l.length : Int)))) (e_lt rfl rfl) ?_
  refine sl_nil (nrm_k ?_)
  refine sc_seq ?_
  refine sc_ifd rfl (fun c9 => ?_) (fun c9 => ?_)
  ·
    obtain ⟨x, hx⟩ : ∃ x, l[i]? = some x := ⟨_, List.getElem?_eq_getElem (by omega)⟩
    refine sc_skip (nrm_k ?_)
    refine sc_seq ?_
    refine sc_block ?_
    refine sc_seq ?_
    refine sc_reg ?_
    refine Go.XK.s (v := .pointer (some (el A 3 (i : Int) 0))) (e_idxEl (e := x) Try.underlying22 Try.sizeOf41 rfl rfl (hl.1.ext xw_w1) hx (by omega) rfl) ?_
    refine Go.XK.s (v := .agg #[.string (B x.g), .int .i64 x.v, .string (B x.d)]) (e_ldElA (xs := l) (enc := encE) (e := x) rfl (hl.1.ext xw_w1) hx Try.isAgg41 Try.sizeOf41 rfl) ?_
    refine s_alloc (cs := [.string (B []), .int .i64 0, .string (B [])]) Try.zeroValue41 rfl ?_
    intro b5 w3 hb5 he5 hs5 hx5
    have ge_b5 : w.heap.size ≤ b5 := by have h_ := (Below.size xw_w1); omega
    have xw_w3 : Ext w w3 := Ext.tr xw_w1 hx5
    refine su_blkV [.string (B x.g), .int .i64 x.v, .string (B x.d)] [.string (B x.g), .int .i64 x.v, .string (B x.d)] rfl rfl hb5 rfl Try.sizeOf41 (Nat.le_of_ble_eq_true rfl) rfl rfl ?_
    intro w4 hn_ hm_w4 hs_w4
    have ho_ := hb5
    replace hb5 := hn_
    clear hn_
    have xw_w4 : Ext w w4 := below_mut xw_w3 (Below.size xw_w3) hm_w4 ge_b5
    refine sl_nil (nrm_k ?_)
    refine sc_reg ?_
    refine Go.XK.s (v := .int .i64 z) (e_move rfl) ?_
    refine Go.XK.s (v := .pointer (some ⟨b5, 2, none⟩)) (e_fieldB (sz := 1) Try.underlying41 rfl Try.sizeOf9 (by decide) rfl rfl) ?_
    refine Go.XK.s (v := .string (B x.d)) (e_load rfl (load1 Try.isAgg9 (hb5.cell (j := 2) rfl))) ?_
    refine Go.XK.s (v := .int .i64 (x.d.length : Int)) (e_slen Try.underlying9 rfl) ?_
    refine Go.XK.s (v := .int .i64 (IntKind.i64.wrap (4 + (x.d.length : Int)))) (e_addw rfl rfl) ?_
    refine Go.XK.s (v := .int .i64 (IntKind.i64.wrap (z + (IntKind.i64.wrap (4 + (x.d.length : Int)))))) (e_addw rfl rfl) ?_
    refine Go.XK.s (v := .int .i64 (IntKind.i64.wrap (z + (IntKind.i64.wrap (4 + (x.d.length : Int)))))) (e_assign rfl) ?_
    refine sl_nil (nrm_k ?_)
    refine sc_reg ?_
    refine Go.XK.s (v := .int .i64 ((i : Int) + 1)) (e_add rfl rfl (by omega)) ?_
    refine Go.XK.s (v := .int .i64 ((i : Int) + 1)) (e_move rfl) ?_
    refine sl_nil ?_
    exact nrm_loopq rfl _ _ (by omega) ⟨i + 1, _, rfl, rfl, xw_w4, ⟨by omega, sz_next hx hz⟩⟩ (.cons rfl (.cons rfl (.cons rfl (.cons rfl (.nil)))))
  ·
    refine sc_exit rfl (nrm_k ?_)
    refine sc_seq ?_
    refine sc_reg ?_
    refine Go.XK.s (v := .int .i64 z) (e_move rfl) ?_
    refine Go.XK.s (v := .int .i64 z) (e_assign rfl) ?_
    refine sl_nil (nrm_k ?_)
    refine sc_retf rfl (ret1 Try.results15 (rvt rfl) ?_)
    rw [List.take_of_length_le (show l.length ≤ i by omega)] at hz
    exact ⟨congrArg (Value.int .i64) hz, xw_w1⟩

/-- masterdisc/masterdiscref24.Size (function 16) -/
theorem rsize_c (l : List En) (A : Option Addr) (c : Nat) (w : World) (hl : SlR w A c 3 encE l) : CallR Try.prog 16 [.slice A l.length c] w (fun v w' => v = .int .i64 (wr64 (szL l : Int)) ∧ Ext w w') := by
  have hmx0 := hl.lenle
  simp only [maxLen] at hmx0
  refine callR_of (n := 21) [(0, .slice A l.length c)] Try.func16 rfl rfl (Nat.le_of_ble_eq_true rfl) rfl ?_
  refine sc_seq ?_
  refine sc_reg ?_
  refine Go.XK.s (v := .int .i64 0) (e_assign rfl) ?_
  refine sl_nil (nrm_k ?_)
  refine sc_seq ?_
  refine sc_reg ?_
  refine Go.XK.s (v := .int .i64 0) (e_assign rfl) ?_
  refine sl_nil (nrm_k ?_)
  refine sc_seq ?_
  refine sc_seq ?_
  refine sc_reg ?_
  refine Go.XK.s (v := .int .i64 0) (e_assign rfl) ?_
  refine sl_nil (nrm_k ?_)
  refine sc_block ?_
  refine sc_loop (fun m_ l_ w_ => ∃ (i : Nat) (z : Int), m_ = l.length - i ∧ l_ = [(4, .int .i64 (i : Int)), (3, .int .i64 z), (0, .slice A l.length c)] ∧ Ext w w_ ∧ i ≤ l.length ∧ z = wr64 (szL (l.take i) : Int)) _ [(4, .int .i64 (0 : Int)), (3, .int .i64 0), (0, .slice A l.length c)] ⟨0, 0, rfl, rfl, (Ext.rfl' w), ⟨by omega, by rw [wr64_id (by omega) (by simp [szL])]; rfl⟩⟩ (.cons rfl (.cons rfl (.cons rfl (.nil)))) ?_
  rintro j2 _ w1 ⟨i, z, rfl, rfl, xw_w1, ⟨hi, hz⟩⟩
  refine sc_seq ?_
  refine sc_seq ?_
  refine sc_reg ?_
  refine Go.XK.s (v := .int .i64 (i : Int)) (e_move rfl) ?_
  refine Go.XK.s (v := .slice A l.length c) (e_move rfl) ?_
  refine Go.XK.s (v := .int .i64 (l.length : Int)) (e_len Try.underlying22 rfl) ?_
  refine Go.XK.s (v := .bool (decide ((i : Int) < (l.length : Int)))) (e_lt rfl rfl) ?_
  refine sl_nil (nrm_k ?_)
  refine sc_ifd rfl (fun c8 => ?_) (fun c8 => ?_)
  ·
    obtain ⟨x, hx⟩ : ∃ x, l[i]? = some x := ⟨_, List.getElem?_eq_getElem (by omega)⟩
    refine sc_skip (nrm_k ?_)
    refine sc_seq ?_
    refine sc_block ?_
    refine sc_reg ?_
    refine Go.XK.s (v := .int .i64 z) (e_move rfl) ?_
    refine Go.XK.s (v := .int .i64 (IntKind.i64.wrap (z + 4))) (e_addw rfl rfl) ?_
    refine Go.XK.s (v := .slice A l.length c) (e_move rfl) ?_
    refine Go.XK.s (v := .int .i64 (i : Int)) (e_move rfl) ?_
    refine Go.XK.s (v := .pointer (some (el A 3 (i : Int) 0))) (e_idxEl (e := x) Try.underlying22 Try.sizeOf41 rfl rfl (hl.1.ext xw_w1) hx (by omega) rfl) ?_
    refine Go.XK.s (v := .pointer (some (el A 3 (i : Int) 2))) (e_fieldEl (fsz := 1) Try.underlying41 rfl Try.sizeOf9 (by decide) rfl rfl) ?_
    refine Go.XK.s (v := .string (B x.d)) (e_ldEl (xs := l) (enc := encE) (e := x) rfl (hl.1.ext xw_w1) hx Try.isAgg9 rfl) ?_
    refine Go.XK.s (v := .int .i64 (x.d.length : Int)) (e_slen Try.underlying9 rfl) ?_
    refine Go.XK.s (v := .int .i64 (IntKind.i64.wrap ((IntKind.i64.wrap (z + 4)) + (x.d.length : Int)))) (e_addw rfl rfl) ?_
    refine Go.XK.s (v := .int .i64 (IntKind.i64.wrap ((IntKind.i64.wrap (z + 4)) + (x.d.length : Int)))) (e_assign rfl) ?_
    refine sl_nil (nrm_k ?_)
    refine sc_reg ?_
    refine Go.XK.s (v := .int .i64 (i : Int)) (e_move rfl) ?_
    refine Go.XK.s (v := .int .i64 ((i : Int) + 1)) (e_add rfl rfl (by omega)) ?_
    refine Go.XK.s (v := .int .i64 ((i : Int) + 1)) (e_assign rfl) ?_
    refine sl_nil ?_
    exact nrm_loopq rfl _ _ (by omega) ⟨i + 1, _, rfl, rfl, xw_w1, ⟨by omega, sz_next2 hx hz⟩⟩ (.cons rfl (.cons rfl (.cons rfl (.nil))))
  ·
    refine sc_exit rfl (nrm_k ?_)
    refine sc_seq ?_
    refine sc_reg ?_
    refine Go.XK.s (v := .int .i64 z) (e_move rfl) ?_
    refine Go.XK.s (v := .int .i64 z) (e_assign rfl) ?_
    refine sl_nil (nrm_k ?_)
    refine sc_retf rfl (ret1 Try.results16 (rvt rfl) ?_)
    rw [List.take_of_length_le (show l.length ≤ i by omega)] at hz
    exact ⟨congrArg (Value.int .i64) hz, xw_w1⟩

/-- masterdisc/masterdiscref24.Small (function 10) -/
theorem small_c (l : List En) (A : Option Addr) (c : Nat) (m : Int) (w : World) (hl : SlR w A c 3 encE l) : CallR Try.prog 10 [.slice A l.length c, .int .i64 m] w (fun v w' => v = .bool (small l m) ∧ Ext w w') := by
  have hmx0 := hl.lenle
  simp only [maxLen] at hmx0
  refine callR_of (n := 32) [(0, .slice A l.length c), (1, .int .i64 m)] Try.func10 rfl rfl (Nat.le_of_ble_eq_true rfl) rfl ?_
  refine sc_seq ?_
  refine sc_reg ?_
  refine Go.XK.s (v := .bool false) (e_assign rfl) ?_
  refine sl_nil (nrm_k ?_)
  refine sc_seq ?_
  refine sc_seq ?_
  refine sc_reg ?_
  refine Go.XK.s (v := .slice A l.length c) (e_move rfl) ?_
  refine Go.XK.s (v := .int .i64 (l.length : Int)) (e_len Try.underlying22 rfl) ?_
  refine Go.XK.s (v := .int .i64 m) (e_move rfl) ?_
  refine Go.XK.s (v := .bool (decide (m < (l.length : Int)))) (e_gt rfl rfl) ?_
  refine sl_nil (nrm_k ?_)
  refine sc_ifd rfl (fun c9 => ?_) (fun c9 => ?_)
  ·
    refine sc_seq ?_
    refine sc_reg ?_
    refine Go.XK.s (v := .bool false) (e_assign rfl) ?_
    refine sl_nil (nrm_k ?_)
    refine sc_retf rfl (ret1 Try.results10 (rvt rfl) ?_)
    exact ⟨congrArg Value.bool (show small l m = false from by rw [small, decide_eq_true c9]; rfl).symm, (Ext.rfl' w)⟩
  ·
    refine sc_skip (nrm_k ?_)
    refine sc_seq ?_
    refine sc_seq ?_
    refine sc_reg ?_
    refine Go.XK.s (v := .int .i64 0) (e_assign rfl) ?_
    refine sl_nil (nrm_k ?_)
    refine sc_block ?_
    refine sc_loop (fun m_ l_ w_ => ∃ (i : Nat), m_ = l.length - i ∧ l_ = [(5, .int .i64 (i : Int)), (0, .slice A l.length c), (1, .int .i64 m)] ∧ Ext w w_ ∧ i ≤ l.length ∧ (l.take i).all smE = true) _ [(5, .int .i64 (0 : Int)), (0, .slice A l.length c), (1, .int .i64 m)] ⟨0, rfl, rfl, (Ext.rfl' w), ⟨by omega, rfl⟩⟩ (.cons rfl (.cons rfl (.cons rfl (.nil)))) ?_
    rintro j2 _ w1 ⟨i, rfl, rfl, xw_w1, ⟨hi, hs⟩⟩
    refine sc_seq ?_
    refine sc_seq ?_
    refine sc_reg ?_
    refine Go.XK.s (v := .int .i64 (i : Int)) (e_move rfl) ?_
    refine Go.XK.s (v := .slice A l.length c) (e_move rfl) ?_
    refine Go.XK.s (v := .int .i64 (l.length : Int)) (e_len Try.underlying22 rfl) ?_
    refine Go.XK.s (v := .bool (decide ((i : Int) < (l.length : Int)))) (e_lt rfl rfl) ?_
    refine sl_nil (nrm_k ?_)
    refine sc_ifd rfl (fun c13 => ?_) (fun c13 => ?_)
    ·
      obtain ⟨x, hx⟩ : ∃ x, l[i]? = some x := ⟨_, List.getElem?_eq_getElem (by omega)⟩
      refine sc_skip (nrm_k ?_)
      refine sc_seq ?_
      refine sc_block ?_
      refine sc_seq ?_
      refine sc_reg ?_
      refine Go.XK.s (v := .slice A l.length c) (e_move rfl) ?_
      refine Go.XK.s (v := .int .i64 (i : Int)) (e_move rfl) ?_
      refine Go.XK.s (v := .pointer (some (el A 3 (i : Int) 0))) (e_idxEl (e := x) Try.underlying22 Try.sizeOf41 rfl rfl (hl.1.ext xw_w1) hx (by omega) rfl) ?_
      refine Go.XK.s (v := .pointer (some (el A 3 (i : Int) 2))) (e_fieldEl (fsz := 1) Try.underlying41 rfl Try.sizeOf9 (by decide) rfl rfl) ?_
      refine Go.XK.s (v := .string (B x.d)) (e_ldEl (xs := l) (enc := encE) (e := x) rfl (hl.1.ext xw_w1) hx Try.isAgg9 rfl) ?_
      refine Go.XK.s (v := .int .i64 (x.d.length : Int)) (e_slen Try.underlying9 rfl) ?_
      refine Go.XK.s (v := .bool (decide ((400 : Int) < (x.d.length : Int)))) (e_gt rfl rfl) ?_
      refine Go.XK.s (v := .bool (decide ((400 : Int) < (x.d.length : Int)))) (e_move rfl) ?_
      refine sl_merge 8 31 (.bool ((decide ((400 : Int) < (x.d.length : Int))) || (decide ((20 : Int) < (x.g.length : Int))))) ?_ ?_
      · refine sl_case (t := 23) rfl (fun g6_7 => ?_) (fun g6_7 => ?_)
        ·
          refine sl_gskip rfl rfl g6_7 (by decide) ?_
          refine sl_gskip rfl rfl g6_7 (by decide) ?_
          refine sl_gskip rfl rfl g6_7 (by decide) ?_
          refine sl_gskip rfl rfl g6_7 (by decide) ?_
          refine sl_gskip rfl rfl g6_7 (by decide) ?_
          refine sl_gskip rfl rfl g6_7 (by decide) ?_
          refine sl_gskip rfl rfl g6_7 (by decide) ?_
          refine Go.XK.s (v := .bool true) (e_pickT rfl g6_7 rfl) ?_
          exact sl_nil (fun a ha => ⟨rfl, ha.sub (.cons (by rw [g6_7]; rfl) (sub_self_cons (sub_self_cons (sub_self_cons (sub_self_cons (sub_self_cons (sub_self_cons (sub_self_cons (sub_self_cons (Sub.refl _) rfl) rfl) rfl) rfl) rfl) rfl) rfl) rfl))⟩)
        ·
          refine sl_gev (v := .slice A l.length c) rfl rfl g6_7 (e_move rfl) rfl (by decide) ?_
          refine sl_gev (v := .int .i64 (i : Int)) rfl rfl g6_7 (e_move rfl) rfl (by decide) ?_
          refine sl_gev (v := .pointer (some (el A 3 (i : Int) 0))) rfl rfl g6_7 (e_idxEl (e := x) Try.underlying22 Try.sizeOf41 rfl rfl (hl.1.ext xw_w1) hx (by omega) rfl) rfl (by decide) ?_
          refine sl_gev (v := .pointer (some (el A 3 (i : Int) 0))) rfl rfl g6_7 (e_fieldEl (fsz := 1) Try.underlying41 rfl Try.sizeOf9 (by decide) rfl rfl) rfl (by decide) ?_
          refine sl_gev (v := .string (B x.g)) rfl rfl g6_7 (e_ldEl (xs := l) (enc := encE) (e := x) rfl (hl.1.ext xw_w1) hx Try.isAgg9 rfl) rfl (by decide) ?_
          refine sl_gev (v := .int .i64 (x.g.length : Int)) rfl rfl g6_7 (e_slen Try.underlying9 rfl) rfl (by decide) ?_
          refine sl_gev (v := .bool (decide ((20 : Int) < (x.g.length : Int)))) rfl rfl g6_7 (e_gt rfl rfl) rfl (by decide) ?_
          refine Go.XK.s (v := .bool (decide ((20 : Int) < (x.g.length : Int)))) (e_pickF rfl g6_7 rfl) ?_
          exact sl_nil (fun a ha => ⟨rfl, ha.sub (.cons (by rw [g6_7]; rfl) (sub_self_cons (sub_self_cons (sub_self_cons (sub_self_cons (sub_self_cons (sub_self_cons (sub_self_cons (sub_self_cons (Sub.refl _) rfl) rfl) rfl) rfl) rfl) rfl) rfl) rfl))⟩)
      refine sl_nil (nrm_k ?_)
      refine sc_if rfl (fun c31 => ?_) (fun c31 => ?_)
      ·
        refine sc_seq ?_
        refine sc_reg ?_
        refine Go.XK.s (v := .bool false) (e_assign rfl) ?_
        refine sl_nil (nrm_k ?_)
        refine sc_retf rfl (ret1 Try.results10 (rvt rfl) ?_)
        exact ⟨congrArg Value.bool (small_no hx c31).symm, xw_w1⟩
      ·
        refine sc_skip (nrm_k ?_)
        refine sc_reg ?_
        refine Go.XK.s (v := .int .i64 (i : Int)) (e_move rfl) ?_
        refine Go.XK.s (v := .int .i64 ((i : Int) + 1)) (e_add rfl rfl (by omega)) ?_
        refine Go.XK.s (v := .int .i64 ((i : Int) + 1)) (e_assign rfl) ?_
        refine sl_nil ?_
        exact nrm_loopq rfl _ _ (by omega) ⟨i + 1, rfl, rfl, xw_w1, ⟨by omega, all_take hx hs (by rw [smE, c31]; rfl)⟩⟩ (.cons rfl (.cons rfl (.cons rfl (.nil))))
    ·
      refine sc_exit rfl (nrm_k ?_)
      refine sc_seq ?_
      refine sc_reg ?_
      refine Go.XK.s (v := .bool true) (e_assign rfl) ?_
      refine sl_nil (nrm_k ?_)
      refine sc_retf rfl (ret1 Try.results10 (rvt rfl) ?_)
      exact ⟨congrArg Value.bool (small_end c9 hs (by omega)).symm, xw_w1⟩

/-- masterdisc/masterdiscref24.Same (function 17) -/
theorem same_c (a b : List (En)) (A A2 : Option Addr) (c d : Nat) (w : World) (hla : SlR w A c 3 encE a) (hlb : SlR w A2 d 3 encE b) : CallR Try.prog 17 [.slice A a.length c, .slice A2 b.length d] w (fun v w' => v = .bool (decide (a = b)) ∧ Ext w w') := by
  have hmx0 := hla.lenle
  simp only [maxLen] at hmx0
  have hmx1 := hlb.lenle
  simp only [maxLen] at hmx1
  refine callR_of (n := 26) [(0, .slice A a.length c), (1, .slice A2 b.length d)] Try.func17 rfl rfl (Nat.le_of_ble_eq_true rfl) rfl ?_
  refine sc_seq ?_
  refine sc_reg ?_
  refine Go.XK.s (v := .bool false) (e_assign rfl) ?_
  refine sl_nil (nrm_k ?_)
  refine sc_seq ?_
  refine sc_seq ?_
  refine sc_reg ?_
  refine Go.XK.s (v := .slice A a.length c) (e_move rfl) ?_
  refine Go.XK.s (v := .int .i64 (a.length : Int)) (e_len Try.underlying22 rfl) ?_
  refine Go.XK.s (v := .slice A2 b.length d) (e_move rfl) ?_
  refine Go.XK.s (v := .int .i64 (b.length : Int)) (e_len Try.underlying22 rfl) ?_
  refine Go.XK.s (v := .bool (decide ((a.length : Int) ≠ (b.length : Int)))) (e_ne rfl rfl) ?_
  refine sl_nil (nrm_k ?_)
  refine sc_ifd rfl (fun c10 => ?_) (fun c10 => ?_)
  ·
    refine sc_seq ?_
    refine sc_reg ?_
    refine Go.XK.s (v := .bool false) (e_assign rfl) ?_
    refine sl_nil (nrm_k ?_)
    refine sc_retf rfl (ret1 Try.results17 (rvt rfl) ?_)
    exact ⟨congrArg Value.bool (decide_eq_false (fun e => by subst e; exact c10 rfl)).symm, (Ext.rfl' w)⟩
  ·
    have hl : a.length = b.length := by omega
    refine sc_skip (nrm_k ?_)
    refine sc_seq ?_
    refine sc_seq ?_
    refine sc_reg ?_
    refine Go.XK.s (v := .int .i64 0) (e_assign rfl) ?_
    refine sl_nil (nrm_k ?_)
    refine sc_block ?_
    refine sc_loop (fun m_ l_ w_ => ∃ (i : Nat), m_ = a.length - i ∧ l_ = [(5, .int .i64 (i : Int)), (0, .slice A a.length c), (1, .slice A2 b.length d)] ∧ Ext w w_ ∧ i ≤ a.length ∧ a.take i = b.take i) _ [(5, .int .i64 (0 : Int)), (0, .slice A a.length c), (1, .slice A2 b.length d)] ⟨0, rfl, rfl, (Ext.rfl' w), ⟨by omega, rfl⟩⟩ (.cons rfl (.cons rfl (.cons rfl (.nil)))) ?_
    rintro j2 _ w1 ⟨i, rfl, rfl, xw_w1, ⟨hi, hs⟩⟩
    refine sc_seq ?_
    refine sc_seq ?_
    refine sc_reg ?_
    refine Go.XK.s (v := .int .i64 (i : Int)) (e_move rfl) ?_
    refine Go.XK.s (v := .slice A a.length c) (e_move rfl) ?_
    refine Go.XK.s (v := .int .i64 (a.length : Int)) (e_len Try.underlying22 rfl) ?_
    refine Go.XK.s (v := .bool (decide ((i : Int) < (a.length : Int)))) (e_lt rfl rfl) ?_
    refine sl_nil (nrm_k ?_)
    refine sc_ifd rfl (fun c14 => ?_) (fun c14 => ?_)
    ·
      obtain ⟨x, hx⟩ : ∃ x, a[i]? = some x := ⟨_, List.getElem?_eq_getElem (by omega)⟩
      obtain ⟨y, hy⟩ : ∃ y, b[i]? = some y := ⟨_, List.getElem?_eq_getElem (by omega)⟩
      refine sc_skip (nrm_k ?_)
      refine sc_seq ?_
      refine sc_block ?_
      refine sc_seq ?_
      refine sc_free [(14, .bool (decide ((i : Int) < (a.length : Int)))), (13, .int .i64 (a.length : Int)), (12, .slice A a.length c), (11, .int .i64 (i : Int)), (5, .int .i64 (i : Int)), (0, .slice A a.length c), (1, .slice A2 b.length d)] [17, 18, 19, 20, 21, 22, 23, 24, 25] [(Is (.slice A a.length c)), (Is (.int .i64 (i : Int))), (Is (.pointer (some (el A 3 (i : Int) 0)))), (Is (.agg #[.string (B x.g), .int .i64 x.v, .string (B x.d)])), (Is (.slice A2 b.length d)), (Is (.int .i64 (i : Int))), (Is (.pointer (some (el A2 3 (i : Int) 0)))), (Is (.agg #[.string (B y.g), .int .i64 y.v, .string (B y.d)])), (Is (.bool (decide (x ≠ y))))] [] (by kernel_rfl) (Sub.refl _) (by kernel_rfl) (by kernel_rfl) (by kernel_rfl) rfl (by kernel_rfl) (ds_ext (Stays.spec (.is _ (.is _ (.is _ (.is _ (.is _ (.is _ (.is _ (.is _ (.is _ (.nil)))))))))))) ⟨?_, ?_, ?_, ?_, ?_, ?_, ?_, ?_, ?_, trivial⟩ ?_
      · intro Q act_ wI hxI ha hp
        have xw_wI : Ext w wI := Ext.tr xw_w1 hxI
        exact h_evA (v := .slice A a.length c) ha rfl (e_move rfl) rfl rfl (Ext.rfl' _)
      · intro Q act_ wI hxI ha hp
        have xw_wI : Ext w wI := Ext.tr xw_w1 hxI
        exact h_evA (v := .int .i64 (i : Int)) ha rfl (e_move rfl) rfl rfl (Ext.rfl' _)
      · intro Q act_ wI hxI ha hp
        have xw_wI : Ext w wI := Ext.tr xw_w1 hxI
        have ha := ha.add (show act_.tmps.getD 17 undef = .slice A a.length c from hp 0 (by kernel_rfl) (by decide))
        have ha := ha.add (show act_.tmps.getD 18 undef = .int .i64 (i : Int) from hp 1 (by kernel_rfl) (by decide))
        exact h_evA (v := .pointer (some (el A 3 (i : Int) 0))) ha rfl (e_idxEl (e := x) Try.underlying22 Try.sizeOf41 rfl rfl (hla.1.ext xw_wI) hx (by omega) rfl) rfl rfl (Ext.rfl' _)
      · intro Q act_ wI hxI ha hp
        have xw_wI : Ext w wI := Ext.tr xw_w1 hxI
        have ha := ha.add (show act_.tmps.getD 19 undef = .pointer (some (el A 3 (i : Int) 0)) from hp 2 (by kernel_rfl) (by decide))
        exact h_evA (v := .agg #[.string (B x.g), .int .i64 x.v, .string (B x.d)]) ha rfl (e_ldElA (xs := a) (enc := encE) (e := x) rfl (hla.1.ext xw_wI) hx Try.isAgg41 Try.sizeOf41 rfl) rfl rfl (Ext.rfl' _)
      · intro Q act_ wI hxI ha hp
        have xw_wI : Ext w wI := Ext.tr xw_w1 hxI
        exact h_evA (v := .slice A2 b.length d) ha rfl (e_move rfl) rfl rfl (Ext.rfl' _)
      · intro Q act_ wI hxI ha hp
        have xw_wI : Ext w wI := Ext.tr xw_w1 hxI
        exact h_evA (v := .int .i64 (i : Int)) ha rfl (e_move rfl) rfl rfl (Ext.rfl' _)
      · intro Q act_ wI hxI ha hp
        have xw_wI : Ext w wI := Ext.tr xw_w1 hxI
        have ha := ha.add (show act_.tmps.getD 21 undef = .slice A2 b.length d from hp 4 (by kernel_rfl) (by decide))
        have ha := ha.add (show act_.tmps.getD 22 undef = .int .i64 (i : Int) from hp 5 (by kernel_rfl) (by decide))
        exact h_evA (v := .pointer (some (el A2 3 (i : Int) 0))) ha rfl (e_idxEl (e := y) Try.underlying22 Try.sizeOf41 rfl rfl (hlb.1.ext xw_wI) hy (by omega) rfl) rfl rfl (Ext.rfl' _)
      · intro Q act_ wI hxI ha hp
        have xw_wI : Ext w wI := Ext.tr xw_w1 hxI
        have ha := ha.add (show act_.tmps.getD 23 undef = .pointer (some (el A2 3 (i : Int) 0)) from hp 6 (by kernel_rfl) (by decide))
        exact h_evA (v := .agg #[.string (B y.g), .int .i64 y.v, .string (B y.d)]) ha rfl (e_ldElA (xs := b) (enc := encE) (e := y) rfl (hlb.1.ext xw_wI) hy Try.isAgg41 Try.sizeOf41 rfl) rfl rfl (Ext.rfl' _)
      · intro Q act_ wI hxI ha hp
        have xw_wI : Ext w wI := Ext.tr xw_w1 hxI
        have ha := ha.add (show act_.tmps.getD 20 undef = .agg #[.string (B x.g), .int .i64 x.v, .string (B x.d)] from hp 3 (by kernel_rfl) (by decide))
        have ha := ha.add (show act_.tmps.getD 24 undef = .agg #[.string (B y.g), .int .i64 y.v, .string (B y.d)] from hp 7 (by kernel_rfl) (by decide))
        exact h_evA (v := .bool (decide (x ≠ y))) ha rfl (e_bin rfl rfl (run_neq_en _ _ x y _)) rfl rfl (Ext.rfl' _)
      intro vs_ w3 hx_w3 hvs act_ ha hv
      have xw_w3 : Ext w w3 := Ext.tr xw_w1 hx_w3
      have ha := ha.add ((hv 8 (by decide)).trans (show vs_ 8 = .bool (decide (x ≠ y)) from hvs 8 (by decide)))
      refine st_go ha ?_
      clear ha hv hvs
      refine st_nil (nrm_k ?_)
      refine sc_ifd rfl (fun c25 => ?_) (fun c25 => ?_)
      ·
        refine sc_seq ?_
        refine sc_reg ?_
        refine Go.XK.s (v := .bool false) (e_assign rfl) ?_
        refine sl_nil (nrm_k ?_)
        refine sc_retf rfl (ret1 Try.results17 (rvt rfl) ?_)
        exact ⟨congrArg Value.bool (decide_eq_false (same_no hx hy c25)).symm, xw_w3⟩
      ·
        refine sc_skip (nrm_k ?_)
        refine sc_reg ?_
        refine Go.XK.s (v := .int .i64 (i : Int)) (e_move rfl) ?_
        refine Go.XK.s (v := .int .i64 ((i : Int) + 1)) (e_add rfl rfl (by omega)) ?_
        refine Go.XK.s (v := .int .i64 ((i : Int) + 1)) (e_assign rfl) ?_
        refine sl_nil ?_
        exact nrm_loopq rfl _ _ (by omega) ⟨i + 1, rfl, rfl, xw_w3, ⟨by omega, same_take hx (by rw [hy, Classical.not_not.1 c25]) hs⟩⟩ (.cons rfl (.cons rfl (.cons rfl (.nil))))
    ·
      refine sc_exit rfl (nrm_k ?_)
      refine sc_seq ?_
      refine sc_reg ?_
      refine Go.XK.s (v := .bool true) (e_assign rfl) ?_
      refine sl_nil (nrm_k ?_)
      refine sc_retf rfl (ret1 Try.results17 (rvt rfl) ?_)
      exact ⟨congrArg Value.bool (decide_eq_true (same_end hs hl (by omega))).symm, xw_w1⟩

/-- slices.Equal[[]int,int] (function 21) -/
theorem equalI_c (a b : List (Int)) (A A2 : Option Addr) (c d : Nat) (w : World) (hla : SlR w A c 1 encI a) (hlb : SlR w A2 d 1 encI b) : CallR Try.prog 21 [.slice A a.length c, .slice A2 b.length d] w (fun v w' => v = .bool (decide (a = b)) ∧ Ext w w') := by
  have hmx0 := hla.lenle
  simp only [maxLen] at hmx0
  have hmx1 := hlb.lenle
  simp only [maxLen] at hmx1
  refine callR_of (n := 26) [(0, .slice A a.length c), (1, .slice A2 b.length d)] Try.func21 rfl rfl (Nat.le_of_ble_eq_true rfl) rfl ?_
  refine sc_seq ?_
  refine sc_reg ?_
  refine Go.XK.s (v := .bool false) (e_assign rfl) ?_
  refine sl_nil (nrm_k ?_)
  refine sc_seq ?_
  refine sc_seq ?_
  refine sc_reg ?_
  refine Go.XK.s (v := .slice A a.length c) (e_move rfl) ?_
  refine Go.XK.s (v := .int .i64 (a.length : Int)) (e_len Try.underlying38 rfl) ?_
  refine Go.XK.s (v := .slice A2 b.length d) (e_move rfl) ?_
  refine Go.XK.s (v := .int .i64 (b.length : Int)) (e_len Try.underlying38 rfl) ?_
  refine Go.XK.s (v := .bool (decide ((a.length : Int) ≠ (b.length : Int)))) (e_ne rfl rfl) ?_
  refine sl_nil (nrm_k ?_)
  refine sc_ifd rfl (fun c10 => ?_) (fun c10 => ?_)
  ·
    refine sc_seq ?_
    refine sc_reg ?_
    refine Go.XK.s (v := .bool false) (e_assign rfl) ?_
    refine sl_nil (nrm_k ?_)
    refine sc_retf rfl (ret1 Try.results21 (rvt rfl) ?_)
    exact ⟨congrArg Value.bool (decide_eq_false (fun e => by subst e; exact c10 rfl)).symm, (Ext.rfl' w)⟩
  ·
    have hl : a.length = b.length := by omega
    refine sc_skip (nrm_k ?_)
    refine sc_seq ?_
    refine sc_seq ?_
    refine sc_reg ?_
    refine Go.XK.s (v := .slice A a.length c) (e_move rfl) ?_
    refine Go.XK.s (v := .int .i64 (a.length : Int)) (e_len Try.underlying38 rfl) ?_
    refine Go.XK.s (v := .int .i64 0) (e_move rfl) ?_
    refine sl_nil (nrm_k ?_)
    refine sc_block ?_
    refine sc_loop (fun m_ l_ w_ => ∃ (i : Nat), m_ = a.length - i ∧ l_ = [(13, .int .i64 (i : Int)), (0, .slice A a.length c), (1, .slice A2 b.length d), (12, .int .i64 (a.length : Int))] ∧ Ext w w_ ∧ i ≤ a.length ∧ a.take i = b.take i) _ [(13, .int .i64 (0 : Int)), (0, .slice A a.length c), (1, .slice A2 b.length d), (12, .int .i64 (a.length : Int))] ⟨0, rfl, rfl, (Ext.rfl' w), ⟨by omega, rfl⟩⟩ (.cons rfl (.cons rfl (.cons rfl (.cons rfl (.nil))))) ?_
    rintro j2 _ w1 ⟨i, rfl, rfl, xw_w1, ⟨hi, hs⟩⟩
    refine sc_seq ?_
    refine sc_reg ?_
    refine Go.XK.s (v := .bool (decide ((i : Int) < (a.length : Int)))) (e_lt rfl rfl) ?_
    refine sl_nil (nrm_k ?_)
    refine sc_seq ?_
    refine sc_ifd rfl (fun c14 => ?_) (fun c14 => ?_)
    ·
      obtain ⟨x, hx⟩ : ∃ x, a[i]? = some x := ⟨_, List.getElem?_eq_getElem (by omega)⟩
      obtain ⟨y, hy⟩ : ∃ y, b[i]? = some y := ⟨_, List.getElem?_eq_getElem (by omega)⟩
      refine sc_skip (nrm_k ?_)
      refine sc_seq ?_
      refine sc_block ?_
      refine sc_seq ?_
      refine sc_reg ?_
      refine Go.XK.s (v := .int .i64 (i : Int)) (e_move rfl) ?_
      refine Go.XK.s (v := .int .i64 (i : Int)) (e_assign rfl) ?_
      refine sl_nil (nrm_k ?_)
      refine sc_seq ?_
      refine sc_free [(5, .int .i64 (i : Int)), (15, .int .i64 (i : Int)), (14, .bool (decide ((i : Int) < (a.length : Int)))), (13, .int .i64 (i : Int)), (0, .slice A a.length c), (1, .slice A2 b.length d), (12, .int .i64 (a.length : Int))] [16, 17, 18, 19, 20, 21, 22, 23, 24] [(Is (.slice A a.length c)), (Is (.int .i64 (i : Int))), (Is (.pointer (some (el A 1 (i : Int) 0)))), (Is (.int .i64 x)), (Is (.slice A2 b.length d)), (Is (.int .i64 (i : Int))), (Is (.pointer (some (el A2 1 (i : Int) 0)))), (Is (.int .i64 y)), (Is (.bool (decide (x ≠ y))))] [] (by kernel_rfl) (Sub.refl _) (by kernel_rfl) (by kernel_rfl) (by kernel_rfl) rfl (by kernel_rfl) (ds_ext (Stays.spec (.is _ (.is _ (.is _ (.is _ (.is _ (.is _ (.is _ (.is _ (.is _ (.nil)))))))))))) ⟨?_, ?_, ?_, ?_, ?_, ?_, ?_, ?_, ?_, trivial⟩ ?_
      · intro Q act_ wI hxI ha hp
        have xw_wI : Ext w wI := Ext.tr xw_w1 hxI
        exact h_evA (v := .slice A a.length c) ha rfl (e_move rfl) rfl rfl (Ext.rfl' _)
      · intro Q act_ wI hxI ha hp
        have xw_wI : Ext w wI := Ext.tr xw_w1 hxI
        exact h_evA (v := .int .i64 (i : Int)) ha rfl (e_move rfl) rfl rfl (Ext.rfl' _)
      · intro Q act_ wI hxI ha hp
        have xw_wI : Ext w wI := Ext.tr xw_w1 hxI
        have ha := ha.add (show act_.tmps.getD 16 undef = .slice A a.length c from hp 0 (by kernel_rfl) (by decide))
        have ha := ha.add (show act_.tmps.getD 17 undef = .int .i64 (i : Int) from hp 1 (by kernel_rfl) (by decide))
        exact h_evA (v := .pointer (some (el A 1 (i : Int) 0))) ha rfl (e_idxEl (e := x) Try.underlying38 Try.sizeOf3 rfl rfl (hla.1.ext xw_wI) hx (by omega) rfl) rfl rfl (Ext.rfl' _)
      · intro Q act_ wI hxI ha hp
        have xw_wI : Ext w wI := Ext.tr xw_w1 hxI
        have ha := ha.add (show act_.tmps.getD 18 undef = .pointer (some (el A 1 (i : Int) 0)) from hp 2 (by kernel_rfl) (by decide))
        exact h_evA (v := .int .i64 x) ha rfl (e_ldEl (xs := a) (enc := encI) (e := x) rfl (hla.1.ext xw_wI) hx Try.isAgg3 rfl) rfl rfl (Ext.rfl' _)
      · intro Q act_ wI hxI ha hp
        have xw_wI : Ext w wI := Ext.tr xw_w1 hxI
        exact h_evA (v := .slice A2 b.length d) ha rfl (e_move rfl) rfl rfl (Ext.rfl' _)
      · intro Q act_ wI hxI ha hp
        have xw_wI : Ext w wI := Ext.tr xw_w1 hxI
        exact h_evA (v := .int .i64 (i : Int)) ha rfl (e_move rfl) rfl rfl (Ext.rfl' _)
      · intro Q act_ wI hxI ha hp
        have xw_wI : Ext w wI := Ext.tr xw_w1 hxI
        have ha := ha.add (show act_.tmps.getD 20 undef = .slice A2 b.length d from hp 4 (by kernel_rfl) (by decide))
        have ha := ha.add (show act_.tmps.getD 21 undef = .int .i64 (i : Int) from hp 5 (by kernel_rfl) (by decide))
        exact h_evA (v := .pointer (some (el A2 1 (i : Int) 0))) ha rfl (e_idxEl (e := y) Try.underlying38 Try.sizeOf3 rfl rfl (hlb.1.ext xw_wI) hy (by omega) rfl) rfl rfl (Ext.rfl' _)
      · intro Q act_ wI hxI ha hp
        have xw_wI : Ext w wI := Ext.tr xw_w1 hxI
        have ha := ha.add (show act_.tmps.getD 22 undef = .pointer (some (el A2 1 (i : Int) 0)) from hp 6 (by kernel_rfl) (by decide))
        exact h_evA (v := .int .i64 y) ha rfl (e_ldEl (xs := b) (enc := encI) (e := y) rfl (hlb.1.ext xw_wI) hy Try.isAgg3 rfl) rfl rfl (Ext.rfl' _)
      · intro Q act_ wI hxI ha hp
        have xw_wI : Ext w wI := Ext.tr xw_w1 hxI
        have ha := ha.add (show act_.tmps.getD 19 undef = .int .i64 x from hp 3 (by kernel_rfl) (by decide))
        have ha := ha.add (show act_.tmps.getD 23 undef = .int .i64 y from hp 7 (by kernel_rfl) (by decide))
        exact h_evA (v := .bool (decide (x ≠ y))) ha rfl (e_ne rfl rfl) rfl rfl (Ext.rfl' _)
      intro vs_ w3 hx_w3 hvs act_ ha hv
      have xw_w3 : Ext w w3 := Ext.tr xw_w1 hx_w3
      have ha := ha.add ((hv 8 (by decide)).trans (show vs_ 8 = .bool (decide (x ≠ y)) from hvs 8 (by decide)))
      refine st_go ha ?_
      clear ha hv hvs
      refine st_nil (nrm_k ?_)
      refine sc_ifd rfl (fun c24 => ?_) (fun c24 => ?_)
      ·
        refine sc_seq ?_
        refine sc_reg ?_
        refine Go.XK.s (v := .bool false) (e_assign rfl) ?_
        refine sl_nil (nrm_k ?_)
        refine sc_retf rfl (ret1 Try.results21 (rvt rfl) ?_)
        exact ⟨congrArg Value.bool (decide_eq_false (same_no hx hy c24)).symm, xw_w3⟩
      ·
        refine sc_skip (nrm_k ?_)
        refine sc_reg ?_
        refine Go.XK.s (v := .int .i64 ((i : Int) + 1)) (e_add rfl rfl (by omega)) ?_
        refine Go.XK.s (v := .int .i64 ((i : Int) + 1)) (e_move rfl) ?_
        refine sl_nil ?_
        exact nrm_loopq rfl _ _ (by omega) ⟨i + 1, rfl, rfl, xw_w3, ⟨by omega, same_take hx (by rw [hy, Classical.not_not.1 c24]) hs⟩⟩ (.cons rfl (.cons rfl (.cons rfl (.cons rfl (.nil)))))
    ·
      refine sc_exit rfl (nrm_k ?_)
      refine sc_seq ?_
      refine sc_reg ?_
      refine Go.XK.s (v := .bool true) (e_assign rfl) ?_
      refine sl_nil (nrm_k ?_)
      refine sc_retf rfl (ret1 Try.results21 (rvt rfl) ?_)
      exact ⟨congrArg Value.bool (decide_eq_true (same_end hs hl (by omega))).symm, xw_w1⟩

/-- slices.Equal[[]string,string] (function 30) -/
theorem equalS_c (a b : List (List UInt8)) (A A2 : Option Addr) (c d : Nat) (w : World) (hla : SlR w A c 1 encS a) (hlb : SlR w A2 d 1 encS b) : CallR Try.prog 30 [.slice A a.length c, .slice A2 b.length d] w (fun v w' => v = .bool (decide (a = b)) ∧ Ext w w') := by
  have hmx0 := hla.lenle
  simp only [maxLen] at hmx0
  have hmx1 := hlb.lenle
  simp only [maxLen] at hmx1
  refine callR_of (n := 26) [(0, .slice A a.length c), (1, .slice A2 b.length d)] Try.func30 rfl rfl (Nat.le_of_ble_eq_true rfl) rfl ?_
  refine sc_seq ?_
  refine sc_reg ?_
  refine Go.XK.s (v := .bool false) (e_assign rfl) ?_
  refine sl_nil (nrm_k ?_)
  refine sc_seq ?_
  refine sc_seq ?_
  refine sc_reg ?_
  refine Go.XK.s (v := .slice A a.length c) (e_move rfl) ?_
  refine Go.XK.s (v := .int .i64 (a.length : Int)) (e_len Try.underlying48 rfl) ?_
  refine Go.XK.s (v := .slice A2 b.length d) (e_move rfl) ?_
  refine Go.XK.s (v := .int .i64 (b.length : Int)) (e_len Try.underlying48 rfl) ?_
  refine Go.XK.s (v := .bool (decide ((a.length : Int) ≠ (b.length : Int)))) (e_ne rfl rfl) ?_
  refine sl_nil (nrm_k ?_)
  refine sc_ifd rfl (fun c10 => ?_) (fun c10 => ?_)
  ·
    refine sc_seq ?_
    refine sc_reg ?_
    refine Go.XK.s (v := .bool false) (e_assign rfl) ?_
    refine sl_nil (nrm_k ?_)
    refine sc_retf rfl (ret1 Try.results30 (rvt rfl) ?_)
    exact ⟨congrArg Value.bool (decide_eq_false (fun e => by subst e; exact c10 rfl)).symm, (Ext.rfl' w)⟩
  ·
    have hl : a.length = b.length := by omega
    refine sc_skip (nrm_k ?_)
    refine sc_seq ?_
    refine sc_seq ?_
    refine sc_reg ?_
    refine Go.XK.s (v := .slice A a.length c) (e_move rfl) ?_
    refine Go.XK.s (v := .int .i64 (a.length : Int)) (e_len Try.underlying48 rfl) ?_
    refine Go.XK.s (v := .int .i64 0) (e_move rfl) ?_
    refine sl_nil (nrm_k ?_)
    refine sc_block ?_
    refine sc_loop (fun m_ l_ w_ => ∃ (i : Nat), m_ = a.length - i ∧ l_ = [(13, .int .i64 (i : Int)), (0, .slice A a.length c), (1, .slice A2 b.length d), (12, .int .i64 (a.length : Int))] ∧ Ext w w_ ∧ i ≤ a.length ∧ a.take i = b.take i) _ [(13, .int .i64 (0 : Int)), (0, .slice A a.length c), (1, .slice A2 b.length d), (12, .int .i64 (a.length : Int))] ⟨0, rfl, rfl, (Ext.rfl' w), ⟨by omega, rfl⟩⟩ (.cons rfl (.cons rfl (.cons rfl (.cons rfl (.nil))))) ?_
    rintro j2 _ w1 ⟨i, rfl, rfl, xw_w1, ⟨hi, hs⟩⟩
    refine sc_seq ?_
    refine sc_reg ?_
    refine Go.XK.s (v := .bool (decide ((i : Int) < (a.length : Int)))) (e_lt rfl rfl) ?_
    refine sl_nil (nrm_k ?_)
    refine sc_seq ?_
    refine sc_ifd rfl (fun c14 => ?_) (fun c14 => ?_)
    ·
      obtain ⟨x, hx⟩ : ∃ x, a[i]? = some x := ⟨_, List.getElem?_eq_getElem (by omega)⟩
      obtain ⟨y, hy⟩ : ∃ y, b[i]? = some y := ⟨_, List.getElem?_eq_getElem (by omega)⟩
      refine sc_skip (nrm_k ?_)
      refine sc_seq ?_
      refine sc_block ?_
      refine sc_seq ?_
      refine sc_reg ?_
      refine Go.XK.s (v := .int .i64 (i : Int)) (e_move rfl) ?_
      refine Go.XK.s (v := .int .i64 (i : Int)) (e_assign rfl) ?_
      refine sl_nil (nrm_k ?_)
      refine sc_seq ?_
      refine sc_free [(5, .int .i64 (i : Int)), (15, .int .i64 (i : Int)), (14, .bool (decide ((i : Int) < (a.length : Int)))), (13, .int .i64 (i : Int)), (0, .slice A a.length c), (1, .slice A2 b.length d), (12, .int .i64 (a.length : Int))] [16, 17, 18, 19, 20, 21, 22, 23, 24] [(Is (.slice A a.length c)), (Is (.int .i64 (i : Int))), (Is (.pointer (some (el A 1 (i : Int) 0)))), (Is (.string (B x))), (Is (.slice A2 b.length d)), (Is (.int .i64 (i : Int))), (Is (.pointer (some (el A2 1 (i : Int) 0)))), (Is (.string (B y))), (Is (.bool (decide (x ≠ y))))] [] (by kernel_rfl) (Sub.refl _) (by kernel_rfl) (by kernel_rfl) (by kernel_rfl) rfl (by kernel_rfl) (ds_ext (Stays.spec (.is _ (.is _ (.is _ (.is _ (.is _ (.is _ (.is _ (.is _ (.is _ (.nil)))))))))))) ⟨?_, ?_, ?_, ?_, ?_, ?_, ?_, ?_, ?_, trivial⟩ ?_
      · intro Q act_ wI hxI ha hp
        have xw_wI : Ext w wI := Ext.tr xw_w1 hxI
        exact h_evA (v := .slice A a.length c) ha rfl (e_move rfl) rfl rfl (Ext.rfl' _)
      · intro Q act_ wI hxI ha hp
        have xw_wI : Ext w wI := Ext.tr xw_w1 hxI
        exact h_evA (v := .int .i64 (i : Int)) ha rfl (e_move rfl) rfl rfl (Ext.rfl' _)
      · intro Q act_ wI hxI ha hp
        have xw_wI : Ext w wI := Ext.tr xw_w1 hxI
        have ha := ha.add (show act_.tmps.getD 16 undef = .slice A a.length c from hp 0 (by kernel_rfl) (by decide))
        have ha := ha.add (show act_.tmps.getD 17 undef = .int .i64 (i : Int) from hp 1 (by kernel_rfl) (by decide))
        exact h_evA (v := .pointer (some (el A 1 (i : Int) 0))) ha rfl (e_idxEl (e := x) Try.underlying48 Try.sizeOf9 rfl rfl (hla.1.ext xw_wI) hx (by omega) rfl) rfl rfl (Ext.rfl' _)
      · intro Q act_ wI hxI ha hp
        have xw_wI : Ext w wI := Ext.tr xw_w1 hxI
        have ha := ha.add (show act_.tmps.getD 18 undef = .pointer (some (el A 1 (i : Int) 0)) from hp 2 (by kernel_rfl) (by decide))
        exact h_evA (v := .string (B x)) ha rfl (e_ldEl (xs := a) (enc := encS) (e := x) rfl (hla.1.ext xw_wI) hx Try.isAgg9 rfl) rfl rfl (Ext.rfl' _)
      · intro Q act_ wI hxI ha hp
        have xw_wI : Ext w wI := Ext.tr xw_w1 hxI
        exact h_evA (v := .slice A2 b.length d) ha rfl (e_move rfl) rfl rfl (Ext.rfl' _)
      · intro Q act_ wI hxI ha hp
        have xw_wI : Ext w wI := Ext.tr xw_w1 hxI
        exact h_evA (v := .int .i64 (i : Int)) ha rfl (e_move rfl) rfl rfl (Ext.rfl' _)
      · intro Q act_ wI hxI ha hp
        have xw_wI : Ext w wI := Ext.tr xw_w1 hxI
        have ha := ha.add (show act_.tmps.getD 20 undef = .slice A2 b.length d from hp 4 (by kernel_rfl) (by decide))
        have ha := ha.add (show act_.tmps.getD 21 undef = .int .i64 (i : Int) from hp 5 (by kernel_rfl) (by decide))
        exact h_evA (v := .pointer (some (el A2 1 (i : Int) 0))) ha rfl (e_idxEl (e := y) Try.underlying48 Try.sizeOf9 rfl rfl (hlb.1.ext xw_wI) hy (by omega) rfl) rfl rfl (Ext.rfl' _)
      · intro Q act_ wI hxI ha hp
        have xw_wI : Ext w wI := Ext.tr xw_w1 hxI
        have ha := ha.add (show act_.tmps.getD 22 undef = .pointer (some (el A2 1 (i : Int) 0)) from hp 6 (by kernel_rfl) (by decide))
        exact h_evA (v := .string (B y)) ha rfl (e_ldEl (xs := b) (enc := encS) (e := y) rfl (hlb.1.ext xw_wI) hy Try.isAgg9 rfl) rfl rfl (Ext.rfl' _)
      · intro Q act_ wI hxI ha hp
        have xw_wI : Ext w wI := Ext.tr xw_w1 hxI
        have ha := ha.add (show act_.tmps.getD 19 undef = .string (B x) from hp 3 (by kernel_rfl) (by decide))
        have ha := ha.add (show act_.tmps.getD 23 undef = .string (B y) from hp 7 (by kernel_rfl) (by decide))
        exact h_evA (v := .bool (decide (x ≠ y))) ha rfl (e_sne rfl rfl) rfl rfl (Ext.rfl' _)
      intro vs_ w3 hx_w3 hvs act_ ha hv
      have xw_w3 : Ext w w3 := Ext.tr xw_w1 hx_w3
      have ha := ha.add ((hv 8 (by decide)).trans (show vs_ 8 = .bool (decide (x ≠ y)) from hvs 8 (by decide)))
      refine st_go ha ?_
      clear ha hv hvs
      refine st_nil (nrm_k ?_)
      refine sc_ifd rfl (fun c24 => ?_) (fun c24 => ?_)
      ·
        refine sc_seq ?_
        refine sc_reg ?_
        refine Go.XK.s (v := .bool false) (e_assign rfl) ?_
        refine sl_nil (nrm_k ?_)
        refine sc_retf rfl (ret1 Try.results30 (rvt rfl) ?_)
        exact ⟨congrArg Value.bool (decide_eq_false (same_no hx hy c24)).symm, xw_w3⟩
      ·
        refine sc_skip (nrm_k ?_)
        refine sc_reg ?_
        refine Go.XK.s (v := .int .i64 ((i : Int) + 1)) (e_add rfl rfl (by omega)) ?_
        refine Go.XK.s (v := .int .i64 ((i : Int) + 1)) (e_move rfl) ?_
        refine sl_nil ?_
        exact nrm_loopq rfl _ _ (by omega) ⟨i + 1, rfl, rfl, xw_w3, ⟨by omega, same_take hx (by rw [hy, Classical.not_not.1 c24]) hs⟩⟩ (.cons rfl (.cons rfl (.cons rfl (.cons rfl (.nil)))))
    ·
      refine sc_exit rfl (nrm_k ?_)
      refine sc_seq ?_
      refine sc_reg ?_
      refine Go.XK.s (v := .bool true) (e_assign rfl) ?_
      refine sl_nil (nrm_k ?_)
      refine sc_retf rfl (ret1 Try.results30 (rvt rfl) ?_)
      exact ⟨congrArg Value.bool (decide_eq_true (same_end hs hl (by omega))).symm, xw_w1⟩

end Go.Proofs.Ytnbclhbpjlpcoaa
