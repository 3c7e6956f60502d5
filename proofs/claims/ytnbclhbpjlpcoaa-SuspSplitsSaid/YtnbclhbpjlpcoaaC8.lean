/- Chapter 24: C8. Printed by my program wip/tools/wk.py. -/
import Derived.Test.YtnbclhbpjlpcoaaC7
set_option linter.unusedVariables false
set_option linter.unusedSimpArgs false
set_option maxRecDepth 4000
set_option maxHeartbeats 4000000
namespace Go.Proofs.Ytnbclhbpjlpcoaa
open Go.XK Go.RowKit
structure Pl where
  b : Int
  o : Int
def encPl (x : Pl) : List Value := [.int .i64 x.b, .int .i64 x.o]
theorem one_encPl : ∀ (x : Pl), ∀ u ∈ encPl x, u.oneCell' = true := fun x u hu => by simp [encPl] at hu; rcases hu with rfl | rfl <;> rfl
theorem con_cond (n : Int) : decide ((if fits n 4 then (0 : Int) else 2) ≠ 0) = !fits n 4 := by cases fits n 4 <;> rfl
theorem bothV_le (n : Int) : (bothV n).length ≤ 8 := by unfold bothV; split <;> simp [bothB_length]
theorem rcon_cond (b o len : Int) : (((((decide (b < 0) || decide ((4294967295 : Int) < b)) || decide (o < 0)) || decide ((2047 : Int) < o)) || decide (len < 1)) || decide (2048 - o < len)) = (!fits b 4 || !area o len) := by
  rw [fits4, area, Bool.eq_iff_iff]
  simp only [Bool.or_eq_true, decide_eq_true_eq, Bool.not_eq_true', Bool.and_eq_false_iff, decide_eq_false_iff_not]
  omega
theorem conR_yes {b o len : Int} (h : (!fits b 4 || !area o len) = true) : conR b o len = (⟨[], 0, []⟩, 2) := by rw [conR, if_pos h]
theorem conR_no {b o len : Int} (h : (!fits b 4 || !area o len) = false) : conR b o len = (⟨[67, 69], 1, bothV b ++ bothV o ++ bothV len⟩, 0) := by
  rw [conR, if_neg (by rw [h]; simp)]
  simp only [Bool.or_eq_false_iff, Bool.not_eq_false'] at h
  have h2 := fits_area h.2
  rw [conE, bothV_of h.1, bothV_of h2.1, bothV_of h2.2]

/-- masterdisc/endian.inside (function 82) -/
theorem inside_c (s : List UInt8) (p : Int) (w : World) (hs : s.length ≤ 4611686018427387904) : CallR Try.prog 82 [.string (B s), .int .i64 p, .int .i64 4] w (fun v w' => v = .bool (decide (0 ≤ p) && decide (p ≤ (s.length : Int) - 4)) ∧ Ext w w') := by
  refine callR_of (n := 17) [(0, .string (B s)), (1, .int .i64 p), (2, .int .i64 4)] Try.func82 rfl rfl (Nat.le_of_ble_eq_true rfl) rfl ?_
  refine sc_seq ?_
  refine sc_reg ?_
  refine Go.XK.s (v := .bool false) (e_assign rfl) ?_
  refine sl_nil (nrm_k ?_)
  refine sc_seq ?_
  refine sc_reg ?_
  refine Go.XK.s (v := .int .i64 p) (e_move rfl) ?_
  refine Go.XK.s (v := .bool (decide ((0 : Int) ≤ p))) (e_ge rfl rfl) ?_
  refine Go.XK.s (v := .bool (decide ((0 : Int) ≤ p))) (e_move rfl) ?_
  refine sl_merge 7 16 (.bool ((decide ((0 : Int) ≤ p)) && (decide (p ≤ (s.length : Int) - 4)))) ?_ ?_
  · refine sl_case (t := 9) rfl (fun g1_2 => ?_) (fun g1_2 => ?_)
    ·
      refine sl_gev (v := .int .i64 p) rfl rfl g1_2 (e_move rfl) rfl (by decide) ?_
      refine sl_gev (v := .string (B s)) rfl rfl g1_2 (e_move rfl) rfl (by decide) ?_
      refine sl_gev (v := .int .i64 (s.length : Int)) rfl rfl g1_2 (e_slen Try.underlying9 rfl) rfl (by decide) ?_
      refine sl_gev (v := .int .i64 4) rfl rfl g1_2 (e_move rfl) rfl (by decide) ?_
      refine sl_gev (v := .int .i64 ((s.length : Int) - 4)) rfl rfl g1_2 (e_sub rfl rfl (by omega)) rfl (by decide) ?_
      refine sl_gev (v := .bool (decide (p ≤ (s.length : Int) - 4))) rfl rfl g1_2 (e_le rfl rfl) rfl (by decide) ?_
      refine Go.XK.s (v := .bool (decide (p ≤ (s.length : Int) - 4))) (e_pickT rfl g1_2 rfl) ?_
      exact sl_nil (fun a ha => ⟨rfl, ha.sub (.cons (by rw [g1_2]; rfl) (sub_self_cons (sub_self_cons (sub_self_cons (sub_self_cons (sub_self_cons (sub_self_cons (sub_self_cons (Sub.refl _) rfl) rfl) rfl) rfl) rfl) rfl) rfl))⟩)
    ·
      refine sl_gskip rfl rfl g1_2 (by decide) ?_
      refine sl_gskip rfl rfl g1_2 (by decide) ?_
      refine sl_gskip rfl rfl g1_2 (by decide) ?_
      refine sl_gskip rfl rfl g1_2 (by decide) ?_
      refine sl_gskip rfl rfl g1_2 (by decide) ?_
      refine sl_gskip rfl rfl g1_2 (by decide) ?_
      refine Go.XK.s (v := .bool false) (e_pickF rfl g1_2 rfl) ?_
      exact sl_nil (fun a ha => ⟨rfl, ha.sub (.cons (by rw [g1_2]; rfl) (sub_self_cons (sub_self_cons (sub_self_cons (sub_self_cons (sub_self_cons (sub_self_cons (sub_self_cons (Sub.refl _) rfl) rfl) rfl) rfl) rfl) rfl) rfl))⟩)
  refine Go.XK.s (v := .bool ((decide ((0 : Int) ≤ p)) && (decide (p ≤ (s.length : Int) - 4)))) (e_assign rfl) ?_
  refine sl_nil (nrm_k ?_)
  refine sc_retf rfl (ret1 Try.results82 (rvt rfl) ?_)
  exact ⟨rfl, (Ext.rfl' w)⟩

/-- masterdisc/endian.read (function 77) -/
theorem eread_c (s : List UInt8) (p : Int) (w : World) (hs : s.length ≤ 4611686018427387904) : CallR Try.prog 77 [.string (B s), .int .i64 p, .int .i64 4, .func (.func 78) #[] #[]] w (fun v w' => v = .tuple #[.int .i64 ((rd4 s p).1), .int .i64 ((rd4 s p).2)] ∧ Ext w w') := by
  refine callR_of (n := 47) [(0, .string (B s)), (1, .int .i64 p), (2, .int .i64 4), (3, .func (.func 78) #[] #[])] Try.func77 rfl rfl (Nat.le_of_ble_eq_true rfl) rfl ?_
  refine sc_seq ?_
  refine sc_reg ?_
  refine Go.XK.s (v := .int .i64 0) (e_assign rfl) ?_
  refine Go.XK.s (v := .int .i64 0) (e_assign rfl) ?_
  refine sl_nil (nrm_k ?_)
  refine sc_seq ?_
  refine sc_block ?_
  refine sc_seq ?_
  refine sc_reg ?_
  refine Go.XK.s (v := .int .i64 4) (e_move rfl) ?_
  refine Go.XK.s (v := .bool (decide ((4 : Int) < 1))) (e_lt rfl rfl) ?_
  refine Go.XK.s (v := .bool (decide ((4 : Int) < 1))) (e_move rfl) ?_
  refine sl_gev (v := .int .i64 4) rfl rfl (by decide) (e_move rfl) rfl (by decide) ?_
  refine sl_gev (v := .bool (decide ((8 : Int) < 4))) rfl rfl (by decide) (e_gt rfl rfl) rfl (by decide) ?_
  refine Go.XK.s (v := .bool (decide ((8 : Int) < 4))) (e_pickF rfl (by decide) rfl) ?_
  refine Go.XK.s (v := .bool (decide ((8 : Int) < 4))) (e_assign rfl) ?_
  refine sl_nil (nrm_k ?_)
  refine sc_no rfl (by decide) ?_
  refine sc_seq ?_
  refine sc_reg ?_
  refine Go.XK.s (v := .string (B s)) (e_move rfl) ?_
  refine Go.XK.s (v := .int .i64 p) (e_move rfl) ?_
  refine Go.XK.s (v := .int .i64 4) (e_move rfl) ?_
  refine sl_call ent82 rfl rfl (inside_c _ _ w (by omega)) (by decide) ?_
  rintro _ w1 ⟨rfl, hw1⟩
  have xw_w1 : Ext w w1 := Ext.tr (Ext.rfl' w) hw1
  refine Go.XK.s (v := .bool (!(decide (0 ≤ p) && decide (p ≤ (s.length : Int) - 4)))) (e_not rfl) ?_
  refine Go.XK.s (v := .bool (!(decide (0 ≤ p) && decide (p ≤ (s.length : Int) - 4)))) (e_assign rfl) ?_
  refine sl_nil (nrm_k ?_)
  refine sc_if rfl (fun c19 => ?_) (fun c19 => ?_)
  ·
    have hin : (decide (0 ≤ p) && decide (p ≤ (s.length : Int) - 4)) = false := by have h_ := c19; rwa [Bool.not_eq_true'] at h_
    refine sc_seq ?_
    refine sc_reg ?_
    refine Go.XK.s (v := .int .i64 0) (e_assign rfl) ?_
    refine Go.XK.s (v := .int .i64 2) (e_assign rfl) ?_
    refine sl_nil (nrm_k ?_)
    refine sc_retf rfl (ret2 Try.results77 (rvt rfl) (rvt rfl) ?_)
    exact ⟨by rw [rd4, if_neg (by rw [hin]; simp)], xw_w1⟩
  ·
    have hin : (decide (0 ≤ p) && decide (p ≤ (s.length : Int) - 4)) = true := by have h_ := c19; rwa [Bool.not_eq_false'] at h_
    have hin2 := hin
    simp only [Bool.and_eq_true, decide_eq_true_eq] at hin2
    obtain ⟨h0, hp⟩ := hin2
    refine sc_skip (nrm_k ?_)
    refine sc_seq ?_
    refine sc_reg ?_
    refine Go.XK.s (v := .int .u64 0) (e_assign rfl) ?_
    refine sl_nil (nrm_k ?_)
    refine sc_seq ?_
    refine sc_seq ?_
    refine sc_reg ?_
    refine Go.XK.s (v := .int .i64 4) (e_move rfl) ?_
    refine Go.XK.s (v := .int .i64 0) (e_move rfl) ?_
    refine sl_nil (nrm_k ?_)
    refine sc_block ?_
    refine sc_loop (fun m_ l_ w_ => ∃ (k : Nat) (a : Int), m_ = 4 - k ∧ l_ = [(10, .int .u64 a), (26, .int .i64 (k : Int)), (0, .string (B s)), (1, .int .i64 p), (2, .int .i64 4), (3, .func (.func 78) #[] #[]), (25, .int .i64 4)] ∧ Ext w w_ ∧ k ≤ 4 ∧ a = rdle (sub s p k)) _ [(10, .int .u64 0), (26, .int .i64 (0 : Int)), (0, .string (B s)), (1, .int .i64 p), (2, .int .i64 4), (3, .func (.func 78) #[] #[]), (25, .int .i64 4)] ⟨0, 0, rfl, rfl, xw_w1, ⟨Nat.zero_le _, by simp [sub, rdle]⟩⟩ (.cons rfl (.cons rfl (.cons rfl (.cons rfl (.cons rfl (.cons rfl (.cons rfl (.nil)))))))) ?_
    rintro j3 _ w2 ⟨k, a, rfl, rfl, xw_w2, ⟨hk, ha⟩⟩
    have hab := rdle_bound (sub s p k)
    rw [← ha, sub_length h0 (by omega)] at hab
    refine sc_seq ?_
    refine sc_reg ?_
    refine Go.XK.s (v := .bool (decide ((k : Int) < 4))) (e_lt rfl rfl) ?_
    refine sl_nil (nrm_k ?_)
    refine sc_seq ?_
    refine sc_ifd rfl (fun c27 => ?_) (fun c27 => ?_)
    ·
      refine sc_skip (nrm_k ?_)
      refine sc_seq ?_
      refine sc_block ?_
      refine sc_seq ?_
      refine sc_reg ?_
      refine Go.XK.s (v := .int .i64 (k : Int)) (e_move rfl) ?_
      refine Go.XK.s (v := .int .i64 (k : Int)) (e_assign rfl) ?_
      refine sl_nil (nrm_k ?_)
      refine sc_reg ?_
      refine Go.XK.s (v := .int .u64 a) (e_move rfl) ?_
      refine Go.XK.s (v := .string (B s)) (e_move rfl) ?_
      refine Go.XK.s (v := .int .i64 p) (e_move rfl) ?_
      refine Go.XK.s (v := .func (.func 78) #[] #[]) (e_move rfl) ?_
      refine Go.XK.s (v := .int .i64 (k : Int)) (e_move rfl) ?_
      refine sl_call ent78 rfl rfl (up1_c _ w2) (by decide) ?_
      rintro _ w4 ⟨rfl, hw4⟩
      have xw_w4 : Ext w w4 := Ext.tr xw_w2 hw4
      refine Go.XK.s (v := .int .i64 (p + (k : Int))) (e_add rfl rfl (by omega)) ?_
      refine Go.XK.s (v := .int .u8 ((at_ s (p + (k : Int))).toNat)) (e_sat Try.underlying9 rfl rfl (by omega) (by omega)) ?_
      refine Go.XK.s (v := .int .u64 ((at_ s (p + (k : Int))).toNat : Int)) (e_u8int (c := at_ s (p + (k : Int))) Try.underlying5 Try.underlying102 (by decide) rfl) ?_
      refine Go.XK.s (v := .int .i64 (k : Int)) (e_move rfl) ?_
      refine Go.XK.s (v := .int .i64 ((8 : Int) * (k : Int))) (e_mul rfl rfl (by omega)) ?_
      refine Go.XK.s (v := .int .u64 (((at_ s (p + (k : Int))).toNat : Int) * 256 ^ k)) (e_shlu (at_ s (p + (k : Int))) k (by omega) rfl rfl) ?_
      refine Go.XK.s (v := .int .u64 (a + ((at_ s (p + (k : Int))).toNat : Int) * 256 ^ k)) (e_oru (at_ s (p + (k : Int))) k (by omega) hab.1 hab.2 rfl rfl) ?_
      refine Go.XK.s (v := .int .u64 (a + ((at_ s (p + (k : Int))).toNat : Int) * 256 ^ k)) (e_assign rfl) ?_
      refine sl_nil (nrm_k ?_)
      refine sc_reg ?_
      refine Go.XK.s (v := .int .i64 ((k : Int) + 1)) (e_add rfl rfl (by omega)) ?_
      refine Go.XK.s (v := .int .i64 ((k : Int) + 1)) (e_move rfl) ?_
      refine sl_nil ?_
      exact nrm_loopq rfl _ _ (by omega) ⟨k + 1, a + ((at_ s (p + (k : Int))).toNat : Int) * 256 ^ k, rfl, rfl, xw_w4, ⟨by omega, by rw [ha, rdle_sub_succ h0 (by omega)]⟩⟩ (.cons rfl (.cons rfl (.cons rfl (.cons rfl (.cons rfl (.cons rfl (.cons rfl (.nil))))))))
    ·
      rw [show k = 4 from by omega] at ha hab
      have hp7 := p256 4 (by decide)
      refine sc_exit rfl (nrm_k ?_)
      refine sc_seq ?_
      refine sc_seq ?_
      refine sc_reg ?_
      refine Go.XK.s (v := .int .u64 a) (e_move rfl) ?_
      refine Go.XK.s (v := .bool (decide ((9223372036854775807 : Int) < a))) (e_gt rfl rfl) ?_
      refine sl_nil (nrm_k ?_)
      refine sc_no rfl (by simp; omega) ?_
      refine sc_skip (nrm_k ?_)
      refine sc_seq ?_
      refine sc_reg ?_
      refine Go.XK.s (v := .int .u64 a) (e_move rfl) ?_
      refine Go.XK.s (v := .int .i64 a) (e_conv Try.underlying102 Try.underlying3 rfl (i64_id (by omega) (by omega))) ?_
      refine Go.XK.s (v := .int .i64 a) (e_assign rfl) ?_
      refine Go.XK.s (v := .int .i64 0) (e_assign rfl) ?_
      refine sl_nil (nrm_k ?_)
      refine sc_retf rfl (ret2 Try.results77 (rvt rfl) (rvt rfl) ?_)
      exact ⟨by rw [rd4, if_pos hin, ha], xw_w2⟩

/-- masterdisc/endian.ReadLittle (function 68) -/
theorem readl_c (s : List UInt8) (p : Int) (w : World) (hs : s.length ≤ 4611686018427387904) : CallR Try.prog 68 [.string (B s), .int .i64 p, .int .i64 4] w (fun v w' => v = .tuple #[.int .i64 ((rd4 s p).1), .int .i64 ((rd4 s p).2)] ∧ Ext w w') := by
  refine callR_of (n := 16) [(0, .string (B s)), (1, .int .i64 p), (2, .int .i64 4)] Try.func68 rfl rfl (Nat.le_of_ble_eq_true rfl) rfl ?_
  refine sc_seq ?_
  refine sc_reg ?_
  refine Go.XK.s (v := .int .i64 0) (e_assign rfl) ?_
  refine Go.XK.s (v := .int .i64 0) (e_assign rfl) ?_
  refine sl_nil (nrm_k ?_)
  refine sc_seq ?_
  refine sc_reg ?_
  refine Go.XK.s (v := .string (B s)) (e_move rfl) ?_
  refine Go.XK.s (v := .int .i64 p) (e_move rfl) ?_
  refine Go.XK.s (v := .int .i64 4) (e_move rfl) ?_
  refine Go.XK.s (v := .int .i64 4) (e_move rfl) ?_
  refine sl_call ent72 rfl rfl (up_c _ w) (by decide) ?_
  rintro _ w1 ⟨rfl, hw1⟩
  have xw_w1 : Ext w w1 := Ext.tr (Ext.rfl' w) hw1
  refine sl_call ent77 rfl rfl (eread_c s p w1 (by omega)) (by decide) ?_
  rintro _ w2 ⟨rfl, hw2⟩
  have xw_w2 : Ext w w2 := Ext.tr xw_w1 hw2
  refine Go.XK.s (v := .int .i64 ((rd4 s p).1)) (e_extract (vs := [.int .i64 ((rd4 s p).1), .int .i64 ((rd4 s p).2)]) rfl rfl) ?_
  refine Go.XK.s (v := .int .i64 ((rd4 s p).2)) (e_extract (vs := [.int .i64 ((rd4 s p).1), .int .i64 ((rd4 s p).2)]) rfl rfl) ?_
  refine Go.XK.s (v := .int .i64 ((rd4 s p).1)) (e_assign rfl) ?_
  refine Go.XK.s (v := .int .i64 ((rd4 s p).2)) (e_assign rfl) ?_
  refine sl_nil (nrm_k ?_)
  refine sc_retf rfl (ret2 Try.results68 (rvt rfl) (rvt rfl) ?_)
  exact ⟨rfl, xw_w2⟩

/-- masterdisc/susp.Continuation (function 39) -/
theorem con_c (p : Pl) (len : Int) (w : World) : CallR Try.prog 39 [.agg #[.int .i64 p.b, .int .i64 p.o], .int .i64 len] w (fun v w' => v = .tuple #[.agg (encE (conR p.b p.o len).1).toArray, .int .i64 (conR p.b p.o len).2] ∧ Ext w w') := by
  refine callR_of (n := 45) [(0, .agg #[.int .i64 p.b, .int .i64 p.o]), (1, .int .i64 len)] Try.func39 rfl rfl (Nat.le_of_ble_eq_true rfl) rfl ?_
  refine sc_seq ?_
  refine sc_reg ?_
  refine s_box (cs := [.int .i64 p.b, .int .i64 p.o]) rfl rfl ?_
  intro b2 w1 hb2 he2 hs2 hx2
  have ge_b2 : w.heap.size ≤ b2 := by have h_ := (Below.size (Ext.rfl' w)); omega
  have xw_w1 : Ext w w1 := Ext.tr (Ext.rfl' w) hx2
  refine s_alloc (cs := [.string (B []), .int .i64 0, .string (B [])]) Try.zeroValue41 rfl ?_
  intro b4 w2 hb4 he4 hs4 hx4
  have ne_b4_b2 : b4 ≠ b2 := by have h_ := hb2.lt; omega
  have ge_b4 : w.heap.size ≤ b4 := by have h_ := (Below.size xw_w1); omega
  have xw_w2 : Ext w w2 := Ext.tr xw_w1 hx4
  replace hb2 := hb2.ext hx4
  refine Go.XK.s (v := .int .i64 0) (e_assign rfl) ?_
  refine sl_nil (nrm_k ?_)
  refine sc_seq ?_
  refine sc_reg ?_
  refine Go.XK.s (v := .pointer (some ⟨b2, 0, none⟩)) (e_fieldB (sz := 1) Try.underlying53 rfl Try.sizeOf3 (by decide) rfl rfl) ?_
  refine Go.XK.s (v := .int .i64 p.b) (e_load rfl (load1 Try.isAgg3 (hb2.cell (j := 0) rfl))) ?_
  refine sl_call ent58 rfl rfl (both_c p.b w2) (by decide) ?_
  rintro _ w3 ⟨rfl, hw3⟩
  have xw_w3 : Ext w w3 := Ext.tr xw_w2 hw3
  replace hb2 := hb2.ext hw3
  replace hb4 := hb4.ext hw3
  refine Go.XK.s (v := .tuple #[.string (B (bothV p.b)), .int .i64 (if fits p.b 4 then (0 : Int) else 2)]) (e_move rfl) ?_
  refine Go.XK.s (v := .string (B (bothV p.b))) (e_extract (vs := [.string (B (bothV p.b)), .int .i64 (if fits p.b 4 then (0 : Int) else 2)]) rfl rfl) ?_
  refine Go.XK.s (v := .int .i64 (if fits p.b 4 then (0 : Int) else 2)) (e_extract (vs := [.string (B (bothV p.b)), .int .i64 (if fits p.b 4 then (0 : Int) else 2)]) rfl rfl) ?_
  refine Go.XK.s (v := .string (B (bothV p.b))) (e_assign rfl) ?_
  refine Go.XK.s (v := .int .i64 (if fits p.b 4 then (0 : Int) else 2)) (e_assign rfl) ?_
  refine sl_nil (nrm_k ?_)
  refine sc_seq ?_
  refine sc_seq ?_
  refine sc_reg ?_
  refine Go.XK.s (v := .int .i64 (if fits p.b 4 then (0 : Int) else 2)) (e_move rfl) ?_
  refine Go.XK.s (v := .bool (decide ((if fits p.b 4 then (0 : Int) else 2) ≠ 0))) (e_ne rfl rfl) ?_
  refine Go.XK.s (v := .bool (decide ((if fits p.b 4 then (0 : Int) else 2) ≠ 0))) (e_move rfl) ?_
  refine sl_mergeW 6 26 (.bool ((decide ((if fits p.b 4 then (0 : Int) else 2) ≠ 0)) || (!(area p.o len)))) (fun w_ => Ext w3 w_) ?_ (fun w4 hw4 => ?_)
  · refine sl_case (t := 20) rfl (fun g2_2 => ?_) (fun g2_2 => ?_)
    ·
      refine sl_gskip rfl rfl g2_2 (by decide) ?_
      refine sl_gskip rfl rfl g2_2 (by decide) ?_
      refine sl_gskip rfl rfl g2_2 (by decide) ?_
      refine sl_gskip rfl rfl g2_2 (by decide) ?_
      refine sl_gskip rfl rfl g2_2 (by decide) ?_
      refine Go.XK.s (v := .bool true) (e_pickT rfl g2_2 rfl) ?_
      exact sl_nil (fun a ha => ⟨(Ext.rfl' w3), ha.sub (.cons (by rw [g2_2]; rfl) (sub_self_cons (sub_self_cons (sub_self_cons (sub_self_cons (sub_self_cons (sub_self_cons (Sub.refl _) rfl) rfl) rfl) rfl) rfl) rfl))⟩)
    ·
      refine sl_gev (v := .pointer (some ⟨b2, 1, none⟩)) rfl rfl g2_2 (e_fieldB (sz := 1) Try.underlying53 rfl Try.sizeOf3 (by decide) rfl rfl) rfl (by decide) ?_
      refine sl_gev (v := .int .i64 p.o) rfl rfl g2_2 (e_load rfl (load1 Try.isAgg3 (hb2.cell (j := 1) rfl))) rfl (by decide) ?_
      refine sl_gev (v := .int .i64 len) rfl rfl g2_2 (e_move rfl) rfl (by decide) ?_
      refine sl_gcall rfl rfl g2_2 ent59 rfl rfl (area_c _ _ w3) (by decide) ?_
      rintro _ w5 ⟨rfl, hw5⟩
      have xw_w5 : Ext w w5 := Ext.tr xw_w3 hw5
      have xw3_w5 : Ext w3 w5 := Ext.tr (Ext.rfl' w3) hw5
      replace hb2 := hb2.ext hw5
      replace hb4 := hb4.ext hw5
      refine sl_gev (v := .bool (!(area p.o len))) rfl rfl g2_2 (e_not rfl) rfl (by decide) ?_
      refine Go.XK.s (v := .bool (!(area p.o len))) (e_pickF rfl g2_2 rfl) ?_
      exact sl_nil (fun a ha => ⟨xw3_w5, ha.sub (.cons (by rw [g2_2]; rfl) (sub_self_cons (sub_self_cons (sub_self_cons (sub_self_cons (sub_self_cons (sub_self_cons (Sub.refl _) rfl) rfl) rfl) rfl) rfl) rfl))⟩)
  have xw_w4 : Ext w w4 := Ext.tr xw_w3 hw4
  replace hb2 := hb2.ext hw4
  replace hb4 := hb4.ext hw4
  refine sl_nil (nrm_k ?_)
  refine sc_if rfl (fun c26 => ?_) (fun c26 => ?_)
  ·
    have hcd : (!fits p.b 4 || !area p.o len) = true := by rw [← con_cond]; exact c26
    refine sc_seq ?_
    refine sc_reg ?_
    refine Go.XK.s (v := .agg #[.string (B []), .int .i64 0, .string (B [])]) (e_build (vs := []) rfl (by kernel_rfl)) ?_
    refine su_blkV [.string (B []), .int .i64 0, .string (B [])] [.string (B []), .int .i64 0, .string (B [])] rfl rfl hb4 rfl Try.sizeOf41 (Nat.le_of_ble_eq_true rfl) rfl rfl ?_
    intro w6 hn_ hm_w6 hs_w6
    have ho_ := hb4
    replace hb4 := hn_
    clear hn_
    replace hb2 := hb2.mut hm_w6 (Ne.symm ne_b4_b2)
    have xw_w6 : Ext w w6 := below_mut xw_w4 (Below.size xw_w4) hm_w6 ge_b4
    refine Go.XK.s (v := .int .i64 2) (e_assign rfl) ?_
    refine sl_nil (nrm_k ?_)
    refine sc_retf rfl (ret2 Try.results39 (rvc rfl (hb4.loadA Try.isAgg41 Try.sizeOf41 rfl)) (rvt rfl) ?_)
    exact ⟨by rw [conR_yes hcd]; rfl, xw_w6⟩
  ·
    have hcd : (!fits p.b 4 || !area p.o len) = false := by rw [← con_cond]; exact c26
    refine sc_skip (nrm_k ?_)
    refine sc_seq ?_
    refine sc_reg ?_
    refine Go.XK.s (v := .pointer (some ⟨b2, 1, none⟩)) (e_fieldB (sz := 1) Try.underlying53 rfl Try.sizeOf3 (by decide) rfl rfl) ?_
    refine Go.XK.s (v := .int .i64 p.o) (e_load rfl (load1 Try.isAgg3 (hb2.cell (j := 1) rfl))) ?_
    refine sl_call ent58 rfl rfl (both_c p.o w4) (by decide) ?_
    rintro _ w7 ⟨rfl, hw7⟩
    have xw_w7 : Ext w w7 := Ext.tr xw_w4 hw7
    replace hb2 := hb2.ext hw7
    replace hb4 := hb4.ext hw7
    refine Go.XK.s (v := .tuple #[.string (B (bothV p.o)), .int .i64 (if fits p.o 4 then (0 : Int) else 2)]) (e_move rfl) ?_
    refine Go.XK.s (v := .string (B (bothV p.o))) (e_extract (vs := [.string (B (bothV p.o)), .int .i64 (if fits p.o 4 then (0 : Int) else 2)]) rfl rfl) ?_
    refine Go.XK.s (v := .int .i64 (if fits p.o 4 then (0 : Int) else 2)) (e_extract (vs := [.string (B (bothV p.o)), .int .i64 (if fits p.o 4 then (0 : Int) else 2)]) rfl rfl) ?_
    refine Go.XK.s (v := .string (B (bothV p.o))) (e_assign rfl) ?_
    refine Go.XK.s (v := .int .i64 (if fits p.o 4 then (0 : Int) else 2)) (e_assign rfl) ?_
    refine sl_nil (nrm_k ?_)
    refine sc_seq ?_
    refine sc_reg ?_
    refine Go.XK.s (v := .int .i64 len) (e_move rfl) ?_
    refine sl_call ent58 rfl rfl (both_c len w7) (by decide) ?_
    rintro _ w8 ⟨rfl, hw8⟩
    have xw_w8 : Ext w w8 := Ext.tr xw_w7 hw8
    replace hb2 := hb2.ext hw8
    replace hb4 := hb4.ext hw8
    refine Go.XK.s (v := .tuple #[.string (B (bothV len)), .int .i64 (if fits len 4 then (0 : Int) else 2)]) (e_move rfl) ?_
    refine Go.XK.s (v := .string (B (bothV len))) (e_extract (vs := [.string (B (bothV len)), .int .i64 (if fits len 4 then (0 : Int) else 2)]) rfl rfl) ?_
    refine Go.XK.s (v := .int .i64 (if fits len 4 then (0 : Int) else 2)) (e_extract (vs := [.string (B (bothV len)), .int .i64 (if fits len 4 then (0 : Int) else 2)]) rfl rfl) ?_
    refine Go.XK.s (v := .string (B (bothV len))) (e_assign rfl) ?_
    refine Go.XK.s (v := .int .i64 (if fits len 4 then (0 : Int) else 2)) (e_assign rfl) ?_
    refine sl_nil (nrm_k ?_)
    refine sc_seq ?_
    refine sc_reg ?_
    refine Go.XK.s (v := .string (B (bothV p.b))) (e_move rfl) ?_
    refine Go.XK.s (v := .string (B (bothV p.o))) (e_move rfl) ?_
    refine Go.XK.s (v := .string (B ((bothV p.b) ++ (bothV p.o)))) (e_sadd rfl rfl (by have h1_ := bothV_le p.b; have h2_ := bothV_le p.o; have h3_ := bothV_le len; first | omega | (simp; omega))) ?_
    refine Go.XK.s (v := .string (B (bothV len))) (e_move rfl) ?_
    refine Go.XK.s (v := .string (B (((bothV p.b) ++ (bothV p.o)) ++ (bothV len)))) (e_sadd rfl rfl (by have h1_ := bothV_le p.b; have h2_ := bothV_le p.o; have h3_ := bothV_le len; first | omega | (simp; omega))) ?_
    refine Go.XK.s (v := .agg #[.string (B [67, 69]), .int .i64 1, .string (B (((bothV p.b) ++ (bothV p.o)) ++ (bothV len)))]) (e_build (vs := [(0, .string (B [67, 69])), (1, .int .i64 1), (2, .string (B (((bothV p.b) ++ (bothV p.o)) ++ (bothV len))))]) rfl (by kernel_rfl)) ?_
    refine su_blkV [.string (B [67, 69]), .int .i64 1, .string (B (((bothV p.b) ++ (bothV p.o)) ++ (bothV len)))] [.string (B [67, 69]), .int .i64 1, .string (B (((bothV p.b) ++ (bothV p.o)) ++ (bothV len)))] rfl rfl hb4 rfl Try.sizeOf41 (Nat.le_of_ble_eq_true rfl) rfl rfl ?_
    intro w9 hn_ hm_w9 hs_w9
    have ho_ := hb4
    replace hb4 := hn_
    clear hn_
    replace hb2 := hb2.mut hm_w9 (Ne.symm ne_b4_b2)
    have xw_w9 : Ext w w9 := below_mut xw_w8 (Below.size xw_w8) hm_w9 ge_b4
    refine Go.XK.s (v := .int .i64 0) (e_assign rfl) ?_
    refine sl_nil (nrm_k ?_)
    refine sc_retf rfl (ret2 Try.results39 (rvc rfl (hb4.loadA Try.isAgg41 Try.sizeOf41 rfl)) (rvt rfl) ?_)
    exact ⟨by rw [conR_no hcd]; rfl, xw_w9⟩

/-- masterdisc/masterdiscref24.Continuation (function 40) -/
theorem rcon_c (p : Pl) (len : Int) (w : World) : CallR Try.prog 40 [.agg #[.int .i64 p.b, .int .i64 p.o], .int .i64 len] w (fun v w' => v = .tuple #[.agg (encE (conR p.b p.o len).1).toArray, .int .i64 (conR p.b p.o len).2] ∧ Ext w w') := by
  refine callR_of (n := 47) [(0, .agg #[.int .i64 p.b, .int .i64 p.o]), (1, .int .i64 len)] Try.func40 rfl rfl (Nat.le_of_ble_eq_true rfl) rfl ?_
  refine sc_seq ?_
  refine sc_reg ?_
  refine s_box (cs := [.int .i64 p.b, .int .i64 p.o]) rfl rfl ?_
  intro b2 w1 hb2 he2 hs2 hx2
  have ge_b2 : w.heap.size ≤ b2 := by have h_ := (Below.size (Ext.rfl' w)); omega
  have xw_w1 : Ext w w1 := Ext.tr (Ext.rfl' w) hx2
  refine s_alloc (cs := [.string (B []), .int .i64 0, .string (B [])]) Try.zeroValue41 rfl ?_
  intro b4 w2 hb4 he4 hs4 hx4
  have ne_b4_b2 : b4 ≠ b2 := by have h_ := hb2.lt; omega
  have ge_b4 : w.heap.size ≤ b4 := by have h_ := (Below.size xw_w1); omega
  have xw_w2 : Ext w w2 := Ext.tr xw_w1 hx4
  replace hb2 := hb2.ext hx4
  refine Go.XK.s (v := .int .i64 0) (e_assign rfl) ?_
  refine sl_nil (nrm_k ?_)
  refine sc_seq ?_
  refine sc_seq ?_
  refine sc_reg ?_
  refine Go.XK.s (v := .pointer (some ⟨b2, 0, none⟩)) (e_fieldB (sz := 1) Try.underlying53 rfl Try.sizeOf3 (by decide) rfl rfl) ?_
  refine Go.XK.s (v := .int .i64 p.b) (e_load rfl (load1 Try.isAgg3 (hb2.cell (j := 0) rfl))) ?_
  refine Go.XK.s (v := .bool (decide (p.b < 0))) (e_lt rfl rfl) ?_
  refine Go.XK.s (v := .bool (decide (p.b < 0))) (e_move rfl) ?_
  refine sl_merge 4 13 (.bool ((decide (p.b < 0)) || (decide ((4294967295 : Int) < p.b)))) ?_ ?_
  · refine sl_case (t := 9) rfl (fun g1_3 => ?_) (fun g1_3 => ?_)
    ·
      refine sl_gskip rfl rfl g1_3 (by decide) ?_
      refine sl_gskip rfl rfl g1_3 (by decide) ?_
      refine sl_gskip rfl rfl g1_3 (by decide) ?_
      refine Go.XK.s (v := .bool true) (e_pickT rfl g1_3 rfl) ?_
      exact sl_nil (fun a ha => ⟨rfl, ha.sub (.cons (by rw [g1_3]; rfl) (sub_self_cons (sub_self_cons (sub_self_cons (sub_self_cons (Sub.refl _) rfl) rfl) rfl) rfl))⟩)
    ·
      refine sl_gev (v := .pointer (some ⟨b2, 0, none⟩)) rfl rfl g1_3 (e_fieldB (sz := 1) Try.underlying53 rfl Try.sizeOf3 (by decide) rfl rfl) rfl (by decide) ?_
      refine sl_gev (v := .int .i64 p.b) rfl rfl g1_3 (e_load rfl (load1 Try.isAgg3 (hb2.cell (j := 0) rfl))) rfl (by decide) ?_
      refine sl_gev (v := .bool (decide ((4294967295 : Int) < p.b))) rfl rfl g1_3 (e_gt rfl rfl) rfl (by decide) ?_
      refine Go.XK.s (v := .bool (decide ((4294967295 : Int) < p.b))) (e_pickF rfl g1_3 rfl) ?_
      exact sl_nil (fun a ha => ⟨rfl, ha.sub (.cons (by rw [g1_3]; rfl) (sub_self_cons (sub_self_cons (sub_self_cons (sub_self_cons (Sub.refl _) rfl) rfl) rfl) rfl))⟩)
  refine Go.XK.s (v := .bool ((decide (p.b < 0)) || (decide ((4294967295 : Int) < p.b)))) (e_move rfl) ?_
  refine sl_merge 4 18 (.bool (((decide (p.b < 0)) || (decide ((4294967295 : Int) < p.b))) || (decide (p.o < 0)))) ?_ ?_
  · refine sl_case (t := 14) rfl (fun g1_8 => ?_) (fun g1_8 => ?_)
    ·
      refine sl_gskip rfl rfl g1_8 (by decide) ?_
      refine sl_gskip rfl rfl g1_8 (by decide) ?_
      refine sl_gskip rfl rfl g1_8 (by decide) ?_
      refine Go.XK.s (v := .bool true) (e_pickT rfl g1_8 rfl) ?_
      exact sl_nil (fun a ha => ⟨rfl, ha.sub (.cons (by rw [g1_8]; rfl) (sub_self_cons (sub_self_cons (sub_self_cons (sub_self_cons (Sub.refl _) rfl) rfl) rfl) rfl))⟩)
    ·
      refine sl_gev (v := .pointer (some ⟨b2, 1, none⟩)) rfl rfl g1_8 (e_fieldB (sz := 1) Try.underlying53 rfl Try.sizeOf3 (by decide) rfl rfl) rfl (by decide) ?_
      refine sl_gev (v := .int .i64 p.o) rfl rfl g1_8 (e_load rfl (load1 Try.isAgg3 (hb2.cell (j := 1) rfl))) rfl (by decide) ?_
      refine sl_gev (v := .bool (decide (p.o < 0))) rfl rfl g1_8 (e_lt rfl rfl) rfl (by decide) ?_
      refine Go.XK.s (v := .bool (decide (p.o < 0))) (e_pickF rfl g1_8 rfl) ?_
      exact sl_nil (fun a ha => ⟨rfl, ha.sub (.cons (by rw [g1_8]; rfl) (sub_self_cons (sub_self_cons (sub_self_cons (sub_self_cons (Sub.refl _) rfl) rfl) rfl) rfl))⟩)
  refine Go.XK.s (v := .bool (((decide (p.b < 0)) || (decide ((4294967295 : Int) < p.b))) || (decide (p.o < 0)))) (e_move rfl) ?_
  refine sl_merge 4 23 (.bool ((((decide (p.b < 0)) || (decide ((4294967295 : Int) < p.b))) || (decide (p.o < 0))) || (decide ((2047 : Int) < p.o)))) ?_ ?_
  · refine sl_case (t := 19) rfl (fun g1_13 => ?_) (fun g1_13 => ?_)
    ·
      refine sl_gskip rfl rfl g1_13 (by decide) ?_
      refine sl_gskip rfl rfl g1_13 (by decide) ?_
      refine sl_gskip rfl rfl g1_13 (by decide) ?_
      refine Go.XK.s (v := .bool true) (e_pickT rfl g1_13 rfl) ?_
      exact sl_nil (fun a ha => ⟨rfl, ha.sub (.cons (by rw [g1_13]; rfl) (sub_self_cons (sub_self_cons (sub_self_cons (sub_self_cons (Sub.refl _) rfl) rfl) rfl) rfl))⟩)
    ·
      refine sl_gev (v := .pointer (some ⟨b2, 1, none⟩)) rfl rfl g1_13 (e_fieldB (sz := 1) Try.underlying53 rfl Try.sizeOf3 (by decide) rfl rfl) rfl (by decide) ?_
      refine sl_gev (v := .int .i64 p.o) rfl rfl g1_13 (e_load rfl (load1 Try.isAgg3 (hb2.cell (j := 1) rfl))) rfl (by decide) ?_
      refine sl_gev (v := .bool (decide ((2047 : Int) < p.o))) rfl rfl g1_13 (e_gt rfl rfl) rfl (by decide) ?_
      refine Go.XK.s (v := .bool (decide ((2047 : Int) < p.o))) (e_pickF rfl g1_13 rfl) ?_
      exact sl_nil (fun a ha => ⟨rfl, ha.sub (.cons (by rw [g1_13]; rfl) (sub_self_cons (sub_self_cons (sub_self_cons (sub_self_cons (Sub.refl _) rfl) rfl) rfl) rfl))⟩)
  refine Go.XK.s (v := .bool ((((decide (p.b < 0)) || (decide ((4294967295 : Int) < p.b))) || (decide (p.o < 0))) || (decide ((2047 : Int) < p.o)))) (e_move rfl) ?_
  refine sl_merge 3 27 (.bool (((((decide (p.b < 0)) || (decide ((4294967295 : Int) < p.b))) || (decide (p.o < 0))) || (decide ((2047 : Int) < p.o))) || (decide (len < 1)))) ?_ ?_
  · refine sl_case (t := 24) rfl (fun g1_18 => ?_) (fun g1_18 => ?_)
    ·
      refine sl_gskip rfl rfl g1_18 (by decide) ?_
      refine sl_gskip rfl rfl g1_18 (by decide) ?_
      refine Go.XK.s (v := .bool true) (e_pickT rfl g1_18 rfl) ?_
      exact sl_nil (fun a ha => ⟨rfl, ha.sub (.cons (by rw [g1_18]; rfl) (sub_self_cons (sub_self_cons (sub_self_cons (Sub.refl _) rfl) rfl) rfl))⟩)
    ·
      refine sl_gev (v := .int .i64 len) rfl rfl g1_18 (e_move rfl) rfl (by decide) ?_
      refine sl_gev (v := .bool (decide (len < 1))) rfl rfl g1_18 (e_lt rfl rfl) rfl (by decide) ?_
      refine Go.XK.s (v := .bool (decide (len < 1))) (e_pickF rfl g1_18 rfl) ?_
      exact sl_nil (fun a ha => ⟨rfl, ha.sub (.cons (by rw [g1_18]; rfl) (sub_self_cons (sub_self_cons (sub_self_cons (Sub.refl _) rfl) rfl) rfl))⟩)
  refine Go.XK.s (v := .bool (((((decide (p.b < 0)) || (decide ((4294967295 : Int) < p.b))) || (decide (p.o < 0))) || (decide ((2047 : Int) < p.o))) || (decide (len < 1)))) (e_move rfl) ?_
  refine sl_merge 6 34 (.bool ((((((decide (p.b < 0)) || (decide ((4294967295 : Int) < p.b))) || (decide (p.o < 0))) || (decide ((2047 : Int) < p.o))) || (decide (len < 1))) || (decide ((2048 : Int) - p.o < len)))) ?_ ?_
  · refine sl_case (t := 28) rfl (fun g1_22 => ?_) (fun g1_22 => ?_)
    ·
      refine sl_gskip rfl rfl g1_22 (by decide) ?_
      refine sl_gskip rfl rfl g1_22 (by decide) ?_
      refine sl_gskip rfl rfl g1_22 (by decide) ?_
      refine sl_gskip rfl rfl g1_22 (by decide) ?_
      refine sl_gskip rfl rfl g1_22 (by decide) ?_
      refine Go.XK.s (v := .bool true) (e_pickT rfl g1_22 rfl) ?_
      exact sl_nil (fun a ha => ⟨rfl, ha.sub (.cons (by rw [g1_22]; rfl) (sub_self_cons (sub_self_cons (sub_self_cons (sub_self_cons (sub_self_cons (sub_self_cons (Sub.refl _) rfl) rfl) rfl) rfl) rfl) rfl))⟩)
    ·
      have h_ := g1_22
      simp only [Bool.or_eq_false_iff, decide_eq_false_iff_not] at h_
      refine sl_gev (v := .int .i64 len) rfl rfl g1_22 (e_move rfl) rfl (by decide) ?_
      refine sl_gev (v := .pointer (some ⟨b2, 1, none⟩)) rfl rfl g1_22 (e_fieldB (sz := 1) Try.underlying53 rfl Try.sizeOf3 (by decide) rfl rfl) rfl (by decide) ?_
      refine sl_gev (v := .int .i64 p.o) rfl rfl g1_22 (e_load rfl (load1 Try.isAgg3 (hb2.cell (j := 1) rfl))) rfl (by decide) ?_
      refine sl_gev (v := .int .i64 ((2048 : Int) - p.o)) rfl rfl g1_22 (e_sub rfl rfl (by omega)) rfl (by decide) ?_
      refine sl_gev (v := .bool (decide ((2048 : Int) - p.o < len))) rfl rfl g1_22 (e_gt rfl rfl) rfl (by decide) ?_
      refine Go.XK.s (v := .bool (decide ((2048 : Int) - p.o < len))) (e_pickF rfl g1_22 rfl) ?_
      exact sl_nil (fun a ha => ⟨rfl, ha.sub (.cons (by rw [g1_22]; rfl) (sub_self_cons (sub_self_cons (sub_self_cons (sub_self_cons (sub_self_cons (sub_self_cons (Sub.refl _) rfl) rfl) rfl) rfl) rfl) rfl))⟩)
  refine sl_nil (nrm_k ?_)
  refine sc_if rfl (fun c34 => ?_) (fun c34 => ?_)
  ·
    have hcd : (!fits p.b 4 || !area p.o len) = true := by rw [← rcon_cond]; exact c34
    refine sc_seq ?_
    refine sc_reg ?_
    refine Go.XK.s (v := .agg #[.string (B []), .int .i64 0, .string (B [])]) (e_build (vs := []) rfl (by kernel_rfl)) ?_
    refine su_blkV [.string (B []), .int .i64 0, .string (B [])] [.string (B []), .int .i64 0, .string (B [])] rfl rfl hb4 rfl Try.sizeOf41 (Nat.le_of_ble_eq_true rfl) rfl rfl ?_
    intro w3 hn_ hm_w3 hs_w3
    have ho_ := hb4
    replace hb4 := hn_
    clear hn_
    replace hb2 := hb2.mut hm_w3 (Ne.symm ne_b4_b2)
    have xw_w3 : Ext w w3 := below_mut xw_w2 (Below.size xw_w2) hm_w3 ge_b4
    refine Go.XK.s (v := .int .i64 2) (e_assign rfl) ?_
    refine sl_nil (nrm_k ?_)
    refine sc_retf rfl (ret2 Try.results40 (rvc rfl (hb4.loadA Try.isAgg41 Try.sizeOf41 rfl)) (rvt rfl) ?_)
    exact ⟨by rw [conR_yes hcd]; rfl, xw_w3⟩
  ·
    have hcd : (!fits p.b 4 || !area p.o len) = false := by rw [← rcon_cond]; exact c34
    have hr_ := c34
    simp only [Bool.or_eq_false_iff, decide_eq_false_iff_not] at hr_
    refine sc_skip (nrm_k ?_)
    refine sc_seq ?_
    refine sc_free [(34, .bool ((((((decide (p.b < 0)) || (decide ((4294967295 : Int) < p.b))) || (decide (p.o < 0))) || (decide ((2047 : Int) < p.o))) || (decide (len < 1))) || (decide ((2048 : Int) - p.o < len)))), (28, .bool (((((decide (p.b < 0)) || (decide ((4294967295 : Int) < p.b))) || (decide (p.o < 0))) || (decide ((2047 : Int) < p.o))) || (decide (len < 1)))), (27, .bool (((((decide (p.b < 0)) || (decide ((4294967295 : Int) < p.b))) || (decide (p.o < 0))) || (decide ((2047 : Int) < p.o))) || (decide (len < 1)))), (24, .bool ((((decide (p.b < 0)) || (decide ((4294967295 : Int) < p.b))) || (decide (p.o < 0))) || (decide ((2047 : Int) < p.o)))), (23, .bool ((((decide (p.b < 0)) || (decide ((4294967295 : Int) < p.b))) || (decide (p.o < 0))) || (decide ((2047 : Int) < p.o)))), (19, .bool (((decide (p.b < 0)) || (decide ((4294967295 : Int) < p.b))) || (decide (p.o < 0)))), (18, .bool (((decide (p.b < 0)) || (decide ((4294967295 : Int) < p.b))) || (decide (p.o < 0)))), (14, .bool ((decide (p.b < 0)) || (decide ((4294967295 : Int) < p.b)))), (13, .bool ((decide (p.b < 0)) || (decide ((4294967295 : Int) < p.b)))), (9, .bool (decide (p.b < 0))), (8, .bool (decide (p.b < 0))), (7, .int .i64 p.b), (6, .pointer (some ⟨b2, 0, none⟩)), (5, .int .i64 0), (4, .pointer (some ⟨b4, 0, none⟩)), (2, .pointer (some ⟨b2, 0, none⟩)), (0, .agg #[.int .i64 p.b, .int .i64 p.o]), (1, .int .i64 len)] [36, 37, 38, 39, 40, 41, 42, 43, 44, 45, 46] [(Is (.pointer (some ⟨b2, 0, none⟩))), (Is (.int .i64 p.b)), (Is (.string (B (bothV p.b)))), (Is (.pointer (some ⟨b2, 1, none⟩))), (Is (.int .i64 p.o)), (Is (.string (B (bothV p.o)))), (Is (.string (B ((bothV p.b) ++ (bothV p.o))))), (Is (.int .i64 len)), (Is (.string (B (bothV len)))), (Is (.string (B (((bothV p.b) ++ (bothV p.o)) ++ (bothV len))))), (Is (.agg #[.string (B [67, 69]), .int .i64 1, .string (B (((bothV p.b) ++ (bothV p.o)) ++ (bothV len)))]))] [11, 12] (by kernel_rfl) (Sub.refl _) (by kernel_rfl) (by kernel_rfl) (by kernel_rfl) rfl (by kernel_rfl) (ds_ext (Stays.spec (.is _ (.is _ (.is _ (.is _ (.is _ (.is _ (.is _ (.is _ (.is _ (.is _ (.is _ (.nil)))))))))))))) ⟨?_, ?_, ?_, ?_, ?_, ?_, ?_, ?_, ?_, ?_, ?_, trivial⟩ ?_
    · intro Q act_ wI hxI ha hp
      have xw_wI : Ext w wI := Ext.tr xw_w2 hxI
      replace hb2 := hb2.ext hxI
      replace hb4 := hb4.ext hxI
      exact h_evA (v := .pointer (some ⟨b2, 0, none⟩)) ha rfl (e_fieldB (sz := 1) Try.underlying53 rfl Try.sizeOf3 (by decide) rfl rfl) rfl rfl (Ext.rfl' _)
    · intro Q act_ wI hxI ha hp
      have xw_wI : Ext w wI := Ext.tr xw_w2 hxI
      replace hb2 := hb2.ext hxI
      replace hb4 := hb4.ext hxI
      have ha := ha.add (show act_.tmps.getD 36 undef = .pointer (some ⟨b2, 0, none⟩) from hp 0 (by kernel_rfl) (by decide))
      exact h_evA (v := .int .i64 p.b) ha rfl (e_load rfl (load1 Try.isAgg3 (hb2.cell (j := 0) rfl))) rfl rfl (Ext.rfl' _)
    · intro Q act_ wI hxI ha hp
      have xw_wI : Ext w wI := Ext.tr xw_w2 hxI
      replace hb2 := hb2.ext hxI
      replace hb4 := hb4.ext hxI
      have ha := ha.add (show act_.tmps.getD 37 undef = .int .i64 p.b from hp 1 (by kernel_rfl) (by decide))
      exact h_callA ha ent60 rfl rfl rfl (rbothb_c p.b wI (by omega)) rfl (by rintro _ w1 ⟨rfl, hR⟩; exact ⟨rfl, hR⟩)
    · intro Q act_ wI hxI ha hp
      have xw_wI : Ext w wI := Ext.tr xw_w2 hxI
      replace hb2 := hb2.ext hxI
      replace hb4 := hb4.ext hxI
      exact h_evA (v := .pointer (some ⟨b2, 1, none⟩)) ha rfl (e_fieldB (sz := 1) Try.underlying53 rfl Try.sizeOf3 (by decide) rfl rfl) rfl rfl (Ext.rfl' _)
    · intro Q act_ wI hxI ha hp
      have xw_wI : Ext w wI := Ext.tr xw_w2 hxI
      replace hb2 := hb2.ext hxI
      replace hb4 := hb4.ext hxI
      have ha := ha.add (show act_.tmps.getD 39 undef = .pointer (some ⟨b2, 1, none⟩) from hp 3 (by kernel_rfl) (by decide))
      exact h_evA (v := .int .i64 p.o) ha rfl (e_load rfl (load1 Try.isAgg3 (hb2.cell (j := 1) rfl))) rfl rfl (Ext.rfl' _)
    · intro Q act_ wI hxI ha hp
      have xw_wI : Ext w wI := Ext.tr xw_w2 hxI
      replace hb2 := hb2.ext hxI
      replace hb4 := hb4.ext hxI
      have ha := ha.add (show act_.tmps.getD 40 undef = .int .i64 p.o from hp 4 (by kernel_rfl) (by decide))
      exact h_callA ha ent60 rfl rfl rfl (rbothb_c p.o wI (by omega)) rfl (by rintro _ w1 ⟨rfl, hR⟩; exact ⟨rfl, hR⟩)
    · intro Q act_ wI hxI ha hp
      have xw_wI : Ext w wI := Ext.tr xw_w2 hxI
      replace hb2 := hb2.ext hxI
      replace hb4 := hb4.ext hxI
      have ha := ha.add (show act_.tmps.getD 38 undef = .string (B (bothV p.b)) from hp 2 (by kernel_rfl) (by decide))
      have ha := ha.add (show act_.tmps.getD 41 undef = .string (B (bothV p.o)) from hp 5 (by kernel_rfl) (by decide))
      exact h_evA (v := .string (B ((bothV p.b) ++ (bothV p.o)))) ha rfl (e_sadd rfl rfl (by have h1_ := bothV_le p.b; have h2_ := bothV_le p.o; have h3_ := bothV_le len; first | omega | (simp; omega))) rfl rfl (Ext.rfl' _)
    · intro Q act_ wI hxI ha hp
      have xw_wI : Ext w wI := Ext.tr xw_w2 hxI
      replace hb2 := hb2.ext hxI
      replace hb4 := hb4.ext hxI
      exact h_evA (v := .int .i64 len) ha rfl (e_move rfl) rfl rfl (Ext.rfl' _)
    · intro Q act_ wI hxI ha hp
      have xw_wI : Ext w wI := Ext.tr xw_w2 hxI
      replace hb2 := hb2.ext hxI
      replace hb4 := hb4.ext hxI
      have ha := ha.add (show act_.tmps.getD 43 undef = .int .i64 len from hp 7 (by kernel_rfl) (by decide))
      exact h_callA ha ent60 rfl rfl rfl (rbothb_c len wI (by omega)) rfl (by rintro _ w1 ⟨rfl, hR⟩; exact ⟨rfl, hR⟩)
    · intro Q act_ wI hxI ha hp
      have xw_wI : Ext w wI := Ext.tr xw_w2 hxI
      replace hb2 := hb2.ext hxI
      replace hb4 := hb4.ext hxI
      have ha := ha.add (show act_.tmps.getD 42 undef = .string (B ((bothV p.b) ++ (bothV p.o))) from hp 6 (by kernel_rfl) (by decide))
      have ha := ha.add (show act_.tmps.getD 44 undef = .string (B (bothV len)) from hp 8 (by kernel_rfl) (by decide))
      exact h_evA (v := .string (B (((bothV p.b) ++ (bothV p.o)) ++ (bothV len)))) ha rfl (e_sadd rfl rfl (by have h1_ := bothV_le p.b; have h2_ := bothV_le p.o; have h3_ := bothV_le len; first | omega | (simp; omega))) rfl rfl (Ext.rfl' _)
    · intro Q act_ wI hxI ha hp
      have xw_wI : Ext w wI := Ext.tr xw_w2 hxI
      replace hb2 := hb2.ext hxI
      replace hb4 := hb4.ext hxI
      have ha := ha.add (show act_.tmps.getD 45 undef = .string (B (((bothV p.b) ++ (bothV p.o)) ++ (bothV len))) from hp 9 (by kernel_rfl) (by decide))
      exact h_evA (v := .agg #[.string (B [67, 69]), .int .i64 1, .string (B (((bothV p.b) ++ (bothV p.o)) ++ (bothV len)))]) ha rfl (e_build (vs := [(0, .string (B [67, 69])), (1, .int .i64 1), (2, .string (B (((bothV p.b) ++ (bothV p.o)) ++ (bothV len))))]) rfl (by kernel_rfl)) rfl rfl (Ext.rfl' _)
    intro vs_ w4 hx_w4 hvs act_ ha hv
    have xw_w4 : Ext w w4 := Ext.tr xw_w2 hx_w4
    replace hb2 := hb2.ext hx_w4
    replace hb4 := hb4.ext hx_w4
    have ha := ha.add ((hv 10 (by decide)).trans (show vs_ 10 = .agg #[.string (B [67, 69]), .int .i64 1, .string (B (((bothV p.b) ++ (bothV p.o)) ++ (bothV len)))] from hvs 10 (by decide)))
    refine st_go ha ?_
    clear ha hv hvs
    refine st_blkV [.string (B [67, 69]), .int .i64 1, .string (B (((bothV p.b) ++ (bothV p.o)) ++ (bothV len)))] [.string (B [67, 69]), .int .i64 1, .string (B (((bothV p.b) ++ (bothV p.o)) ++ (bothV len)))] rfl rfl rfl hb4 rfl Try.sizeOf41 (Nat.le_of_ble_eq_true rfl) rfl rfl ?_
    intro w5 hn_ hm_w5 hs_w5
    have ho_ := hb4
    replace hb4 := hn_
    clear hn_
    replace hb2 := hb2.mut hm_w5 (Ne.symm ne_b4_b2)
    have xw_w5 : Ext w w5 := below_mut xw_w4 (Below.size xw_w4) hm_w5 ge_b4
    refine st_ev (v := .int .i64 0) rfl (e_assign rfl) ?_
    refine st_nil (nrm_k ?_)
    refine sc_retf rfl (ret2 Try.results40 (rvc rfl (hb4.loadA Try.isAgg41 Try.sizeOf41 rfl)) (rvt rfl) ?_)
    exact ⟨by rw [conR_no hcd]; rfl, xw_w5⟩

end Go.Proofs.Ytnbclhbpjlpcoaa
