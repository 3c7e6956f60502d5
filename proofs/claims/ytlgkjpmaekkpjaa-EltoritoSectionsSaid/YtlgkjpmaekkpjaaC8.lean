/- Chapter 27: C8. Printed by my program wip/tools/wk.py. -/
import Derived.Test.YtlgkjpmaekkpjaaC7
import Derived.Test.YtlgkjpmaekkpjaaMath4
set_option linter.unusedVariables false
set_option linter.unusedSimpArgs false
set_option maxRecDepth 4000
set_option maxHeartbeats 1000000
namespace Go.Proofs.Ytlgkjpmaekkpjaa
open Go.XK Go.RowKit
/-- masterdisc/eltorito.entries (function 33) -/
theorem entries_c (s : List UInt8) (w : World) : CallR Try.prog 33 [.string (B s)] w (fun v w' => ∃ b : Nat, v = .func (.func 49) #[] #[.pointer (some ⟨b, 0, none⟩)] ∧ Blk w' b 9 [.string (B s)] ∧ w.heap.size ≤ b ∧ Ext w w') := by
  refine callR_of (n := 4) [(0, .string (B s))] Try.func33 rfl rfl (Nat.le_of_ble_eq_true rfl) rfl ?_
  refine sc_seq ?_
  refine sc_reg ?_
  refine s_box (cs := [.string (B s)]) rfl rfl ?_
  intro b1 w1 hb1 he1 hs1 hx1
  have ge_b1 : w.heap.size ≤ b1 := by have h_ := (Below.size (Ext.rfl' w)); omega
  have xw_w1 : Ext w w1 := Ext.tr (Ext.rfl' w) hx1
  refine Go.XK.s (v := .nilFunc) (e_assign rfl) ?_
  refine sl_nil (nrm_k ?_)
  refine sc_seq ?_
  refine sc_reg ?_
  refine Go.XK.s (v := .func (.func 49) #[] #[.pointer (some ⟨b1, 0, none⟩)]) (e_makeFunc (vs := [.pointer (some ⟨b1, 0, none⟩)]) rfl) ?_
  refine Go.XK.s (v := .func (.func 49) #[] #[.pointer (some ⟨b1, 0, none⟩)]) (e_assign rfl) ?_
  refine sl_nil (nrm_k ?_)
  refine sc_retf rfl (ret1 Try.results33 (rvt rfl) ?_)
  exact ⟨b1, rfl, hb1, ge_b1, xw_w1⟩

/-- masterdisc/eltorito.entries$1 (function 49) -/
theorem iter_walk (s : List UInt8) (b id : Nat) (J Jx : List Ent32 → World → Prop) (w : World) (hs : s.length = 2048) (hb : Blk w b 9 [.string (B s)]) (hY : ∀ (pre : List Ent32) (x : Ent32) (W1 : World), J pre W1 → pre.length < 64 → YieldAt (WR none) 0 Try.prog id [.string (B x.1)].toArray W1 fun e W' => ∃ v, e = .returned v ∧ ((v = .bool true ∧ J (pre ++ [x]) W' ∧ KpB b W1 W') ∨ (v = .bool false ∧ Jx (pre ++ [x]) W'))) (h0 : J [] w) : CallR Try.prog 49 [.func (.yield id) #[] #[], .pointer (some ⟨b, 0, none⟩)] w (fun v w' => (∃ xs, raw xs = E s 0 ∧ J xs w') ∨ (∃ pre, (∃ rest, raw pre ++ rest = E s 0) ∧ Jx pre w')) := by
  refine callR_of (n := 18) [(0, .func (.yield id) #[] #[]), (1, .pointer (some ⟨b, 0, none⟩))] Try.func49 rfl rfl (Nat.le_of_ble_eq_true rfl) rfl ?_
  refine sc_seq ?_
  refine sc_reg ?_
  refine Go.XK.s (v := .int .i64 0) (e_assign rfl) ?_
  refine sl_nil (nrm_k ?_)
  refine sc_block ?_
  refine sc_loop (fun m_ l_ w_ => ∃ (a : Int) (pre : List Ent32), m_ = 64 - pre.length ∧ l_ = [(3, .int .i64 a), (0, .func (.yield id) #[] #[]), (1, .pointer (some ⟨b, 0, none⟩))] ∧ Blk w_ b 9 [.string (B s)] ∧ (pre.length ≤ 64 ∧ a = 32 * pre.length) ∧ raw pre = (E s 0).take pre.length ∧ J pre w_) _ [(3, .int .i64 0), (0, .func (.yield id) #[] #[]), (1, .pointer (some ⟨b, 0, none⟩))] ⟨0, [], rfl, rfl, hb, ⟨⟨by simp, by simp⟩, rfl, h0⟩⟩ (.cons rfl (.cons rfl (.cons rfl (.nil)))) ?_
  rintro j2 _ w1 ⟨a, pre, rfl, rfl, hb, ⟨⟨hpl, hap⟩, hraw, hJ⟩⟩
  refine sc_seq ?_
  refine sc_seq ?_
  refine sc_reg ?_
  refine Go.XK.s (v := .int .i64 a) (e_move rfl) ?_
  refine Go.XK.s (v := .string (B s)) (e_load rfl (load1 Try.isAgg9 (hb.cell (j := 0) rfl))) ?_
  refine Go.XK.s (v := .int .i64 (s.length : Int)) (e_slen Try.underlying9 rfl) ?_
  refine Go.XK.s (v := .bool (decide (a < (s.length : Int)))) (e_lt rfl rfl) ?_
  refine sl_nil (nrm_k ?_)
  refine sc_ifd rfl (fun c7 => ?_) (fun c7 => ?_)
  ·
    have hx32 : (sub s a 32).length = 32 := sub_length (by omega) (by omega)
    refine sc_skip (nrm_k ?_)
    refine sc_seq ?_
    refine sc_block ?_
    refine sc_seq ?_
    refine sc_reg ?_
    refine Go.XK.s (v := .func (.yield id) #[] #[]) (e_move rfl) ?_
    refine Go.XK.s (v := .string (B s)) (e_load rfl (load1 Try.isAgg9 (hb.cell (j := 0) rfl))) ?_
    refine Go.XK.s (v := .int .i64 a) (e_move rfl) ?_
    refine Go.XK.s (v := .int .i64 a) (e_move rfl) ?_
    refine Go.XK.s (v := .int .i64 (a + 32)) (e_add rfl rfl (by omega)) ?_
    refine Go.XK.s (v := .string (B (sub s a 32))) (e_ssub 32 Try.underlying9 rfl rfl rfl (by omega) (by omega)) ?_
    refine sl_yield (R := fun v W' => ∃ ok : Bool, v = .bool ok ∧ (ok = true → J (pre ++ [⟨sub s a 32, hx32⟩]) W' ∧ KpB b w1 W') ∧ (ok = false → Jx (pre ++ [⟨sub s a 32, hx32⟩]) W')) rfl rfl (YieldAt.mono (hY pre ⟨sub s a 32, hx32⟩ w1 hJ (by omega)) ?_) (by decide) ?_
    · rintro e W' ⟨v, rfl, (⟨rfl, h1, h2⟩ | ⟨rfl, h1⟩)⟩
      · exact ⟨_, rfl, true, rfl, fun _ => ⟨h1, h2⟩, fun h_ => by cases h_⟩
      · exact ⟨_, rfl, false, rfl, (fun h_ => by cases h_), fun _ => h1⟩
    rintro _ wY ⟨ok, rfl, hgo, hstop⟩
    refine Go.XK.s (v := .bool (!ok)) (e_not rfl) ?_
    refine sl_nil (nrm_k ?_)
    refine sc_if rfl (fun c17 => ?_) (fun c17 => ?_)
    ·
      have hok : ok = false := by simpa using c17
      refine sc_retf rfl (ret0 Try.results49  ?_)
      exact .inr ⟨_, ⟨(E s 0).drop (pre.length + 1), by
        rw [show raw (pre ++ [⟨sub s a 32, hx32⟩]) = raw pre ++ [sub s a 32] from by simp [raw], hraw, hap, List.append_assoc]
        rw [show [sub s (32 * (pre.length : Int)) 32] ++ (E s 0).drop (pre.length + 1) = (E s 0).drop pre.length from by rw [E_drop s _ (by omega), E_drop s _ (by omega)]; exact (E_cons (by omega)).symm]
        exact List.take_append_drop _ _⟩, hstop hok⟩
    ·
      have hok : ok = true := by simpa using c17
      obtain ⟨hJ2, hK⟩ := hgo hok
      replace hb := hK.blk hb
      refine sc_skip (nrm_k ?_)
      refine sc_reg ?_
      refine Go.XK.s (v := .int .i64 a) (e_move rfl) ?_
      refine Go.XK.s (v := .int .i64 (a + 32)) (e_add rfl rfl (by omega)) ?_
      refine Go.XK.s (v := .int .i64 (a + 32)) (e_assign rfl) ?_
      refine sl_nil ?_
      exact nrm_loopq rfl _ _ (by (simp; omega)) ⟨a + 32, pre ++ [⟨sub s a 32, hx32⟩], rfl, rfl, hb, ⟨⟨by simp; omega, by simp; omega⟩, by
        rw [show raw (pre ++ [⟨sub s a 32, hx32⟩]) = raw pre ++ [sub s a 32] from by simp [raw], hraw, List.length_append, List.length_singleton, List.take_add_one, E_get (by omega), ← hap]
        rfl, hJ2⟩⟩ (.cons rfl (.cons rfl (.cons rfl (.nil))))
  ·
    refine sc_exit rfl ?_
    refine nrm_f rfl (ret0 Try.results49 ?_)
    exact .inl ⟨pre, by rw [hraw, List.take_of_length_le (by rw [show (E s 0).length = 64 from E_length s 64 (by omega)]; omega)], hJ⟩

theorem iter_c (s : List UInt8) (b : Nat) (w : World) (hs : s.length = 2048) (hb : Blk w b 9 [.string (B s)]) :
    Iter Try.prog 49 [.pointer (some ⟨b, 0, none⟩)] (fun x : Ent32 => [.string (B x.1)]) (KpB b) (fun xs => raw xs = E s 0) (fun pre => ∃ rest, raw pre ++ rest = E s 0) 64 w :=
  iter_of fun id J Jx W hW hY h0 => iter_walk s b id J Jx W hs (hb.ext hW) hY h0

theorem no105 {a : Int} {m : Bool} (h : (decide (a = 0) && (!m)) = false) : ¬ (a = 0 ∧ m = false) := fun h_ => by rw [decide_eq_true h_.1, h_.2] at h; cases h
theorem no105b {a : Int} {p : Prop} [Decidable p] (h : (decide (a = 0) && decide (¬ p)) = false) : ¬ (a = 0 ∧ decide p = false) := fun h_ => by
  rw [decide_eq_true h_.1, decide_not, h_.2] at h; cases h
theorem st105 {a : Int} {m : Bool} (h : (decide (a = 0) && (!m)) = true) : a = 0 ∧ m = false := by simpa using h
theorem st105b {a : Int} {p : Prop} [Decidable p] (h : (decide (a = 0) && decide (¬ p)) = true) : a = 0 ∧ decide p = false := by simpa using h

/-- masterdisc/eltorito.Decode (function 13) -/
theorem decode_c (s : List UInt8) (w : World) : CallR Try.prog 13 [.string (B s)] w (fun v w' => ∃ (vs : Value) (e : Int) (o : List Img), v = .tuple #[vs, .int .i64 e] ∧ decR s = (o, e) ∧ Go.XK.Own w' w.heap.size 34 6 Img.enc vs o ∧ Ext w w') := by
  refine callR_ofM (n := 107) [(0, .string (B s))] Try.func13 rfl rfl (Nat.le_of_ble_eq_true rfl) rfl ?_
  refine sc_seq ?_
  refine sc_reg ?_
  refine s_alloc (cs := [.slice none 0 0]) Try.zeroValue22 rfl ?_
  intro b2 w1 hb2 he2 hs2 hx2
  have ge_b2 : w.heap.size ≤ b2 := by have h_ := (Below.size (Ext.rfl' w)); omega
  have xw_w1 : Ext w w1 := Ext.tr (Ext.rfl' w) hx2
  refine s_alloc (cs := [.int .i64 0]) Try.zeroValue24 rfl ?_
  intro b3 w2 hb3 he3 hs3 hx3
  have ne_b3_b2 : b3 ≠ b2 := by have h_ := hb2.lt; omega
  have ge_b3 : w.heap.size ≤ b3 := by have h_ := (Below.size xw_w1); omega
  have xw_w2 : Ext w w2 := Ext.tr xw_w1 hx3
  replace hb2 := hb2.ext hx3
  refine sl_nil (nrm_k ?_)
  refine sc_seq ?_
  refine sc_seq ?_
  refine sc_reg ?_
  refine Go.XK.s (v := .string (B s)) (e_move rfl) ?_
  refine Go.XK.s (v := .int .i64 (s.length : Int)) (e_slen Try.underlying9 rfl) ?_
  refine Go.XK.s (v := .bool (decide ((s.length : Int) ≠ 2048))) (e_ne rfl rfl) ?_
  refine sl_nil (nrm_k ?_)
  refine sc_ifd rfl (fun c13 => ?_) (fun c13 => ?_)
  ·
    refine sc_seq ?_
    refine sc_reg ?_
    refine su_blkV [.slice none 0 0] [.slice none 0 0] rfl rfl hb2 rfl Try.sizeOf22 (Nat.le_of_ble_eq_true rfl) rfl rfl ?_
    intro w3 hn_ hm_w3 hs_w3
    have ho_ := hb2
    replace hb2 := hn_
    clear hn_
    replace hb3 := hb3.mut hm_w3 ne_b3_b2
    have xw_w3 : Ext w w3 := below_mut xw_w2 (Below.size xw_w2) hm_w3 ge_b2
    refine su_blkV [.int .i64 1] [.int .i64 1] rfl rfl hb3 rfl Try.sizeOf24 (Nat.le_of_ble_eq_true rfl) rfl rfl ?_
    intro w4 hn_ hm_w4 hs_w4
    have ho_ := hb3
    replace hb3 := hn_
    clear hn_
    replace hb2 := hb2.mut hm_w4 (Ne.symm ne_b3_b2)
    have xw_w4 : Ext w w4 := below_mut xw_w3 (Below.size xw_w3) hm_w4 ge_b3
    refine sl_nil (nrm_k ?_)
    refine sc_retM rfl (ret2 Try.results13 (rvc rfl (load1 Try.isAgg22 (hb2.cell (j := 0) rfl))) (rvc rfl (load1 Try.isAgg24 (hb3.cell (j := 0) rfl))) ?_)
    exact ⟨_, _, _, rfl, decR_size (by omega), Go.XK.Own.nil _ _ _ _ _, xw_w4⟩
  ·
    have hs : s.length = 2048 := by omega
    refine sc_skip (nrm_k ?_)
    refine sc_seq ?_
    refine sc_reg ?_
    refine s_alloc (cs := [.slice none 0 0]) Try.zeroValue22 rfl ?_
    intro b4 w5 hb4 he4 hs4 hx4
    have ne_b4_b2 : b4 ≠ b2 := by have h_ := hb2.lt; omega
    have ne_b4_b3 : b4 ≠ b3 := by have h_ := hb3.lt; omega
    have ge_b4 : w.heap.size ≤ b4 := by have h_ := (Below.size xw_w2); omega
    have xw_w5 : Ext w w5 := Ext.tr xw_w2 hx4
    replace hb2 := hb2.ext hx4
    replace hb3 := hb3.ext hx4
    refine sl_nil (nrm_k ?_)
    refine sc_seq ?_
    refine sc_reg ?_
    refine s_alloc (cs := [.int .i64 0]) Try.zeroValue3 rfl ?_
    intro b5 w6 hb5 he5 hs5 hx5
    have ne_b5_b2 : b5 ≠ b2 := by have h_ := hb2.lt; omega
    have ne_b5_b3 : b5 ≠ b3 := by have h_ := hb3.lt; omega
    have ne_b5_b4 : b5 ≠ b4 := by have h_ := hb4.lt; omega
    have ge_b5 : w.heap.size ≤ b5 := by have h_ := (Below.size xw_w5); omega
    have xw_w6 : Ext w w6 := Ext.tr xw_w5 hx5
    replace hb2 := hb2.ext hx5
    replace hb3 := hb3.ext hx5
    replace hb4 := hb4.ext hx5
    refine s_alloc (cs := [.int .i64 0]) Try.zeroValue3 rfl ?_
    intro b6 w7 hb6 he6 hs6 hx6
    have ne_b6_b2 : b6 ≠ b2 := by have h_ := hb2.lt; omega
    have ne_b6_b3 : b6 ≠ b3 := by have h_ := hb3.lt; omega
    have ne_b6_b4 : b6 ≠ b4 := by have h_ := hb4.lt; omega
    have ne_b6_b5 : b6 ≠ b5 := by have h_ := hb5.lt; omega
    have ge_b6 : w.heap.size ≤ b6 := by have h_ := (Below.size xw_w6); omega
    have xw_w7 : Ext w w7 := Ext.tr xw_w6 hx6
    replace hb2 := hb2.ext hx6
    replace hb3 := hb3.ext hx6
    replace hb4 := hb4.ext hx6
    replace hb5 := hb5.ext hx6
    refine s_alloc (cs := [.bool false]) Try.zeroValue4 rfl ?_
    intro b7 w8 hb7 he7 hs7 hx7
    have ne_b7_b2 : b7 ≠ b2 := by have h_ := hb2.lt; omega
    have ne_b7_b3 : b7 ≠ b3 := by have h_ := hb3.lt; omega
    have ne_b7_b4 : b7 ≠ b4 := by have h_ := hb4.lt; omega
    have ne_b7_b5 : b7 ≠ b5 := by have h_ := hb5.lt; omega
    have ne_b7_b6 : b7 ≠ b6 := by have h_ := hb6.lt; omega
    have ge_b7 : w.heap.size ≤ b7 := by have h_ := (Below.size xw_w7); omega
    have xw_w8 : Ext w w8 := Ext.tr xw_w7 hx7
    replace hb2 := hb2.ext hx7
    replace hb3 := hb3.ext hx7
    replace hb4 := hb4.ext hx7
    replace hb5 := hb5.ext hx7
    replace hb6 := hb6.ext hx7
    refine s_alloc (cs := [.bool false]) Try.zeroValue4 rfl ?_
    intro b8 w9 hb8 he8 hs8 hx8
    have ne_b8_b2 : b8 ≠ b2 := by have h_ := hb2.lt; omega
    have ne_b8_b3 : b8 ≠ b3 := by have h_ := hb3.lt; omega
    have ne_b8_b4 : b8 ≠ b4 := by have h_ := hb4.lt; omega
    have ne_b8_b5 : b8 ≠ b5 := by have h_ := hb5.lt; omega
    have ne_b8_b6 : b8 ≠ b6 := by have h_ := hb6.lt; omega
    have ne_b8_b7 : b8 ≠ b7 := by have h_ := hb7.lt; omega
    have ge_b8 : w.heap.size ≤ b8 := by have h_ := (Below.size xw_w8); omega
    have xw_w9 : Ext w w9 := Ext.tr xw_w8 hx8
    replace hb2 := hb2.ext hx8
    replace hb3 := hb3.ext hx8
    replace hb4 := hb4.ext hx8
    replace hb5 := hb5.ext hx8
    replace hb6 := hb6.ext hx8
    replace hb7 := hb7.ext hx8
    refine s_alloc (cs := [.int .i64 0]) Try.zeroValue3 rfl ?_
    intro b9 w10 hb9 he9 hs9 hx9
    have ne_b9_b2 : b9 ≠ b2 := by have h_ := hb2.lt; omega
    have ne_b9_b3 : b9 ≠ b3 := by have h_ := hb3.lt; omega
    have ne_b9_b4 : b9 ≠ b4 := by have h_ := hb4.lt; omega
    have ne_b9_b5 : b9 ≠ b5 := by have h_ := hb5.lt; omega
    have ne_b9_b6 : b9 ≠ b6 := by have h_ := hb6.lt; omega
    have ne_b9_b7 : b9 ≠ b7 := by have h_ := hb7.lt; omega
    have ne_b9_b8 : b9 ≠ b8 := by have h_ := hb8.lt; omega
    have ge_b9 : w.heap.size ≤ b9 := by have h_ := (Below.size xw_w9); omega
    have xw_w10 : Ext w w10 := Ext.tr xw_w9 hx9
    replace hb2 := hb2.ext hx9
    replace hb3 := hb3.ext hx9
    replace hb4 := hb4.ext hx9
    replace hb5 := hb5.ext hx9
    replace hb6 := hb6.ext hx9
    replace hb7 := hb7.ext hx9
    replace hb8 := hb8.ext hx9
    refine su_blkV [.int .i64 0] [.int .i64 0] rfl rfl hb5 rfl Try.sizeOf3 (Nat.le_of_ble_eq_true rfl) rfl rfl ?_
    intro w11 hn_ hm_w11 hs_w11
    have ho_ := hb5
    replace hb5 := hn_
    clear hn_
    replace hb2 := hb2.mut hm_w11 (Ne.symm ne_b5_b2)
    replace hb3 := hb3.mut hm_w11 (Ne.symm ne_b5_b3)
    replace hb4 := hb4.mut hm_w11 (Ne.symm ne_b5_b4)
    replace hb6 := hb6.mut hm_w11 ne_b6_b5
    replace hb7 := hb7.mut hm_w11 ne_b7_b5
    replace hb8 := hb8.mut hm_w11 ne_b8_b5
    replace hb9 := hb9.mut hm_w11 ne_b9_b5
    have xw_w11 : Ext w w11 := below_mut xw_w10 (Below.size xw_w10) hm_w11 ge_b5
    refine su_blkV [.int .i64 1] [.int .i64 1] rfl rfl hb6 rfl Try.sizeOf3 (Nat.le_of_ble_eq_true rfl) rfl rfl ?_
    intro w12 hn_ hm_w12 hs_w12
    have ho_ := hb6
    replace hb6 := hn_
    clear hn_
    replace hb2 := hb2.mut hm_w12 (Ne.symm ne_b6_b2)
    replace hb3 := hb3.mut hm_w12 (Ne.symm ne_b6_b3)
    replace hb4 := hb4.mut hm_w12 (Ne.symm ne_b6_b4)
    replace hb5 := hb5.mut hm_w12 (Ne.symm ne_b6_b5)
    replace hb7 := hb7.mut hm_w12 ne_b7_b6
    replace hb8 := hb8.mut hm_w12 ne_b8_b6
    replace hb9 := hb9.mut hm_w12 ne_b9_b6
    have xw_w12 : Ext w w12 := below_mut xw_w11 (Below.size xw_w11) hm_w12 ge_b6
    refine su_blkV [.bool true] [.bool true] rfl rfl hb7 rfl Try.sizeOf4 (Nat.le_of_ble_eq_true rfl) rfl rfl ?_
    intro w13 hn_ hm_w13 hs_w13
    have ho_ := hb7
    replace hb7 := hn_
    clear hn_
    replace hb2 := hb2.mut hm_w13 (Ne.symm ne_b7_b2)
    replace hb3 := hb3.mut hm_w13 (Ne.symm ne_b7_b3)
    replace hb4 := hb4.mut hm_w13 (Ne.symm ne_b7_b4)
    replace hb5 := hb5.mut hm_w13 (Ne.symm ne_b7_b5)
    replace hb6 := hb6.mut hm_w13 (Ne.symm ne_b7_b6)
    replace hb8 := hb8.mut hm_w13 ne_b8_b7
    replace hb9 := hb9.mut hm_w13 ne_b9_b7
    have xw_w13 : Ext w w13 := below_mut xw_w12 (Below.size xw_w12) hm_w13 ge_b7
    refine su_blkV [.bool true] [.bool true] rfl rfl hb8 rfl Try.sizeOf4 (Nat.le_of_ble_eq_true rfl) rfl rfl ?_
    intro w14 hn_ hm_w14 hs_w14
    have ho_ := hb8
    replace hb8 := hn_
    clear hn_
    replace hb2 := hb2.mut hm_w14 (Ne.symm ne_b8_b2)
    replace hb3 := hb3.mut hm_w14 (Ne.symm ne_b8_b3)
    replace hb4 := hb4.mut hm_w14 (Ne.symm ne_b8_b4)
    replace hb5 := hb5.mut hm_w14 (Ne.symm ne_b8_b5)
    replace hb6 := hb6.mut hm_w14 (Ne.symm ne_b8_b6)
    replace hb7 := hb7.mut hm_w14 (Ne.symm ne_b8_b7)
    replace hb9 := hb9.mut hm_w14 ne_b9_b8
    have xw_w14 : Ext w w14 := below_mut xw_w13 (Below.size xw_w13) hm_w14 ge_b8
    refine su_blkV [.int .i64 0] [.int .i64 0] rfl rfl hb9 rfl Try.sizeOf3 (Nat.le_of_ble_eq_true rfl) rfl rfl ?_
    intro w15 hn_ hm_w15 hs_w15
    have ho_ := hb9
    replace hb9 := hn_
    clear hn_
    replace hb2 := hb2.mut hm_w15 (Ne.symm ne_b9_b2)
    replace hb3 := hb3.mut hm_w15 (Ne.symm ne_b9_b3)
    replace hb4 := hb4.mut hm_w15 (Ne.symm ne_b9_b4)
    replace hb5 := hb5.mut hm_w15 (Ne.symm ne_b9_b5)
    replace hb6 := hb6.mut hm_w15 (Ne.symm ne_b9_b6)
    replace hb7 := hb7.mut hm_w15 (Ne.symm ne_b9_b7)
    replace hb8 := hb8.mut hm_w15 (Ne.symm ne_b9_b8)
    have xw_w15 : Ext w w15 := below_mut xw_w14 (Below.size xw_w14) hm_w15 ge_b9
    refine sl_nil (nrm_k ?_)
    refine sc_seq ?_
    refine sc_seq ?_
    refine sc_reg ?_
    refine Go.XK.s (v := .string (B s)) (e_move rfl) ?_
    refine sl_call ent33 rfl rfl (entries_c s w15) (by decide) ?_
    rintro _ w16 ⟨b15, rfl, hb15, hg15, hw16⟩
    have hlt15 : b15 < w16.heap.size := hb15.lt
    have ne_b15_b2 : b15 ≠ b2 := by have h_ := hb2.lt; omega
    have ne_b15_b3 : b15 ≠ b3 := by have h_ := hb3.lt; omega
    have ne_b15_b4 : b15 ≠ b4 := by have h_ := hb4.lt; omega
    have ne_b15_b5 : b15 ≠ b5 := by have h_ := hb5.lt; omega
    have ne_b15_b6 : b15 ≠ b6 := by have h_ := hb6.lt; omega
    have ne_b15_b7 : b15 ≠ b7 := by have h_ := hb7.lt; omega
    have ne_b15_b8 : b15 ≠ b8 := by have h_ := hb8.lt; omega
    have ne_b15_b9 : b15 ≠ b9 := by have h_ := hb9.lt; omega
    have xw_w16 : Ext w w16 := Ext.tr xw_w15 hw16
    replace hb2 := hb2.ext hw16
    replace hb3 := hb3.ext hw16
    replace hb4 := hb4.ext hw16
    replace hb5 := hb5.ext hw16
    replace hb6 := hb6.ext hw16
    replace hb7 := hb7.ext hw16
    replace hb8 := hb8.ext hw16
    replace hb9 := hb9.ext hw16
    refine sl_nil (nrm_k ?_)
    refine sc_block ?_
    refine sc_rangeF (α := Ent32) (lb := [.pointer (some ⟨b15, 0, none⟩)]) (ps := [16]) (fun x => [.string (B x.1)]) (KpB b15) (fun xs => raw xs = E s 0) (fun pre => ∃ rest, raw pre ++ rest = E s 0) 64 (DI w s b2 b3 b4 b5 b6 b7 b8 b9 b15) (DX w b2 b3) (fun x => [(10, .string (B x.1)), (2, .pointer (some ⟨b2, 0, none⟩)), (3, .pointer (some ⟨b3, 0, none⟩)), (4, .pointer (some ⟨b4, 0, none⟩)), (5, .pointer (some ⟨b5, 0, none⟩)), (6, .pointer (some ⟨b6, 0, none⟩)), (7, .pointer (some ⟨b7, 0, none⟩)), (8, .pointer (some ⟨b8, 0, none⟩)), (9, .pointer (some ⟨b9, 0, none⟩))]) rfl ent49 (iter_c s b15 w16 hs hb15) (fun _ => rfl) (by decide) KpB.tr (KpB.put (B := w16.heap.size)) KpB.rfl' (DI.own (Below.size xw_w16)) (DX.own (Below.size xw_w16)) ?_ ?_ ?_ ?_ ?_
    · exact ⟨init, .slice none 0 0, fun rest => rfl, by decide, by decide, by decide, xw_w16, Go.XK.Own.nil _ _ _ _ _, hb2, hb3, hb4, hb5, hb6, hb7, hb8, hb9, hb15⟩
    · intro id x W
      refine sc_reg ?_
      refine Go.XK.s (v := .string (B x.1)) (e_assign rfl) ?_
      exact sl_nil (fun a_ ha_ => ⟨rfl, ha_.sub (.cons rfl (.cons rfl (.cons rfl (.cons rfl (.cons rfl (.cons rfl (.cons rfl (.cons rfl (.cons rfl (.nil))))))))))⟩)
    · intro id pre x W ⟨t, v, hrun, hol, hlf, hhd, xw_W, ho, hb2, hb3, hb4, hb5, hb6, hb7, hb8, hb9, hb15⟩ hlt
      have hq0 := hb15
      have hx32 := x.2
      refine sc_block ?_
      refine sc_seq ?_
      refine sc_block ?_
      refine sc_seq ?_
      refine sc_reg ?_
      refine Go.XK.s (v := .bool t.first) (e_load rfl (load1 Try.isAgg4 (hb8.cell (j := 0) rfl))) ?_
      refine Go.XK.s (v := .bool t.first) (e_assign rfl) ?_
      refine sl_nil (nrm_k ?_)
      refine sc_if rfl (fun c46 => ?_) (fun c46 => ?_)
      ·
        refine sc_seq ?_
        refine sc_reg ?_
        refine su_blkV [.bool false] [.bool false] rfl rfl hb8 rfl Try.sizeOf4 (Nat.le_of_ble_eq_true rfl) rfl rfl ?_
        intro w17 hn_ hm_w17 hs_w17
        have ho_ := hb8
        replace hb8 := hn_
        clear hn_
        replace hb2 := hb2.mut hm_w17 (Ne.symm ne_b8_b2)
        replace hb3 := hb3.mut hm_w17 (Ne.symm ne_b8_b3)
        replace hb4 := hb4.mut hm_w17 (Ne.symm ne_b8_b4)
        replace hb5 := hb5.mut hm_w17 (Ne.symm ne_b8_b5)
        replace hb6 := hb6.mut hm_w17 (Ne.symm ne_b8_b6)
        replace hb7 := hb7.mut hm_w17 (Ne.symm ne_b8_b7)
        replace hb9 := hb9.mut hm_w17 ne_b9_b8
        replace hb15 := hb15.mut hm_w17 ne_b15_b8
        replace ho := ho.mut hm_w17 (Own.ne ho ho_ (by decide))
        have nW_w17 : NC W w17 := NC.tr (NC.rfl' W) (NC.ofMut hm_w17 ho_)
        have xw_w17 : Ext w w17 := below_mut xw_W (Below.size xw_W) hm_w17 ge_b8
        refine sl_nil (nrm_k ?_)
        refine sc_seq ?_
        refine sc_seq ?_
        refine sc_reg ?_
        refine Go.XK.s (v := .string (B x.1)) (e_move rfl) ?_
        refine Go.XK.s (v := .int .u8 ((at_ x.1 1).toNat)) (e_sat Try.underlying9 rfl rfl (by decide) (by omega)) ?_
        refine Go.XK.s (v := .int .i64 ((at_ x.1 1).toNat : Int)) (e_u8int (c := at_ x.1 1) Try.underlying5 Try.underlying3 (by decide) rfl) ?_
        refine su_blkV [.int .i64 ((at_ x.1 1).toNat : Int)] [.int .i64 ((at_ x.1 1).toNat : Int)] rfl rfl hb5 rfl Try.sizeOf3 (Nat.le_of_ble_eq_true rfl) rfl rfl ?_
        intro w18 hn_ hm_w18 hs_w18
        have ho_ := hb5
        replace hb5 := hn_
        clear hn_
        replace hb2 := hb2.mut hm_w18 (Ne.symm ne_b5_b2)
        replace hb3 := hb3.mut hm_w18 (Ne.symm ne_b5_b3)
        replace hb4 := hb4.mut hm_w18 (Ne.symm ne_b5_b4)
        replace hb6 := hb6.mut hm_w18 ne_b6_b5
        replace hb7 := hb7.mut hm_w18 ne_b7_b5
        replace hb8 := hb8.mut hm_w18 ne_b8_b5
        replace hb9 := hb9.mut hm_w18 ne_b9_b5
        replace hb15 := hb15.mut hm_w18 ne_b15_b5
        replace ho := ho.mut hm_w18 (Own.ne ho ho_ (by decide))
        have nW_w18 : NC W w18 := NC.tr nW_w17 (NC.ofMut hm_w18 ho_)
        have xw_w18 : Ext w w18 := below_mut xw_w17 (Below.size xw_w17) hm_w18 ge_b5
        refine sl_nil (nrm_k ?_)
        refine sc_seq ?_
        refine sc_reg ?_
        refine Go.XK.s (v := .string (B x.1)) (e_move rfl) ?_
        refine Go.XK.s (v := .int .u8 ((at_ x.1 0).toNat)) (e_sat Try.underlying9 rfl rfl (by decide) (by omega)) ?_
        refine Go.XK.s (v := .bool (decide ((at_ x.1 0) ≠ (1 : UInt8)))) (e_bne (a := (at_ x.1 0)) (b := 1) rfl rfl) ?_
        refine Go.XK.s (v := .bool (decide ((at_ x.1 0) ≠ (1 : UInt8)))) (e_move rfl) ?_
        refine sl_merge 4 58 (.bool ((decide ((at_ x.1 0) ≠ (1 : UInt8))) || (decide ((x.1.take x.1.length).drop 30 ≠ [85, 170])))) ?_ ?_
        · refine sl_case (t := 54) rfl (fun g19_3 => ?_) (fun g19_3 => ?_)
          ·
            refine sl_gskip rfl rfl g19_3 (by decide) ?_
            refine sl_gskip rfl rfl g19_3 (by decide) ?_
            refine sl_gskip rfl rfl g19_3 (by decide) ?_
            refine Go.XK.s (v := .bool true) (e_pickT rfl g19_3 rfl) ?_
            exact sl_nil (fun a ha => ⟨rfl, ha.sub (.cons (by rw [g19_3]; rfl) (sub_self_cons (sub_self_cons (sub_self_cons (sub_self_cons (Sub.refl _) rfl) rfl) rfl) rfl))⟩)
          ·
            refine sl_gev (v := .string (B x.1)) rfl rfl g19_3 (e_move rfl) rfl (by decide) ?_
            refine sl_gev (v := .string (B ((x.1.take x.1.length).drop 30))) rfl rfl g19_3 (e_sslice (lo := 30) (hi := x.1.length) Try.underlying9 rfl (Bd.at_ rfl rfl) Bd.no (by omega) (by omega)) rfl (by decide) ?_
            refine sl_gev (v := .bool (decide ((x.1.take x.1.length).drop 30 ≠ [85, 170]))) rfl rfl g19_3 (e_sne rfl rfl) rfl (by decide) ?_
            refine Go.XK.s (v := .bool (decide ((x.1.take x.1.length).drop 30 ≠ [85, 170]))) (e_pickF rfl g19_3 rfl) ?_
            exact sl_nil (fun a ha => ⟨rfl, ha.sub (.cons (by rw [g19_3]; rfl) (sub_self_cons (sub_self_cons (sub_self_cons (sub_self_cons (Sub.refl _) rfl) rfl) rfl) rfl))⟩)
        refine Go.XK.s (v := .bool ((decide ((at_ x.1 0) ≠ (1 : UInt8))) || (decide ((x.1.take x.1.length).drop 30 ≠ [85, 170])))) (e_move rfl) ?_
        refine sl_mergeW 4 63 (.bool (((decide ((at_ x.1 0) ≠ (1 : UInt8))) || (decide ((x.1.take x.1.length).drop 30 ≠ [85, 170]))) || (decide (wsum 0 x.1 ≠ 0)))) (fun w_ => Ext w18 w_) ?_ (fun w19 hw19 => ?_)
        · refine sl_case (t := 59) rfl (fun g19_8 => ?_) (fun g19_8 => ?_)
          ·
            refine sl_gskip rfl rfl g19_8 (by decide) ?_
            refine sl_gskip rfl rfl g19_8 (by decide) ?_
            refine sl_gskip rfl rfl g19_8 (by decide) ?_
            refine Go.XK.s (v := .bool true) (e_pickT rfl g19_8 rfl) ?_
            exact sl_nil (fun a ha => ⟨(Ext.rfl' w18), ha.sub (.cons (by rw [g19_8]; rfl) (sub_self_cons (sub_self_cons (sub_self_cons (sub_self_cons (Sub.refl _) rfl) rfl) rfl) rfl))⟩)
          ·
            refine sl_gev (v := .string (B x.1)) rfl rfl g19_8 (e_move rfl) rfl (by decide) ?_
            refine sl_gcall rfl rfl g19_8 ent16 rfl rfl (sum_c _ w18 (by omega)) (by decide) ?_
            rintro _ w20 ⟨rfl, hw20⟩
            have xw_w20 : Ext w w20 := Ext.tr xw_w18 hw20
            have xw18_w20 : Ext w18 w20 := Ext.tr (Ext.rfl' w18) hw20
            have nW_w20 : NC W w20 := NC.tr nW_w18 (NC.ofExt hw20)
            replace hb2 := hb2.ext hw20
            replace hb3 := hb3.ext hw20
            replace hb4 := hb4.ext hw20
            replace hb5 := hb5.ext hw20
            replace hb6 := hb6.ext hw20
            replace hb7 := hb7.ext hw20
            replace hb8 := hb8.ext hw20
            replace hb9 := hb9.ext hw20
            replace hb15 := hb15.ext hw20
            replace ho := ho.ext hw20
            refine sl_gev (v := .bool (decide (wsum 0 x.1 ≠ 0))) rfl rfl g19_8 (e_ne rfl rfl) rfl (by decide) ?_
            refine Go.XK.s (v := .bool (decide (wsum 0 x.1 ≠ 0))) (e_pickF rfl g19_8 rfl) ?_
            exact sl_nil (fun a ha => ⟨xw18_w20, ha.sub (.cons (by rw [g19_8]; rfl) (sub_self_cons (sub_self_cons (sub_self_cons (sub_self_cons (Sub.refl _) rfl) rfl) rfl) rfl))⟩)
        have xw_w19 : Ext w w19 := Ext.tr xw_w18 hw19
        have nW_w19 : NC W w19 := NC.tr nW_w18 (NC.ofExt hw19)
        replace hb2 := hb2.ext hw19
        replace hb3 := hb3.ext hw19
        replace hb4 := hb4.ext hw19
        replace hb5 := hb5.ext hw19
        replace hb6 := hb6.ext hw19
        replace hb7 := hb7.ext hw19
        replace hb8 := hb8.ext hw19
        replace hb9 := hb9.ext hw19
        replace hb15 := hb15.ext hw19
        replace ho := ho.ext hw19
        refine sl_nil (nrm_k ?_)
        refine sc_if rfl (fun c63 => ?_) (fun c63 => ?_)
        ·
          have hk := (keyX hx32).1 c63
          refine sc_seq ?_
          refine sc_reg ?_
          refine su_blkV [.slice none 0 0] [.slice none 0 0] rfl rfl hb2 rfl Try.sizeOf22 (Nat.le_of_ble_eq_true rfl) rfl rfl ?_
          intro w21 hn_ hm_w21 hs_w21
          have ho_ := hb2
          replace hb2 := hn_
          clear hn_
          replace hb3 := hb3.mut hm_w21 ne_b3_b2
          replace hb4 := hb4.mut hm_w21 ne_b4_b2
          replace hb5 := hb5.mut hm_w21 ne_b5_b2
          replace hb6 := hb6.mut hm_w21 ne_b6_b2
          replace hb7 := hb7.mut hm_w21 ne_b7_b2
          replace hb8 := hb8.mut hm_w21 ne_b8_b2
          replace hb9 := hb9.mut hm_w21 ne_b9_b2
          replace hb15 := hb15.mut hm_w21 ne_b15_b2
          replace ho := ho.mut hm_w21 (Own.ne ho ho_ (by decide))
          have nW_w21 : NC W w21 := NC.tr nW_w19 (NC.ofMut hm_w21 ho_)
          have xw_w21 : Ext w w21 := below_mut xw_w19 (Below.size xw_w19) hm_w21 ge_b2
          refine su_blkV [.int .i64 10] [.int .i64 10] rfl rfl hb3 rfl Try.sizeOf24 (Nat.le_of_ble_eq_true rfl) rfl rfl ?_
          intro w22 hn_ hm_w22 hs_w22
          have ho_ := hb3
          replace hb3 := hn_
          clear hn_
          replace hb2 := hb2.mut hm_w22 (Ne.symm ne_b3_b2)
          replace hb4 := hb4.mut hm_w22 ne_b4_b3
          replace hb5 := hb5.mut hm_w22 ne_b5_b3
          replace hb6 := hb6.mut hm_w22 ne_b6_b3
          replace hb7 := hb7.mut hm_w22 ne_b7_b3
          replace hb8 := hb8.mut hm_w22 ne_b8_b3
          replace hb9 := hb9.mut hm_w22 ne_b9_b3
          replace hb15 := hb15.mut hm_w22 ne_b15_b3
          replace ho := ho.mut hm_w22 (Own.ne ho ho_ (by decide))
          have nW_w22 : NC W w22 := NC.tr nW_w21 (NC.ofMut hm_w22 ho_)
          have xw_w22 : Ext w w22 := below_mut xw_w21 (Below.size xw_w21) hm_w22 ge_b3
          refine sl_nil (nrm_k ?_)
          refine sc_ret (fun a_ ha_ => ?_)
          exact ⟨NC.keeps nW_w22 _, _, _, _, round_inr hrun (by rw [stepR, if_pos c46, if_pos hk]), xw_w22, Go.XK.Own.nil _ _ _ _ _, hb2, hb3⟩
        ·
          have hk : ¬ (at_ x.1 0 ≠ 1 ∨ x.1.drop 30 ≠ [85, 170] ∨ wsum 0 x.1 ≠ 0) := fun h_ => by rw [(keyX hx32).2 h_] at c63; cases c63
          refine sc_skip (nrm_k ?_)
          refine sc_seq ?_
          refine sc_reg ?_
          refine Go.XK.s (v := .int .i64 ((at_ x.1 1).toNat : Int)) (e_load rfl (load1 Try.isAgg3 (hb5.cell (j := 0) rfl))) ?_
          refine sl_call ent34 rfl rfl (plat_c _ w19) (by decide) ?_
          rintro _ w23 ⟨rfl, hw23⟩
          have xw_w23 : Ext w w23 := Ext.tr xw_w19 hw23
          have nW_w23 : NC W w23 := NC.tr nW_w19 (NC.ofExt hw23)
          replace hb2 := hb2.ext hw23
          replace hb3 := hb3.ext hw23
          replace hb4 := hb4.ext hw23
          replace hb5 := hb5.ext hw23
          replace hb6 := hb6.ext hw23
          replace hb7 := hb7.ext hw23
          replace hb8 := hb8.ext hw23
          replace hb9 := hb9.ext hw23
          replace hb15 := hb15.ext hw23
          replace ho := ho.ext hw23
          refine Go.XK.s (v := .bool (!(plat ((at_ x.1 1).toNat : Int)))) (e_not rfl) ?_
          refine sl_nil (nrm_k ?_)
          refine sc_if rfl (fun c66 => ?_) (fun c66 => ?_)
          ·
            have hpl : plat (at_ x.1 1).toNat = false := by simpa using c66
            refine sc_seq ?_
            refine sc_reg ?_
            refine su_blkV [.slice none 0 0] [.slice none 0 0] rfl rfl hb2 rfl Try.sizeOf22 (Nat.le_of_ble_eq_true rfl) rfl rfl ?_
            intro w24 hn_ hm_w24 hs_w24
            have ho_ := hb2
            replace hb2 := hn_
            clear hn_
            replace hb3 := hb3.mut hm_w24 ne_b3_b2
            replace hb4 := hb4.mut hm_w24 ne_b4_b2
            replace hb5 := hb5.mut hm_w24 ne_b5_b2
            replace hb6 := hb6.mut hm_w24 ne_b6_b2
            replace hb7 := hb7.mut hm_w24 ne_b7_b2
            replace hb8 := hb8.mut hm_w24 ne_b8_b2
            replace hb9 := hb9.mut hm_w24 ne_b9_b2
            replace hb15 := hb15.mut hm_w24 ne_b15_b2
            replace ho := ho.mut hm_w24 (Own.ne ho ho_ (by decide))
            have nW_w24 : NC W w24 := NC.tr nW_w23 (NC.ofMut hm_w24 ho_)
            have xw_w24 : Ext w w24 := below_mut xw_w23 (Below.size xw_w23) hm_w24 ge_b2
            refine su_blkV [.int .i64 14] [.int .i64 14] rfl rfl hb3 rfl Try.sizeOf24 (Nat.le_of_ble_eq_true rfl) rfl rfl ?_
            intro w25 hn_ hm_w25 hs_w25
            have ho_ := hb3
            replace hb3 := hn_
            clear hn_
            replace hb2 := hb2.mut hm_w25 (Ne.symm ne_b3_b2)
            replace hb4 := hb4.mut hm_w25 ne_b4_b3
            replace hb5 := hb5.mut hm_w25 ne_b5_b3
            replace hb6 := hb6.mut hm_w25 ne_b6_b3
            replace hb7 := hb7.mut hm_w25 ne_b7_b3
            replace hb8 := hb8.mut hm_w25 ne_b8_b3
            replace hb9 := hb9.mut hm_w25 ne_b9_b3
            replace hb15 := hb15.mut hm_w25 ne_b15_b3
            replace ho := ho.mut hm_w25 (Own.ne ho ho_ (by decide))
            have nW_w25 : NC W w25 := NC.tr nW_w24 (NC.ofMut hm_w25 ho_)
            have xw_w25 : Ext w w25 := below_mut xw_w24 (Below.size xw_w24) hm_w25 ge_b3
            refine sl_nil (nrm_k ?_)
            refine sc_ret (fun a_ ha_ => ?_)
            exact ⟨NC.keeps nW_w25 _, _, _, _, round_inr hrun (by rw [stepR, if_pos c46, if_neg hk, if_pos hpl]), xw_w25, Go.XK.Own.nil _ _ _ _ _, hb2, hb3⟩
          ·
            have hpl : plat (at_ x.1 1).toNat = true := by simpa using c66
            refine sc_skip (nrm_k ?_)
            refine sc_seq ?_
            refine sc_reg ?_
            refine Go.XK.s (v := .int .i64 t.left) (e_load rfl (load1 Try.isAgg3 (hb6.cell (j := 0) rfl))) ?_
            refine Go.XK.s (v := .bool (decide (t.left = 0))) (e_eq rfl rfl) ?_
            refine Go.XK.s (v := .bool (decide (t.left = 0))) (e_move rfl) ?_
            refine sl_merge 3 105 (.bool ((decide (t.left = 0)) && (!t.more))) ?_ ?_
            · refine sl_case (t := 102) rfl (fun g30_2 => ?_) (fun g30_2 => ?_)
              ·
                refine sl_gev (v := .bool t.more) rfl rfl g30_2 (e_load rfl (load1 Try.isAgg4 (hb7.cell (j := 0) rfl))) rfl (by decide) ?_
                refine sl_gev (v := .bool (!t.more)) rfl rfl g30_2 (e_not rfl) rfl (by decide) ?_
                refine Go.XK.s (v := .bool (!t.more)) (e_pickT rfl g30_2 rfl) ?_
                exact sl_nil (fun a ha => ⟨rfl, ha.sub (.cons (by rw [g30_2]; rfl) (sub_self_cons (sub_self_cons (sub_self_cons (Sub.refl _) rfl) rfl) rfl))⟩)
              ·
                refine sl_gskip rfl rfl g30_2 (by decide) ?_
                refine sl_gskip rfl rfl g30_2 (by decide) ?_
                refine Go.XK.s (v := .bool false) (e_pickF rfl g30_2 rfl) ?_
                exact sl_nil (fun a ha => ⟨rfl, ha.sub (.cons (by rw [g30_2]; rfl) (sub_self_cons (sub_self_cons (sub_self_cons (Sub.refl _) rfl) rfl) rfl))⟩)
            refine sl_nil (nrm_k ?_)
            refine sc_if rfl (fun c105 => ?_) (fun c105 => ?_)
            ·
              have hst := by first | exact st105 c105 | exact st105b c105
              refine sc_seq ?_
              refine sc_reg ?_
              refine Go.XK.s (v := v) (e_load rfl (load1 Try.isAgg22 (hb4.cell (j := 0) rfl))) ?_
              refine su_blkV [v] [v] rfl rfl hb2 (own_cells ho).1 Try.sizeOf22 (Nat.le_of_ble_eq_true rfl) (own_cells ho).2 rfl ?_
              intro w26 hn_ hm_w26 hs_w26
              have ho_ := hb2
              replace hb2 := hn_
              clear hn_
              replace hb3 := hb3.mut hm_w26 ne_b3_b2
              replace hb4 := hb4.mut hm_w26 ne_b4_b2
              replace hb5 := hb5.mut hm_w26 ne_b5_b2
              replace hb6 := hb6.mut hm_w26 ne_b6_b2
              replace hb7 := hb7.mut hm_w26 ne_b7_b2
              replace hb8 := hb8.mut hm_w26 ne_b8_b2
              replace hb9 := hb9.mut hm_w26 ne_b9_b2
              replace hb15 := hb15.mut hm_w26 ne_b15_b2
              replace ho := ho.mut hm_w26 (Own.ne ho ho_ (by decide))
              have nW_w26 : NC W w26 := NC.tr nW_w23 (NC.ofMut hm_w26 ho_)
              have xw_w26 : Ext w w26 := below_mut xw_w23 (Below.size xw_w23) hm_w26 ge_b2
              refine su_blkV [.int .i64 0] [.int .i64 0] rfl rfl hb3 rfl Try.sizeOf24 (Nat.le_of_ble_eq_true rfl) rfl rfl ?_
              intro w27 hn_ hm_w27 hs_w27
              have ho_ := hb3
              replace hb3 := hn_
              clear hn_
              replace hb2 := hb2.mut hm_w27 (Ne.symm ne_b3_b2)
              replace hb4 := hb4.mut hm_w27 ne_b4_b3
              replace hb5 := hb5.mut hm_w27 ne_b5_b3
              replace hb6 := hb6.mut hm_w27 ne_b6_b3
              replace hb7 := hb7.mut hm_w27 ne_b7_b3
              replace hb8 := hb8.mut hm_w27 ne_b8_b3
              replace hb9 := hb9.mut hm_w27 ne_b9_b3
              replace hb15 := hb15.mut hm_w27 ne_b15_b3
              replace ho := ho.mut hm_w27 (Own.ne ho ho_ (by decide))
              have nW_w27 : NC W w27 := NC.tr nW_w26 (NC.ofMut hm_w27 ho_)
              have xw_w27 : Ext w w27 := below_mut xw_w26 (Below.size xw_w26) hm_w27 ge_b3
              refine sl_nil (nrm_k ?_)
              refine sc_ret (fun a_ ha_ => ?_)
              exact ⟨NC.keeps nW_w27 _, _, _, _, fun rest => by rw [round_inl hrun (t' := { t with first := false, p := ((at_ x.1 1).toNat : Int) }) (by rw [stepR, if_pos c46, if_neg hk, if_neg (by rw [hpl]; simp)]) rest]; exact runF_stop hst.1 hst.2, xw_w27, ho, hb2, hb3⟩
            ·
              have hno := by first | exact no105 c105 | exact no105b c105
              have hhd2 : 0 ≤ t.hd ∧ t.hd ≤ ((pre ++ [x]).length : Int) := by simp; omega
              refine sc_skip ?_
              exact fun a_ ha_ => ⟨NC.keeps nW_w23 _, KpB.of hq0 hb15, { t with first := false, p := ((at_ x.1 1).toNat : Int) }, v, fun rest => by
                rw [round_inl hrun (t' := { t with first := false, p := ((at_ x.1 1).toNat : Int) }) (by rw [stepR, if_pos c46, if_neg hk, if_neg (by rw [hpl]; simp)]) rest]; exact runF_go hno, by simp; omega, by first | exact hlf | (dsimp only; omega), by first | exact hhd2 | (simp; omega), xw_w23, ho, hb2, hb3, hb4, hb5, hb6, hb7, hb8, hb9, hb15⟩
      ·
        refine sc_seq ?_
        refine sc_reg ?_
        refine Go.XK.s (v := .int .i64 t.left) (e_load rfl (load1 Try.isAgg3 (hb6.cell (j := 0) rfl))) ?_
        refine Go.XK.s (v := .bool (decide ((0 : Int) < t.left))) (e_gt rfl rfl) ?_
        refine Go.XK.s (v := .bool (decide ((0 : Int) < t.left))) (e_assign rfl) ?_
        refine sl_nil (nrm_k ?_)
        refine sc_ifd rfl (fun c67 => ?_) (fun c67 => ?_)
        ·
          refine sc_seq ?_
          refine sc_reg ?_
          refine Go.XK.s (v := .int .i64 t.left) (e_load rfl (load1 Try.isAgg3 (hb6.cell (j := 0) rfl))) ?_
          refine Go.XK.s (v := .int .i64 (t.left - 1)) (e_sub rfl rfl (by omega)) ?_
          refine su_blkV [.int .i64 (t.left - 1)] [.int .i64 (t.left - 1)] rfl rfl hb6 rfl Try.sizeOf3 (Nat.le_of_ble_eq_true rfl) rfl rfl ?_
          intro w28 hn_ hm_w28 hs_w28
          have ho_ := hb6
          replace hb6 := hn_
          clear hn_
          replace hb2 := hb2.mut hm_w28 (Ne.symm ne_b6_b2)
          replace hb3 := hb3.mut hm_w28 (Ne.symm ne_b6_b3)
          replace hb4 := hb4.mut hm_w28 (Ne.symm ne_b6_b4)
          replace hb5 := hb5.mut hm_w28 (Ne.symm ne_b6_b5)
          replace hb7 := hb7.mut hm_w28 ne_b7_b6
          replace hb8 := hb8.mut hm_w28 ne_b8_b6
          replace hb9 := hb9.mut hm_w28 ne_b9_b6
          replace hb15 := hb15.mut hm_w28 ne_b15_b6
          replace ho := ho.mut hm_w28 (Own.ne ho ho_ (by decide))
          have nW_w28 : NC W w28 := NC.tr (NC.rfl' W) (NC.ofMut hm_w28 ho_)
          have xw_w28 : Ext w w28 := below_mut xw_W (Below.size xw_W) hm_w28 ge_b6
          refine sl_nil (nrm_k ?_)
          refine sc_seq ?_
          refine sc_seq ?_
          refine sc_reg ?_
          refine Go.XK.s (v := .string (B x.1)) (e_move rfl) ?_
          refine Go.XK.s (v := .int .u8 ((at_ x.1 0).toNat)) (e_sat Try.underlying9 rfl rfl (by decide) (by omega)) ?_
          refine Go.XK.s (v := .bool (decide ((at_ x.1 0) ≠ (136 : UInt8)))) (e_bne (a := (at_ x.1 0)) (b := 136) rfl rfl) ?_
          refine Go.XK.s (v := .bool (decide ((at_ x.1 0) ≠ (136 : UInt8)))) (e_move rfl) ?_
          refine sl_merge 4 79 (.bool ((decide ((at_ x.1 0) ≠ (136 : UInt8))) && (decide ((at_ x.1 0) ≠ (0 : UInt8))))) ?_ ?_
          · refine sl_case (t := 75) rfl (fun g25_3 => ?_) (fun g25_3 => ?_)
            ·
              refine sl_gev (v := .string (B x.1)) rfl rfl g25_3 (e_move rfl) rfl (by decide) ?_
              refine sl_gev (v := .int .u8 ((at_ x.1 0).toNat)) rfl rfl g25_3 (e_sat Try.underlying9 rfl rfl (by decide) (by omega)) rfl (by decide) ?_
              refine sl_gev (v := .bool (decide ((at_ x.1 0) ≠ (0 : UInt8)))) rfl rfl g25_3 (e_bne (a := (at_ x.1 0)) (b := 0) rfl rfl) rfl (by decide) ?_
              refine Go.XK.s (v := .bool (decide ((at_ x.1 0) ≠ (0 : UInt8)))) (e_pickT rfl g25_3 rfl) ?_
              exact sl_nil (fun a ha => ⟨rfl, ha.sub (.cons (by rw [g25_3]; rfl) (sub_self_cons (sub_self_cons (sub_self_cons (sub_self_cons (Sub.refl _) rfl) rfl) rfl) rfl))⟩)
            ·
              refine sl_gskip rfl rfl g25_3 (by decide) ?_
              refine sl_gskip rfl rfl g25_3 (by decide) ?_
              refine sl_gskip rfl rfl g25_3 (by decide) ?_
              refine Go.XK.s (v := .bool false) (e_pickF rfl g25_3 rfl) ?_
              exact sl_nil (fun a ha => ⟨rfl, ha.sub (.cons (by rw [g25_3]; rfl) (sub_self_cons (sub_self_cons (sub_self_cons (sub_self_cons (Sub.refl _) rfl) rfl) rfl) rfl))⟩)
          refine sl_nil (nrm_k ?_)
          refine sc_if rfl (fun c79 => ?_) (fun c79 => ?_)
          ·
            simp only [Bool.and_eq_true, decide_eq_true_eq] at c79
            refine sc_seq ?_
            refine sc_reg ?_
            refine su_blkV [.slice none 0 0] [.slice none 0 0] rfl rfl hb2 rfl Try.sizeOf22 (Nat.le_of_ble_eq_true rfl) rfl rfl ?_
            intro w29 hn_ hm_w29 hs_w29
            have ho_ := hb2
            replace hb2 := hn_
            clear hn_
            replace hb3 := hb3.mut hm_w29 ne_b3_b2
            replace hb4 := hb4.mut hm_w29 ne_b4_b2
            replace hb5 := hb5.mut hm_w29 ne_b5_b2
            replace hb6 := hb6.mut hm_w29 ne_b6_b2
            replace hb7 := hb7.mut hm_w29 ne_b7_b2
            replace hb8 := hb8.mut hm_w29 ne_b8_b2
            replace hb9 := hb9.mut hm_w29 ne_b9_b2
            replace hb15 := hb15.mut hm_w29 ne_b15_b2
            replace ho := ho.mut hm_w29 (Own.ne ho ho_ (by decide))
            have nW_w29 : NC W w29 := NC.tr nW_w28 (NC.ofMut hm_w29 ho_)
            have xw_w29 : Ext w w29 := below_mut xw_w28 (Below.size xw_w28) hm_w29 ge_b2
            refine su_blkV [.int .i64 10] [.int .i64 10] rfl rfl hb3 rfl Try.sizeOf24 (Nat.le_of_ble_eq_true rfl) rfl rfl ?_
            intro w30 hn_ hm_w30 hs_w30
            have ho_ := hb3
            replace hb3 := hn_
            clear hn_
            replace hb2 := hb2.mut hm_w30 (Ne.symm ne_b3_b2)
            replace hb4 := hb4.mut hm_w30 ne_b4_b3
            replace hb5 := hb5.mut hm_w30 ne_b5_b3
            replace hb6 := hb6.mut hm_w30 ne_b6_b3
            replace hb7 := hb7.mut hm_w30 ne_b7_b3
            replace hb8 := hb8.mut hm_w30 ne_b8_b3
            replace hb9 := hb9.mut hm_w30 ne_b9_b3
            replace hb15 := hb15.mut hm_w30 ne_b15_b3
            replace ho := ho.mut hm_w30 (Own.ne ho ho_ (by decide))
            have nW_w30 : NC W w30 := NC.tr nW_w29 (NC.ofMut hm_w30 ho_)
            have xw_w30 : Ext w w30 := below_mut xw_w29 (Below.size xw_w29) hm_w30 ge_b3
            refine sl_nil (nrm_k ?_)
            refine sc_ret (fun a_ ha_ => ?_)
            exact ⟨NC.keeps nW_w30 _, _, _, _, round_inr hrun (by simp [stepR, c46, c67, readR, c79.1, c79.2]), xw_w30, Go.XK.Own.nil _ _ _ _ _, hb2, hb3⟩
          ·
            have hk79 : ¬ (at_ x.1 0 ≠ 136 ∧ at_ x.1 0 ≠ 0) := fun h_ => by rw [decide_eq_true h_.1, decide_eq_true h_.2] at c79; cases c79
            refine sc_skip (nrm_k ?_)
            refine sc_seq ?_
            refine sc_seq ?_
            refine sc_reg ?_
            refine Go.XK.s (v := .string (B x.1)) (e_move rfl) ?_
            refine Go.XK.s (v := .int .u8 ((at_ x.1 1).toNat)) (e_sat Try.underlying9 rfl rfl (by decide) (by omega)) ?_
            refine Go.XK.s (v := .bool (decide ((4 : UInt8) < (at_ x.1 1)))) (e_bgt (a := (at_ x.1 1)) (b := 4) rfl rfl) ?_
            refine sl_nil (nrm_k ?_)
            refine sc_ifd rfl (fun c82 => ?_) (fun c82 => ?_)
            ·
              refine sc_seq ?_
              refine sc_reg ?_
              refine su_blkV [.slice none 0 0] [.slice none 0 0] rfl rfl hb2 rfl Try.sizeOf22 (Nat.le_of_ble_eq_true rfl) rfl rfl ?_
              intro w31 hn_ hm_w31 hs_w31
              have ho_ := hb2
              replace hb2 := hn_
              clear hn_
              replace hb3 := hb3.mut hm_w31 ne_b3_b2
              replace hb4 := hb4.mut hm_w31 ne_b4_b2
              replace hb5 := hb5.mut hm_w31 ne_b5_b2
              replace hb6 := hb6.mut hm_w31 ne_b6_b2
              replace hb7 := hb7.mut hm_w31 ne_b7_b2
              replace hb8 := hb8.mut hm_w31 ne_b8_b2
              replace hb9 := hb9.mut hm_w31 ne_b9_b2
              replace hb15 := hb15.mut hm_w31 ne_b15_b2
              replace ho := ho.mut hm_w31 (Own.ne ho ho_ (by decide))
              have nW_w31 : NC W w31 := NC.tr nW_w28 (NC.ofMut hm_w31 ho_)
              have xw_w31 : Ext w w31 := below_mut xw_w28 (Below.size xw_w28) hm_w31 ge_b2
              refine su_blkV [.int .i64 14] [.int .i64 14] rfl rfl hb3 rfl Try.sizeOf24 (Nat.le_of_ble_eq_true rfl) rfl rfl ?_
              intro w32 hn_ hm_w32 hs_w32
              have ho_ := hb3
              replace hb3 := hn_
              clear hn_
              replace hb2 := hb2.mut hm_w32 (Ne.symm ne_b3_b2)
              replace hb4 := hb4.mut hm_w32 ne_b4_b3
              replace hb5 := hb5.mut hm_w32 ne_b5_b3
              replace hb6 := hb6.mut hm_w32 ne_b6_b3
              replace hb7 := hb7.mut hm_w32 ne_b7_b3
              replace hb8 := hb8.mut hm_w32 ne_b8_b3
              replace hb9 := hb9.mut hm_w32 ne_b9_b3
              replace hb15 := hb15.mut hm_w32 ne_b15_b3
              replace ho := ho.mut hm_w32 (Own.ne ho ho_ (by decide))
              have nW_w32 : NC W w32 := NC.tr nW_w31 (NC.ofMut hm_w32 ho_)
              have xw_w32 : Ext w w32 := below_mut xw_w31 (Below.size xw_w31) hm_w32 ge_b3
              refine sl_nil (nrm_k ?_)
              refine sc_ret (fun a_ ha_ => ?_)
              exact ⟨NC.keeps nW_w32 _, _, _, _, round_inr hrun (by rw [stepR, if_neg (by simp [c46]), if_pos c67, readR, if_neg hk79, if_pos c82]; rfl), xw_w32, Go.XK.Own.nil _ _ _ _ _, hb2, hb3⟩
            ·
              refine sc_skip (nrm_k ?_)
              refine sc_free [(82, .bool (decide ((4 : UInt8) < (at_ x.1 1)))), (81, .int .u8 ((at_ x.1 1).toNat)), (80, .string (B x.1)), (79, .bool ((decide ((at_ x.1 0) ≠ (136 : UInt8))) && (decide ((at_ x.1 0) ≠ (0 : UInt8))))), (75, .bool (decide ((at_ x.1 0) ≠ (136 : UInt8)))), (74, .bool (decide ((at_ x.1 0) ≠ (136 : UInt8)))), (73, .int .u8 ((at_ x.1 0).toNat)), (72, .string (B x.1)), (71, .int .i64 (t.left - 1)), (70, .int .i64 t.left), (67, .bool (decide ((0 : Int) < t.left))), (69, .bool (decide ((0 : Int) < t.left))), (68, .int .i64 t.left), (46, .bool t.first), (47, .bool t.first), (10, .string (B x.1)), (2, .pointer (some ⟨b2, 0, none⟩)), (3, .pointer (some ⟨b3, 0, none⟩)), (4, .pointer (some ⟨b4, 0, none⟩)), (5, .pointer (some ⟨b5, 0, none⟩)), (6, .pointer (some ⟨b6, 0, none⟩)), (7, .pointer (some ⟨b7, 0, none⟩)), (8, .pointer (some ⟨b8, 0, none⟩)), (9, .pointer (some ⟨b9, 0, none⟩))] [83, 84, 85, 86, 87, 88, 89, 90, 91, 92, 93, 94, 95, 96, 97, 98] [(Is (v)), (Is (.int .i64 t.p)), (Is (.string (B x.1))), (Is (.int .u8 ((at_ x.1 1).toNat))), (Is (.int .i64 ((at_ x.1 1).toNat : Int))), (Is (.string (B x.1))), (Is (.int .i64 (rdle (sub x.1 2 2)))), (Is (.string (B x.1))), (Is (.int .i64 (rdle (sub x.1 6 2)))), (Is (.string (B x.1))), (Is (.int .i64 (rdle (sub x.1 8 4)))), (Is (.string (B x.1))), (Is (.int .u8 ((at_ x.1 0).toNat))), (Is (.bool (decide ((at_ x.1 0) = (136 : UInt8))))), (Is (.agg #[.int .i64 t.p, .int .i64 ((at_ x.1 1).toNat : Int), .int .i64 (rdle (sub x.1 2 2)), .int .i64 (rdle (sub x.1 6 2)), .int .i64 (rdle (sub x.1 8 4)), .bool (decide ((at_ x.1 0) = (136 : UInt8)))])), (fun VV WV => ∃ b_, VV = Value.slice (some ⟨b_, 0, none⟩) 1 1 ∧ Blk WV b_ 34 [.int .i64 t.p, .int .i64 ((at_ x.1 1).toNat : Int), .int .i64 (rdle (sub x.1 2 2)), .int .i64 (rdle (sub x.1 6 2)), .int .i64 (rdle (sub x.1 8 4)), .bool (decide ((at_ x.1 0) = (136 : UInt8)))])] [16, 17] (by kernel_rfl) (Sub.refl _) (by kernel_rfl) (by kernel_rfl) (by kernel_rfl) rfl (by kernel_rfl) (ds_ext (Stays.spec (.is _ (.is _ (.is _ (.is _ (.is _ (.is _ (.is _ (.is _ (.is _ (.is _ (.is _ (.is _ (.is _ (.is _ (.is _ (.any (fun _ _ _ ⟨b_, e_, h_⟩ hx_ => ⟨b_, e_, h_.ext hx_⟩) (.nil))))))))))))))))))) ⟨?_, ?_, ?_, ?_, ?_, ?_, ?_, ?_, ?_, ?_, ?_, ?_, ?_, ?_, ?_, ?_, trivial⟩ ?_
              · intro Q act_ wI hxI ha hp
                have xw_wI : Ext w wI := Ext.tr xw_w28 hxI
                have nW_wI : NC W wI := NC.tr nW_w28 (NC.ofExt hxI)
                replace hb2 := hb2.ext hxI
                replace hb3 := hb3.ext hxI
                replace hb4 := hb4.ext hxI
                replace hb5 := hb5.ext hxI
                replace hb6 := hb6.ext hxI
                replace hb7 := hb7.ext hxI
                replace hb8 := hb8.ext hxI
                replace hb9 := hb9.ext hxI
                replace hb15 := hb15.ext hxI
                replace ho := ho.ext hxI
                exact h_evA (v := v) ha rfl (e_load rfl (load1 Try.isAgg22 (hb4.cell (j := 0) rfl))) rfl rfl (Ext.rfl' _)
              · intro Q act_ wI hxI ha hp
                have xw_wI : Ext w wI := Ext.tr xw_w28 hxI
                have nW_wI : NC W wI := NC.tr nW_w28 (NC.ofExt hxI)
                replace hb2 := hb2.ext hxI
                replace hb3 := hb3.ext hxI
                replace hb4 := hb4.ext hxI
                replace hb5 := hb5.ext hxI
                replace hb6 := hb6.ext hxI
                replace hb7 := hb7.ext hxI
                replace hb8 := hb8.ext hxI
                replace hb9 := hb9.ext hxI
                replace hb15 := hb15.ext hxI
                replace ho := ho.ext hxI
                exact h_evA (v := .int .i64 t.p) ha rfl (e_load rfl (load1 Try.isAgg3 (hb5.cell (j := 0) rfl))) rfl rfl (Ext.rfl' _)
              · intro Q act_ wI hxI ha hp
                have xw_wI : Ext w wI := Ext.tr xw_w28 hxI
                have nW_wI : NC W wI := NC.tr nW_w28 (NC.ofExt hxI)
                replace hb2 := hb2.ext hxI
                replace hb3 := hb3.ext hxI
                replace hb4 := hb4.ext hxI
                replace hb5 := hb5.ext hxI
                replace hb6 := hb6.ext hxI
                replace hb7 := hb7.ext hxI
                replace hb8 := hb8.ext hxI
                replace hb9 := hb9.ext hxI
                replace hb15 := hb15.ext hxI
                replace ho := ho.ext hxI
                exact h_evA (v := .string (B x.1)) ha rfl (e_move rfl) rfl rfl (Ext.rfl' _)
              · intro Q act_ wI hxI ha hp
                have xw_wI : Ext w wI := Ext.tr xw_w28 hxI
                have nW_wI : NC W wI := NC.tr nW_w28 (NC.ofExt hxI)
                replace hb2 := hb2.ext hxI
                replace hb3 := hb3.ext hxI
                replace hb4 := hb4.ext hxI
                replace hb5 := hb5.ext hxI
                replace hb6 := hb6.ext hxI
                replace hb7 := hb7.ext hxI
                replace hb8 := hb8.ext hxI
                replace hb9 := hb9.ext hxI
                replace hb15 := hb15.ext hxI
                replace ho := ho.ext hxI
                have ha := ha.add (show act_.tmps.getD 85 undef = .string (B x.1) from hp 2 (by kernel_rfl) (by decide))
                exact h_evA (v := .int .u8 ((at_ x.1 1).toNat)) ha rfl (e_sat Try.underlying9 rfl rfl (by decide) (by omega)) rfl rfl (Ext.rfl' _)
              · intro Q act_ wI hxI ha hp
                have xw_wI : Ext w wI := Ext.tr xw_w28 hxI
                have nW_wI : NC W wI := NC.tr nW_w28 (NC.ofExt hxI)
                replace hb2 := hb2.ext hxI
                replace hb3 := hb3.ext hxI
                replace hb4 := hb4.ext hxI
                replace hb5 := hb5.ext hxI
                replace hb6 := hb6.ext hxI
                replace hb7 := hb7.ext hxI
                replace hb8 := hb8.ext hxI
                replace hb9 := hb9.ext hxI
                replace hb15 := hb15.ext hxI
                replace ho := ho.ext hxI
                have ha := ha.add (show act_.tmps.getD 86 undef = .int .u8 ((at_ x.1 1).toNat) from hp 3 (by kernel_rfl) (by decide))
                exact h_evA (v := .int .i64 ((at_ x.1 1).toNat : Int)) ha rfl (e_u8int (c := at_ x.1 1) Try.underlying5 Try.underlying3 (by decide) rfl) rfl rfl (Ext.rfl' _)
              · intro Q act_ wI hxI ha hp
                have xw_wI : Ext w wI := Ext.tr xw_w28 hxI
                have nW_wI : NC W wI := NC.tr nW_w28 (NC.ofExt hxI)
                replace hb2 := hb2.ext hxI
                replace hb3 := hb3.ext hxI
                replace hb4 := hb4.ext hxI
                replace hb5 := hb5.ext hxI
                replace hb6 := hb6.ext hxI
                replace hb7 := hb7.ext hxI
                replace hb8 := hb8.ext hxI
                replace hb9 := hb9.ext hxI
                replace hb15 := hb15.ext hxI
                replace ho := ho.ext hxI
                exact h_evA (v := .string (B x.1)) ha rfl (e_move rfl) rfl rfl (Ext.rfl' _)
              · intro Q act_ wI hxI ha hp
                have xw_wI : Ext w wI := Ext.tr xw_w28 hxI
                have nW_wI : NC W wI := NC.tr nW_w28 (NC.ofExt hxI)
                replace hb2 := hb2.ext hxI
                replace hb3 := hb3.ext hxI
                replace hb4 := hb4.ext hxI
                replace hb5 := hb5.ext hxI
                replace hb6 := hb6.ext hxI
                replace hb7 := hb7.ext hxI
                replace hb8 := hb8.ext hxI
                replace hb9 := hb9.ext hxI
                replace hb15 := hb15.ext hxI
                replace ho := ho.ext hxI
                have ha := ha.add (show act_.tmps.getD 88 undef = .string (B x.1) from hp 5 (by kernel_rfl) (by decide))
                exact h_callA ha ent35 rfl rfl rfl (cread_c x.1 2 2 wI (by omega) (by omega) (by omega) (by decide) (by decide)) rfl (by rintro _ w1 ⟨rfl, hR⟩; exact ⟨rfl, hR⟩)
              · intro Q act_ wI hxI ha hp
                have xw_wI : Ext w wI := Ext.tr xw_w28 hxI
                have nW_wI : NC W wI := NC.tr nW_w28 (NC.ofExt hxI)
                replace hb2 := hb2.ext hxI
                replace hb3 := hb3.ext hxI
                replace hb4 := hb4.ext hxI
                replace hb5 := hb5.ext hxI
                replace hb6 := hb6.ext hxI
                replace hb7 := hb7.ext hxI
                replace hb8 := hb8.ext hxI
                replace hb9 := hb9.ext hxI
                replace hb15 := hb15.ext hxI
                replace ho := ho.ext hxI
                exact h_evA (v := .string (B x.1)) ha rfl (e_move rfl) rfl rfl (Ext.rfl' _)
              · intro Q act_ wI hxI ha hp
                have xw_wI : Ext w wI := Ext.tr xw_w28 hxI
                have nW_wI : NC W wI := NC.tr nW_w28 (NC.ofExt hxI)
                replace hb2 := hb2.ext hxI
                replace hb3 := hb3.ext hxI
                replace hb4 := hb4.ext hxI
                replace hb5 := hb5.ext hxI
                replace hb6 := hb6.ext hxI
                replace hb7 := hb7.ext hxI
                replace hb8 := hb8.ext hxI
                replace hb9 := hb9.ext hxI
                replace hb15 := hb15.ext hxI
                replace ho := ho.ext hxI
                have ha := ha.add (show act_.tmps.getD 90 undef = .string (B x.1) from hp 7 (by kernel_rfl) (by decide))
                exact h_callA ha ent35 rfl rfl rfl (cread_c x.1 6 2 wI (by omega) (by omega) (by omega) (by decide) (by decide)) rfl (by rintro _ w1 ⟨rfl, hR⟩; exact ⟨rfl, hR⟩)
              · intro Q act_ wI hxI ha hp
                have xw_wI : Ext w wI := Ext.tr xw_w28 hxI
                have nW_wI : NC W wI := NC.tr nW_w28 (NC.ofExt hxI)
                replace hb2 := hb2.ext hxI
                replace hb3 := hb3.ext hxI
                replace hb4 := hb4.ext hxI
                replace hb5 := hb5.ext hxI
                replace hb6 := hb6.ext hxI
                replace hb7 := hb7.ext hxI
                replace hb8 := hb8.ext hxI
                replace hb9 := hb9.ext hxI
                replace hb15 := hb15.ext hxI
                replace ho := ho.ext hxI
                exact h_evA (v := .string (B x.1)) ha rfl (e_move rfl) rfl rfl (Ext.rfl' _)
              · intro Q act_ wI hxI ha hp
                have xw_wI : Ext w wI := Ext.tr xw_w28 hxI
                have nW_wI : NC W wI := NC.tr nW_w28 (NC.ofExt hxI)
                replace hb2 := hb2.ext hxI
                replace hb3 := hb3.ext hxI
                replace hb4 := hb4.ext hxI
                replace hb5 := hb5.ext hxI
                replace hb6 := hb6.ext hxI
                replace hb7 := hb7.ext hxI
                replace hb8 := hb8.ext hxI
                replace hb9 := hb9.ext hxI
                replace hb15 := hb15.ext hxI
                replace ho := ho.ext hxI
                have ha := ha.add (show act_.tmps.getD 92 undef = .string (B x.1) from hp 9 (by kernel_rfl) (by decide))
                exact h_callA ha ent35 rfl rfl rfl (cread_c x.1 8 4 wI (by omega) (by omega) (by omega) (by decide) (by decide)) rfl (by rintro _ w1 ⟨rfl, hR⟩; exact ⟨rfl, hR⟩)
              · intro Q act_ wI hxI ha hp
                have xw_wI : Ext w wI := Ext.tr xw_w28 hxI
                have nW_wI : NC W wI := NC.tr nW_w28 (NC.ofExt hxI)
                replace hb2 := hb2.ext hxI
                replace hb3 := hb3.ext hxI
                replace hb4 := hb4.ext hxI
                replace hb5 := hb5.ext hxI
                replace hb6 := hb6.ext hxI
                replace hb7 := hb7.ext hxI
                replace hb8 := hb8.ext hxI
                replace hb9 := hb9.ext hxI
                replace hb15 := hb15.ext hxI
                replace ho := ho.ext hxI
                exact h_evA (v := .string (B x.1)) ha rfl (e_move rfl) rfl rfl (Ext.rfl' _)
              · intro Q act_ wI hxI ha hp
                have xw_wI : Ext w wI := Ext.tr xw_w28 hxI
                have nW_wI : NC W wI := NC.tr nW_w28 (NC.ofExt hxI)
                replace hb2 := hb2.ext hxI
                replace hb3 := hb3.ext hxI
                replace hb4 := hb4.ext hxI
                replace hb5 := hb5.ext hxI
                replace hb6 := hb6.ext hxI
                replace hb7 := hb7.ext hxI
                replace hb8 := hb8.ext hxI
                replace hb9 := hb9.ext hxI
                replace hb15 := hb15.ext hxI
                replace ho := ho.ext hxI
                have ha := ha.add (show act_.tmps.getD 94 undef = .string (B x.1) from hp 11 (by kernel_rfl) (by decide))
                exact h_evA (v := .int .u8 ((at_ x.1 0).toNat)) ha rfl (e_sat Try.underlying9 rfl rfl (by decide) (by omega)) rfl rfl (Ext.rfl' _)
              · intro Q act_ wI hxI ha hp
                have xw_wI : Ext w wI := Ext.tr xw_w28 hxI
                have nW_wI : NC W wI := NC.tr nW_w28 (NC.ofExt hxI)
                replace hb2 := hb2.ext hxI
                replace hb3 := hb3.ext hxI
                replace hb4 := hb4.ext hxI
                replace hb5 := hb5.ext hxI
                replace hb6 := hb6.ext hxI
                replace hb7 := hb7.ext hxI
                replace hb8 := hb8.ext hxI
                replace hb9 := hb9.ext hxI
                replace hb15 := hb15.ext hxI
                replace ho := ho.ext hxI
                have ha := ha.add (show act_.tmps.getD 95 undef = .int .u8 ((at_ x.1 0).toNat) from hp 12 (by kernel_rfl) (by decide))
                exact h_evA (v := .bool (decide ((at_ x.1 0) = (136 : UInt8)))) ha rfl (e_beq (a := (at_ x.1 0)) (b := 136) rfl rfl) rfl rfl (Ext.rfl' _)
              · intro Q act_ wI hxI ha hp
                have xw_wI : Ext w wI := Ext.tr xw_w28 hxI
                have nW_wI : NC W wI := NC.tr nW_w28 (NC.ofExt hxI)
                replace hb2 := hb2.ext hxI
                replace hb3 := hb3.ext hxI
                replace hb4 := hb4.ext hxI
                replace hb5 := hb5.ext hxI
                replace hb6 := hb6.ext hxI
                replace hb7 := hb7.ext hxI
                replace hb8 := hb8.ext hxI
                replace hb9 := hb9.ext hxI
                replace hb15 := hb15.ext hxI
                replace ho := ho.ext hxI
                have ha := ha.add (show act_.tmps.getD 84 undef = .int .i64 t.p from hp 1 (by kernel_rfl) (by decide))
                have ha := ha.add (show act_.tmps.getD 87 undef = .int .i64 ((at_ x.1 1).toNat : Int) from hp 4 (by kernel_rfl) (by decide))
                have ha := ha.add (show act_.tmps.getD 89 undef = .int .i64 (rdle (sub x.1 2 2)) from hp 6 (by kernel_rfl) (by decide))
                have ha := ha.add (show act_.tmps.getD 91 undef = .int .i64 (rdle (sub x.1 6 2)) from hp 8 (by kernel_rfl) (by decide))
                have ha := ha.add (show act_.tmps.getD 93 undef = .int .i64 (rdle (sub x.1 8 4)) from hp 10 (by kernel_rfl) (by decide))
                have ha := ha.add (show act_.tmps.getD 96 undef = .bool (decide ((at_ x.1 0) = (136 : UInt8))) from hp 13 (by kernel_rfl) (by decide))
                exact h_evA (v := .agg #[.int .i64 t.p, .int .i64 ((at_ x.1 1).toNat : Int), .int .i64 (rdle (sub x.1 2 2)), .int .i64 (rdle (sub x.1 6 2)), .int .i64 (rdle (sub x.1 8 4)), .bool (decide ((at_ x.1 0) = (136 : UInt8)))]) ha rfl (e_build (vs := [(0, .int .i64 t.p), (1, .int .i64 ((at_ x.1 1).toNat : Int)), (2, .int .i64 (rdle (sub x.1 2 2))), (3, .int .i64 (rdle (sub x.1 6 2))), (4, .int .i64 (rdle (sub x.1 8 4))), (5, .bool (decide ((at_ x.1 0) = (136 : UInt8))))]) rfl (by kernel_rfl)) rfl rfl (Ext.rfl' _)
              · intro Q act_ wI hxI ha hp
                have xw_wI : Ext w wI := Ext.tr xw_w28 hxI
                have nW_wI : NC W wI := NC.tr nW_w28 (NC.ofExt hxI)
                replace hb2 := hb2.ext hxI
                replace hb3 := hb3.ext hxI
                replace hb4 := hb4.ext hxI
                replace hb5 := hb5.ext hxI
                replace hb6 := hb6.ext hxI
                replace hb7 := hb7.ext hxI
                replace hb8 := hb8.ext hxI
                replace hb9 := hb9.ext hxI
                replace hb15 := hb15.ext hxI
                replace ho := ho.ext hxI
                have ha := ha.add (show act_.tmps.getD 97 undef = .agg #[.int .i64 t.p, .int .i64 ((at_ x.1 1).toNat : Int), .int .i64 (rdle (sub x.1 2 2)), .int .i64 (rdle (sub x.1 6 2)), .int .i64 (rdle (sub x.1 8 4)), .bool (decide ((at_ x.1 0) = (136 : UInt8)))] from hp 14 (by kernel_rfl) (by decide))
                exact h_evA ha rfl (e_buildSlice (vs := [(0, .agg #[.int .i64 t.p, .int .i64 ((at_ x.1 1).toNat : Int), .int .i64 (rdle (sub x.1 2 2)), .int .i64 (rdle (sub x.1 6 2)), .int .i64 (rdle (sub x.1 8 4)), .bool (decide ((at_ x.1 0) = (136 : UInt8)))])]) (v := .slice (some ⟨wI.heap.size, 0, none⟩) 1 1) (w1 := wI.alloc (.cells ([.int .i64 t.p, .int .i64 ((at_ x.1 1).toNat : Int), .int .i64 (rdle (sub x.1 2 2)), .int .i64 (rdle (sub x.1 6 2)), .int .i64 (rdle (sub x.1 8 4)), .bool (decide ((at_ x.1 0) = (136 : UInt8)))] : List Value).toArray 34)) rfl (by kernel_rfl)) rfl ⟨_, rfl, Blk.new wI 34 [.int .i64 t.p, .int .i64 ((at_ x.1 1).toNat : Int), .int .i64 (rdle (sub x.1 2 2)), .int .i64 (rdle (sub x.1 6 2)), .int .i64 (rdle (sub x.1 8 4)), .bool (decide ((at_ x.1 0) = (136 : UInt8)))]⟩ (Ext.alloc _ _)
              intro vs_ w33 hx_w33 hvs act_ ha hv
              have xw_w33 : Ext w w33 := Ext.tr xw_w28 hx_w33
              have nW_w33 : NC W w33 := NC.tr nW_w28 (NC.ofExt hx_w33)
              replace hb2 := hb2.ext hx_w33
              replace hb3 := hb3.ext hx_w33
              replace hb4 := hb4.ext hx_w33
              replace hb5 := hb5.ext hx_w33
              replace hb6 := hb6.ext hx_w33
              replace hb7 := hb7.ext hx_w33
              replace hb8 := hb8.ext hx_w33
              replace hb9 := hb9.ext hx_w33
              replace hb15 := hb15.ext hx_w33
              replace ho := ho.ext hx_w33
              have ha := ha.add ((hv 0 (by decide)).trans (show vs_ 0 = v from hvs 0 (by decide)))
              obtain ⟨b98, e98, hb98⟩ := (show ∃ b_, vs_ 15 = Value.slice (some ⟨b_, 0, none⟩) 1 1 ∧ Blk w33 b_ 34 [.int .i64 t.p, .int .i64 ((at_ x.1 1).toNat : Int), .int .i64 (rdle (sub x.1 2 2)), .int .i64 (rdle (sub x.1 6 2)), .int .i64 (rdle (sub x.1 8 4)), .bool (decide ((at_ x.1 0) = (136 : UInt8)))] from hvs 15 (by decide))
              have ha := ha.add ((hv 15 (by decide)).trans e98)
              refine st_go ha ?_
              clear ha hv hvs
              refine st_appendLit (w0 := w) (z := .agg #[.int .i64 0, .int .i64 0, .int .i64 0, .int .i64 0, .int .i64 0, .bool false]) (kk := 6) (bytes := 48) rfl rfl rfl Try.underlying22 (by kernel_rfl) rfl (by decide) (fun _ => rfl) one_Img [⟨t.p, ((at_ x.1 1).toNat : Int), rdle (sub x.1 2 2), rdle (sub x.1 6 2), rdle (sub x.1 8 4), decide ((at_ x.1 0) = (136 : UInt8))⟩] ho xw_w33 hb98 rfl rfl (by first | (simp only [maxLen]; omega) | omega) (by first | (simp only [maxLen]; omega) | omega) ?_
              intro v99 w34 ho99 xw_w34 hg99
              replace hb2 := hb2.grown hg99 (Own.ne ho hb2 (by decide))
              replace hb3 := hb3.grown hg99 (Own.ne ho hb3 (by decide))
              replace hb4 := hb4.grown hg99 (Own.ne ho hb4 (by decide))
              replace hb5 := hb5.grown hg99 (Own.ne ho hb5 (by decide))
              replace hb6 := hb6.grown hg99 (Own.ne ho hb6 (by decide))
              replace hb7 := hb7.grown hg99 (Own.ne ho hb7 (by decide))
              replace hb8 := hb8.grown hg99 (Own.ne ho hb8 (by decide))
              replace hb9 := hb9.grown hg99 (Own.ne ho hb9 (by decide))
              replace hb15 := hb15.grown hg99 (Own.ne ho hb15 (by decide))
              have nW_w34 : NC W w34 := NC.tr nW_w33 (NC.ofOwn ho hg99)
              refine st_blkV [v99] [v99] rfl rfl rfl hb4 (own_cells ho99).1 Try.sizeOf22 (Nat.le_of_ble_eq_true rfl) (own_cells ho99).2 rfl ?_
              intro w35 hn_ hm_w35 hs_w35
              have ho_ := hb4
              replace hb4 := hn_
              clear hn_
              replace hb2 := hb2.mut hm_w35 (Ne.symm ne_b4_b2)
              replace hb3 := hb3.mut hm_w35 (Ne.symm ne_b4_b3)
              replace hb5 := hb5.mut hm_w35 ne_b5_b4
              replace hb6 := hb6.mut hm_w35 ne_b6_b4
              replace hb7 := hb7.mut hm_w35 ne_b7_b4
              replace hb8 := hb8.mut hm_w35 ne_b8_b4
              replace hb9 := hb9.mut hm_w35 ne_b9_b4
              replace hb15 := hb15.mut hm_w35 ne_b15_b4
              replace ho99 := ho99.mut hm_w35 (Own.ne ho99 ho_ (by decide))
              have nW_w35 : NC W w35 := NC.tr nW_w34 (NC.ofMut hm_w35 ho_)
              have xw_w35 : Ext w w35 := below_mut xw_w34 (Below.size xw_w34) hm_w35 ge_b4
              refine st_nil (nrm_k ?_)
              refine sc_seq ?_
              refine sc_reg ?_
              refine Go.XK.s (v := .int .i64 (t.left - 1)) (e_load rfl (load1 Try.isAgg3 (hb6.cell (j := 0) rfl))) ?_
              refine Go.XK.s (v := .bool (decide (t.left - 1 = 0))) (e_eq rfl rfl) ?_
              refine Go.XK.s (v := .bool (decide (t.left - 1 = 0))) (e_move rfl) ?_
              refine sl_merge 3 105 (.bool ((decide (t.left - 1 = 0)) && (!t.more))) ?_ ?_
              · refine sl_case (t := 102) rfl (fun g30_2 => ?_) (fun g30_2 => ?_)
                ·
                  refine sl_gev (v := .bool t.more) rfl rfl g30_2 (e_load rfl (load1 Try.isAgg4 (hb7.cell (j := 0) rfl))) rfl (by decide) ?_
                  refine sl_gev (v := .bool (!t.more)) rfl rfl g30_2 (e_not rfl) rfl (by decide) ?_
                  refine Go.XK.s (v := .bool (!t.more)) (e_pickT rfl g30_2 rfl) ?_
                  exact sl_nil (fun a ha => ⟨rfl, ha.sub (.cons (by rw [g30_2]; rfl) (sub_self_cons (sub_self_cons (sub_self_cons (Sub.refl _) rfl) rfl) rfl))⟩)
                ·
                  refine sl_gskip rfl rfl g30_2 (by decide) ?_
                  refine sl_gskip rfl rfl g30_2 (by decide) ?_
                  refine Go.XK.s (v := .bool false) (e_pickF rfl g30_2 rfl) ?_
                  exact sl_nil (fun a ha => ⟨rfl, ha.sub (.cons (by rw [g30_2]; rfl) (sub_self_cons (sub_self_cons (sub_self_cons (Sub.refl _) rfl) rfl) rfl))⟩)
              refine sl_nil (nrm_k ?_)
              refine sc_if rfl (fun c105 => ?_) (fun c105 => ?_)
              ·
                have hst := by first | exact st105 c105 | exact st105b c105
                refine sc_seq ?_
                refine sc_reg ?_
                refine Go.XK.s (v := v99) (e_load rfl (load1 Try.isAgg22 (hb4.cell (j := 0) rfl))) ?_
                refine su_blkV [v99] [v99] rfl rfl hb2 (own_cells ho99).1 Try.sizeOf22 (Nat.le_of_ble_eq_true rfl) (own_cells ho99).2 rfl ?_
                intro w36 hn_ hm_w36 hs_w36
                have ho_ := hb2
                replace hb2 := hn_
                clear hn_
                replace hb3 := hb3.mut hm_w36 ne_b3_b2
                replace hb4 := hb4.mut hm_w36 ne_b4_b2
                replace hb5 := hb5.mut hm_w36 ne_b5_b2
                replace hb6 := hb6.mut hm_w36 ne_b6_b2
                replace hb7 := hb7.mut hm_w36 ne_b7_b2
                replace hb8 := hb8.mut hm_w36 ne_b8_b2
                replace hb9 := hb9.mut hm_w36 ne_b9_b2
                replace hb15 := hb15.mut hm_w36 ne_b15_b2
                replace ho99 := ho99.mut hm_w36 (Own.ne ho99 ho_ (by decide))
                have nW_w36 : NC W w36 := NC.tr nW_w35 (NC.ofMut hm_w36 ho_)
                have xw_w36 : Ext w w36 := below_mut xw_w35 (Below.size xw_w35) hm_w36 ge_b2
                refine su_blkV [.int .i64 0] [.int .i64 0] rfl rfl hb3 rfl Try.sizeOf24 (Nat.le_of_ble_eq_true rfl) rfl rfl ?_
                intro w37 hn_ hm_w37 hs_w37
                have ho_ := hb3
                replace hb3 := hn_
                clear hn_
                replace hb2 := hb2.mut hm_w37 (Ne.symm ne_b3_b2)
                replace hb4 := hb4.mut hm_w37 ne_b4_b3
                replace hb5 := hb5.mut hm_w37 ne_b5_b3
                replace hb6 := hb6.mut hm_w37 ne_b6_b3
                replace hb7 := hb7.mut hm_w37 ne_b7_b3
                replace hb8 := hb8.mut hm_w37 ne_b8_b3
                replace hb9 := hb9.mut hm_w37 ne_b9_b3
                replace hb15 := hb15.mut hm_w37 ne_b15_b3
                replace ho99 := ho99.mut hm_w37 (Own.ne ho99 ho_ (by decide))
                have nW_w37 : NC W w37 := NC.tr nW_w36 (NC.ofMut hm_w37 ho_)
                have xw_w37 : Ext w w37 := below_mut xw_w36 (Below.size xw_w36) hm_w37 ge_b3
                refine sl_nil (nrm_k ?_)
                refine sc_ret (fun a_ ha_ => ?_)
                exact ⟨NC.keeps nW_w37 _, _, _, _, fun rest => by rw [round_inl hrun (t' := { t with left := t.left - 1, out := t.out ++ [⟨t.p, (at_ x.1 1).toNat, rdle (sub x.1 2 2), rdle (sub x.1 6 2), rdle (sub x.1 8 4), decide (at_ x.1 0 = 136)⟩] }) (by rw [stepR, if_neg (by simp [c46]), if_pos c67, readR, if_neg hk79, if_neg c82]; rfl) rest]; exact runF_stop hst.1 hst.2, xw_w37, ho99, hb2, hb3⟩
              ·
                have hno := by first | exact no105 c105 | exact no105b c105
                have hhd2 : 0 ≤ t.hd ∧ t.hd ≤ ((pre ++ [x]).length : Int) := by simp; omega
                refine sc_skip ?_
                exact fun a_ ha_ => ⟨NC.keeps nW_w35 _, KpB.of hq0 hb15, { t with left := t.left - 1, out := t.out ++ [⟨t.p, (at_ x.1 1).toNat, rdle (sub x.1 2 2), rdle (sub x.1 6 2), rdle (sub x.1 8 4), decide (at_ x.1 0 = 136)⟩] }, v99, fun rest => by
                  rw [round_inl hrun (t' := { t with left := t.left - 1, out := t.out ++ [⟨t.p, (at_ x.1 1).toNat, rdle (sub x.1 2 2), rdle (sub x.1 6 2), rdle (sub x.1 8 4), decide (at_ x.1 0 = 136)⟩] }) (by rw [stepR, if_neg (by simp [c46]), if_pos c67, readR, if_neg hk79, if_neg c82]; rfl) rest]; exact runF_go hno, by simp; omega, by first | exact hlf | (dsimp only; omega), by first | exact hhd2 | (simp; omega), xw_w35, ho99, hb2, hb3, hb4, hb5, hb6, hb7, hb8, hb9, hb15⟩
        ·
          refine sc_seq ?_
          refine sc_seq ?_
          refine sc_reg ?_
          refine Go.XK.s (v := .string (B x.1)) (e_move rfl) ?_
          refine Go.XK.s (v := .int .u8 ((at_ x.1 0).toNat)) (e_sat Try.underlying9 rfl rfl (by decide) (by omega)) ?_
          refine Go.XK.s (v := .bool (decide ((at_ x.1 0) = (0 : UInt8)))) (e_beq (a := (at_ x.1 0)) (b := 0) rfl rfl) ?_
          refine Go.XK.s (v := .bool (decide ((at_ x.1 0) = (0 : UInt8)))) (e_move rfl) ?_
          refine sl_merge 3 23 (.bool ((decide ((at_ x.1 0) = (0 : UInt8))) && (decide (t.hd = 0)))) ?_ ?_
          · refine sl_case (t := 20) rfl (fun g7_3 => ?_) (fun g7_3 => ?_)
            ·
              refine sl_gev (v := .int .i64 t.hd) rfl rfl g7_3 (e_load rfl (load1 Try.isAgg3 (hb9.cell (j := 0) rfl))) rfl (by decide) ?_
              refine sl_gev (v := .bool (decide (t.hd = 0))) rfl rfl g7_3 (e_eq rfl rfl) rfl (by decide) ?_
              refine Go.XK.s (v := .bool (decide (t.hd = 0))) (e_pickT rfl g7_3 rfl) ?_
              exact sl_nil (fun a ha => ⟨rfl, ha.sub (.cons (by rw [g7_3]; rfl) (sub_self_cons (sub_self_cons (sub_self_cons (Sub.refl _) rfl) rfl) rfl))⟩)
            ·
              refine sl_gskip rfl rfl g7_3 (by decide) ?_
              refine sl_gskip rfl rfl g7_3 (by decide) ?_
              refine Go.XK.s (v := .bool false) (e_pickF rfl g7_3 rfl) ?_
              exact sl_nil (fun a ha => ⟨rfl, ha.sub (.cons (by rw [g7_3]; rfl) (sub_self_cons (sub_self_cons (sub_self_cons (Sub.refl _) rfl) rfl) rfl))⟩)
          refine sl_nil (nrm_k ?_)
          refine sc_if rfl (fun c23 => ?_) (fun c23 => ?_)
          ·
            simp only [Bool.and_eq_true, decide_eq_true_eq] at c23
            refine sc_seq ?_
            refine sc_reg ?_
            refine Go.XK.s (v := v) (e_load rfl (load1 Try.isAgg22 (hb4.cell (j := 0) rfl))) ?_
            refine su_blkV [v] [v] rfl rfl hb2 (own_cells ho).1 Try.sizeOf22 (Nat.le_of_ble_eq_true rfl) (own_cells ho).2 rfl ?_
            intro w38 hn_ hm_w38 hs_w38
            have ho_ := hb2
            replace hb2 := hn_
            clear hn_
            replace hb3 := hb3.mut hm_w38 ne_b3_b2
            replace hb4 := hb4.mut hm_w38 ne_b4_b2
            replace hb5 := hb5.mut hm_w38 ne_b5_b2
            replace hb6 := hb6.mut hm_w38 ne_b6_b2
            replace hb7 := hb7.mut hm_w38 ne_b7_b2
            replace hb8 := hb8.mut hm_w38 ne_b8_b2
            replace hb9 := hb9.mut hm_w38 ne_b9_b2
            replace hb15 := hb15.mut hm_w38 ne_b15_b2
            replace ho := ho.mut hm_w38 (Own.ne ho ho_ (by decide))
            have nW_w38 : NC W w38 := NC.tr (NC.rfl' W) (NC.ofMut hm_w38 ho_)
            have xw_w38 : Ext w w38 := below_mut xw_W (Below.size xw_W) hm_w38 ge_b2
            refine su_blkV [.int .i64 0] [.int .i64 0] rfl rfl hb3 rfl Try.sizeOf24 (Nat.le_of_ble_eq_true rfl) rfl rfl ?_
            intro w39 hn_ hm_w39 hs_w39
            have ho_ := hb3
            replace hb3 := hn_
            clear hn_
            replace hb2 := hb2.mut hm_w39 (Ne.symm ne_b3_b2)
            replace hb4 := hb4.mut hm_w39 ne_b4_b3
            replace hb5 := hb5.mut hm_w39 ne_b5_b3
            replace hb6 := hb6.mut hm_w39 ne_b6_b3
            replace hb7 := hb7.mut hm_w39 ne_b7_b3
            replace hb8 := hb8.mut hm_w39 ne_b8_b3
            replace hb9 := hb9.mut hm_w39 ne_b9_b3
            replace hb15 := hb15.mut hm_w39 ne_b15_b3
            replace ho := ho.mut hm_w39 (Own.ne ho ho_ (by decide))
            have nW_w39 : NC W w39 := NC.tr nW_w38 (NC.ofMut hm_w39 ho_)
            have xw_w39 : Ext w w39 := below_mut xw_w38 (Below.size xw_w38) hm_w39 ge_b3
            refine sl_nil (nrm_k ?_)
            refine sc_ret (fun a_ ha_ => ?_)
            exact ⟨NC.keeps nW_w39 _, _, _, _, round_inr hrun (by rw [stepR, if_neg (by simp [c46]), if_neg c67, if_pos c23]), xw_w39, ho, hb2, hb3⟩
          ·
            have hk23 : ¬ (at_ x.1 0 = 0 ∧ t.hd = 0) := fun h_ => by rw [decide_eq_true h_.1, decide_eq_true h_.2] at c23; cases c23
            refine sc_skip (nrm_k ?_)
            refine sc_seq ?_
            refine sc_seq ?_
            refine sc_reg ?_
            refine Go.XK.s (v := .string (B x.1)) (e_move rfl) ?_
            refine Go.XK.s (v := .int .u8 ((at_ x.1 0).toNat)) (e_sat Try.underlying9 rfl rfl (by decide) (by omega)) ?_
            refine Go.XK.s (v := .bool (decide ((at_ x.1 0) ≠ (144 : UInt8)))) (e_bne (a := (at_ x.1 0)) (b := 144) rfl rfl) ?_
            refine Go.XK.s (v := .bool (decide ((at_ x.1 0) ≠ (144 : UInt8)))) (e_move rfl) ?_
            refine sl_merge 4 32 (.bool ((decide ((at_ x.1 0) ≠ (144 : UInt8))) && (decide ((at_ x.1 0) ≠ (145 : UInt8))))) ?_ ?_
            · refine sl_case (t := 28) rfl (fun g9_3 => ?_) (fun g9_3 => ?_)
              ·
                refine sl_gev (v := .string (B x.1)) rfl rfl g9_3 (e_move rfl) rfl (by decide) ?_
                refine sl_gev (v := .int .u8 ((at_ x.1 0).toNat)) rfl rfl g9_3 (e_sat Try.underlying9 rfl rfl (by decide) (by omega)) rfl (by decide) ?_
                refine sl_gev (v := .bool (decide ((at_ x.1 0) ≠ (145 : UInt8)))) rfl rfl g9_3 (e_bne (a := (at_ x.1 0)) (b := 145) rfl rfl) rfl (by decide) ?_
                refine Go.XK.s (v := .bool (decide ((at_ x.1 0) ≠ (145 : UInt8)))) (e_pickT rfl g9_3 rfl) ?_
                exact sl_nil (fun a ha => ⟨rfl, ha.sub (.cons (by rw [g9_3]; rfl) (sub_self_cons (sub_self_cons (sub_self_cons (sub_self_cons (Sub.refl _) rfl) rfl) rfl) rfl))⟩)
              ·
                refine sl_gskip rfl rfl g9_3 (by decide) ?_
                refine sl_gskip rfl rfl g9_3 (by decide) ?_
                refine sl_gskip rfl rfl g9_3 (by decide) ?_
                refine Go.XK.s (v := .bool false) (e_pickF rfl g9_3 rfl) ?_
                exact sl_nil (fun a ha => ⟨rfl, ha.sub (.cons (by rw [g9_3]; rfl) (sub_self_cons (sub_self_cons (sub_self_cons (sub_self_cons (Sub.refl _) rfl) rfl) rfl) rfl))⟩)
            refine sl_nil (nrm_k ?_)
            refine sc_if rfl (fun c32 => ?_) (fun c32 => ?_)
            ·
              simp only [Bool.and_eq_true, decide_eq_true_eq] at c32
              refine sc_seq ?_
              refine sc_reg ?_
              refine su_blkV [.slice none 0 0] [.slice none 0 0] rfl rfl hb2 rfl Try.sizeOf22 (Nat.le_of_ble_eq_true rfl) rfl rfl ?_
              intro w40 hn_ hm_w40 hs_w40
              have ho_ := hb2
              replace hb2 := hn_
              clear hn_
              replace hb3 := hb3.mut hm_w40 ne_b3_b2
              replace hb4 := hb4.mut hm_w40 ne_b4_b2
              replace hb5 := hb5.mut hm_w40 ne_b5_b2
              replace hb6 := hb6.mut hm_w40 ne_b6_b2
              replace hb7 := hb7.mut hm_w40 ne_b7_b2
              replace hb8 := hb8.mut hm_w40 ne_b8_b2
              replace hb9 := hb9.mut hm_w40 ne_b9_b2
              replace hb15 := hb15.mut hm_w40 ne_b15_b2
              replace ho := ho.mut hm_w40 (Own.ne ho ho_ (by decide))
              have nW_w40 : NC W w40 := NC.tr (NC.rfl' W) (NC.ofMut hm_w40 ho_)
              have xw_w40 : Ext w w40 := below_mut xw_W (Below.size xw_W) hm_w40 ge_b2
              refine su_blkV [.int .i64 10] [.int .i64 10] rfl rfl hb3 rfl Try.sizeOf24 (Nat.le_of_ble_eq_true rfl) rfl rfl ?_
              intro w41 hn_ hm_w41 hs_w41
              have ho_ := hb3
              replace hb3 := hn_
              clear hn_
              replace hb2 := hb2.mut hm_w41 (Ne.symm ne_b3_b2)
              replace hb4 := hb4.mut hm_w41 ne_b4_b3
              replace hb5 := hb5.mut hm_w41 ne_b5_b3
              replace hb6 := hb6.mut hm_w41 ne_b6_b3
              replace hb7 := hb7.mut hm_w41 ne_b7_b3
              replace hb8 := hb8.mut hm_w41 ne_b8_b3
              replace hb9 := hb9.mut hm_w41 ne_b9_b3
              replace hb15 := hb15.mut hm_w41 ne_b15_b3
              replace ho := ho.mut hm_w41 (Own.ne ho ho_ (by decide))
              have nW_w41 : NC W w41 := NC.tr nW_w40 (NC.ofMut hm_w41 ho_)
              have xw_w41 : Ext w w41 := below_mut xw_w40 (Below.size xw_w40) hm_w41 ge_b3
              refine sl_nil (nrm_k ?_)
              refine sc_ret (fun a_ ha_ => ?_)
              exact ⟨NC.keeps nW_w41 _, _, _, _, round_inr hrun (by rw [stepR, if_neg (by simp [c46]), if_neg c67, if_neg hk23, if_pos c32]), xw_w41, Go.XK.Own.nil _ _ _ _ _, hb2, hb3⟩
            ·
              have hk32 : ¬ (at_ x.1 0 ≠ 144 ∧ at_ x.1 0 ≠ 145) := fun h_ => by rw [decide_eq_true h_.1, decide_eq_true h_.2] at c32; cases c32
              refine sc_skip (nrm_k ?_)
              refine sc_seq ?_
              refine sc_seq ?_
              refine sc_reg ?_
              refine Go.XK.s (v := .string (B x.1)) (e_move rfl) ?_
              refine Go.XK.s (v := .int .u8 ((at_ x.1 1).toNat)) (e_sat Try.underlying9 rfl rfl (by decide) (by omega)) ?_
              refine Go.XK.s (v := .int .i64 ((at_ x.1 1).toNat : Int)) (e_u8int (c := at_ x.1 1) Try.underlying5 Try.underlying3 (by decide) rfl) ?_
              refine su_blkV [.int .i64 ((at_ x.1 1).toNat : Int)] [.int .i64 ((at_ x.1 1).toNat : Int)] rfl rfl hb5 rfl Try.sizeOf3 (Nat.le_of_ble_eq_true rfl) rfl rfl ?_
              intro w42 hn_ hm_w42 hs_w42
              have ho_ := hb5
              replace hb5 := hn_
              clear hn_
              replace hb2 := hb2.mut hm_w42 (Ne.symm ne_b5_b2)
              replace hb3 := hb3.mut hm_w42 (Ne.symm ne_b5_b3)
              replace hb4 := hb4.mut hm_w42 (Ne.symm ne_b5_b4)
              replace hb6 := hb6.mut hm_w42 ne_b6_b5
              replace hb7 := hb7.mut hm_w42 ne_b7_b5
              replace hb8 := hb8.mut hm_w42 ne_b8_b5
              replace hb9 := hb9.mut hm_w42 ne_b9_b5
              replace hb15 := hb15.mut hm_w42 ne_b15_b5
              replace ho := ho.mut hm_w42 (Own.ne ho ho_ (by decide))
              have nW_w42 : NC W w42 := NC.tr (NC.rfl' W) (NC.ofMut hm_w42 ho_)
              have xw_w42 : Ext w w42 := below_mut xw_W (Below.size xw_W) hm_w42 ge_b5
              refine sl_nil (nrm_k ?_)
              refine sc_seq ?_
              refine sc_reg ?_
              refine Go.XK.s (v := .int .i64 ((at_ x.1 1).toNat : Int)) (e_load rfl (load1 Try.isAgg3 (hb5.cell (j := 0) rfl))) ?_
              refine sl_call ent34 rfl rfl (plat_c _ w42) (by decide) ?_
              rintro _ w43 ⟨rfl, hw43⟩
              have xw_w43 : Ext w w43 := Ext.tr xw_w42 hw43
              have nW_w43 : NC W w43 := NC.tr nW_w42 (NC.ofExt hw43)
              replace hb2 := hb2.ext hw43
              replace hb3 := hb3.ext hw43
              replace hb4 := hb4.ext hw43
              replace hb5 := hb5.ext hw43
              replace hb6 := hb6.ext hw43
              replace hb7 := hb7.ext hw43
              replace hb8 := hb8.ext hw43
              replace hb9 := hb9.ext hw43
              replace hb15 := hb15.ext hw43
              replace ho := ho.ext hw43
              refine Go.XK.s (v := .bool (!(plat ((at_ x.1 1).toNat : Int)))) (e_not rfl) ?_
              refine sl_nil (nrm_k ?_)
              refine sc_if rfl (fun c38 => ?_) (fun c38 => ?_)
              ·
                have hpl : plat (at_ x.1 1).toNat = false := by simpa using c38
                refine sc_seq ?_
                refine sc_reg ?_
                refine su_blkV [.slice none 0 0] [.slice none 0 0] rfl rfl hb2 rfl Try.sizeOf22 (Nat.le_of_ble_eq_true rfl) rfl rfl ?_
                intro w44 hn_ hm_w44 hs_w44
                have ho_ := hb2
                replace hb2 := hn_
                clear hn_
                replace hb3 := hb3.mut hm_w44 ne_b3_b2
                replace hb4 := hb4.mut hm_w44 ne_b4_b2
                replace hb5 := hb5.mut hm_w44 ne_b5_b2
                replace hb6 := hb6.mut hm_w44 ne_b6_b2
                replace hb7 := hb7.mut hm_w44 ne_b7_b2
                replace hb8 := hb8.mut hm_w44 ne_b8_b2
                replace hb9 := hb9.mut hm_w44 ne_b9_b2
                replace hb15 := hb15.mut hm_w44 ne_b15_b2
                replace ho := ho.mut hm_w44 (Own.ne ho ho_ (by decide))
                have nW_w44 : NC W w44 := NC.tr nW_w43 (NC.ofMut hm_w44 ho_)
                have xw_w44 : Ext w w44 := below_mut xw_w43 (Below.size xw_w43) hm_w44 ge_b2
                refine su_blkV [.int .i64 14] [.int .i64 14] rfl rfl hb3 rfl Try.sizeOf24 (Nat.le_of_ble_eq_true rfl) rfl rfl ?_
                intro w45 hn_ hm_w45 hs_w45
                have ho_ := hb3
                replace hb3 := hn_
                clear hn_
                replace hb2 := hb2.mut hm_w45 (Ne.symm ne_b3_b2)
                replace hb4 := hb4.mut hm_w45 ne_b4_b3
                replace hb5 := hb5.mut hm_w45 ne_b5_b3
                replace hb6 := hb6.mut hm_w45 ne_b6_b3
                replace hb7 := hb7.mut hm_w45 ne_b7_b3
                replace hb8 := hb8.mut hm_w45 ne_b8_b3
                replace hb9 := hb9.mut hm_w45 ne_b9_b3
                replace hb15 := hb15.mut hm_w45 ne_b15_b3
                replace ho := ho.mut hm_w45 (Own.ne ho ho_ (by decide))
                have nW_w45 : NC W w45 := NC.tr nW_w44 (NC.ofMut hm_w45 ho_)
                have xw_w45 : Ext w w45 := below_mut xw_w44 (Below.size xw_w44) hm_w45 ge_b3
                refine sl_nil (nrm_k ?_)
                refine sc_ret (fun a_ ha_ => ?_)
                exact ⟨NC.keeps nW_w45 _, _, _, _, round_inr hrun (by rw [stepR, if_neg (by simp [c46]), if_neg c67, if_neg hk23, if_neg hk32, if_pos hpl]), xw_w45, Go.XK.Own.nil _ _ _ _ _, hb2, hb3⟩
              ·
                have hpl : plat (at_ x.1 1).toNat = true := by simpa using c38
                have hrd := i64_rdle2 x.1 2 (by decide) (by omega)
                refine sc_skip (nrm_k ?_)
                refine sc_seq ?_
                refine sc_late [(38, .bool (!(plat ((at_ x.1 1).toNat : Int)))), (37, .bool (plat ((at_ x.1 1).toNat : Int))), (36, .int .i64 ((at_ x.1 1).toNat : Int)), (35, .int .i64 ((at_ x.1 1).toNat : Int)), (34, .int .u8 ((at_ x.1 1).toNat)), (33, .string (B x.1)), (32, .bool ((decide ((at_ x.1 0) ≠ (144 : UInt8))) && (decide ((at_ x.1 0) ≠ (145 : UInt8))))), (28, .bool (decide ((at_ x.1 0) ≠ (144 : UInt8)))), (27, .bool (decide ((at_ x.1 0) ≠ (144 : UInt8)))), (26, .int .u8 ((at_ x.1 0).toNat)), (25, .string (B x.1)), (23, .bool ((decide ((at_ x.1 0) = (0 : UInt8))) && (decide (t.hd = 0)))), (20, .bool (decide ((at_ x.1 0) = (0 : UInt8)))), (19, .bool (decide ((at_ x.1 0) = (0 : UInt8)))), (18, .int .u8 ((at_ x.1 0).toNat)), (17, .string (B x.1)), (67, .bool (decide ((0 : Int) < t.left))), (69, .bool (decide ((0 : Int) < t.left))), (68, .int .i64 t.left), (46, .bool t.first), (47, .bool t.first), (10, .string (B x.1)), (2, .pointer (some ⟨b2, 0, none⟩)), (3, .pointer (some ⟨b3, 0, none⟩)), (4, .pointer (some ⟨b4, 0, none⟩)), (5, .pointer (some ⟨b5, 0, none⟩)), (6, .pointer (some ⟨b6, 0, none⟩)), (7, .pointer (some ⟨b7, 0, none⟩)), (8, .pointer (some ⟨b8, 0, none⟩)), (9, .pointer (some ⟨b9, 0, none⟩))] [39, 40, 41, 42, 43] [(Is (.string (B x.1))), (Is (.int .i64 (rdle (sub x.1 2 2)))), (Is (.string (B x.1))), (Is (.int .u8 ((at_ x.1 0).toNat))), (Is (.bool (decide ((at_ x.1 0) = (144 : UInt8)))))] [5, 6] [0, 1] [2, 3, 4] (by kernel_rfl) (Sub.refl _) (by kernel_rfl) (by kernel_rfl) (by kernel_rfl) (by kernel_rfl) rfl (by kernel_rfl) (ds_ext (Stays.spec (.is _ (.is _ (.is _ (.is _ (.is _ (.nil)))))))) ⟨?_, ?_, trivial⟩ ⟨?_, ?_, ?_, trivial⟩ ?_
                · intro Q act_ wI hxI ha hp
                  have xw_wI : Ext w wI := Ext.tr xw_w43 hxI
                  have nW_wI : NC W wI := NC.tr nW_w43 (NC.ofExt hxI)
                  replace hb2 := hb2.ext hxI
                  replace hb3 := hb3.ext hxI
                  replace hb4 := hb4.ext hxI
                  replace hb5 := hb5.ext hxI
                  replace hb6 := hb6.ext hxI
                  replace hb7 := hb7.ext hxI
                  replace hb8 := hb8.ext hxI
                  replace hb9 := hb9.ext hxI
                  replace hb15 := hb15.ext hxI
                  replace ho := ho.ext hxI
                  exact h_evA (v := .string (B x.1)) ha rfl (e_move rfl) rfl rfl (Ext.rfl' _)
                · intro Q act_ wI hxI ha hp
                  have xw_wI : Ext w wI := Ext.tr xw_w43 hxI
                  have nW_wI : NC W wI := NC.tr nW_w43 (NC.ofExt hxI)
                  replace hb2 := hb2.ext hxI
                  replace hb3 := hb3.ext hxI
                  replace hb4 := hb4.ext hxI
                  replace hb5 := hb5.ext hxI
                  replace hb6 := hb6.ext hxI
                  replace hb7 := hb7.ext hxI
                  replace hb8 := hb8.ext hxI
                  replace hb9 := hb9.ext hxI
                  replace hb15 := hb15.ext hxI
                  replace ho := ho.ext hxI
                  have ha := ha.add (show act_.tmps.getD 39 undef = .string (B x.1) from hp 0 (by kernel_rfl) (by decide))
                  exact h_callA ha ent35 rfl rfl rfl (cread_c x.1 2 2 wI (by omega) (by omega) (by omega) (by decide) (by decide)) rfl (by rintro _ w1 ⟨rfl, hR⟩; exact ⟨rfl, hR⟩)
                · intro act_ wI hxI ha hp
                  have xw_wI : Ext w wI := Ext.tr xw_w43 hxI
                  have nW_wI : NC W wI := NC.tr nW_w43 (NC.ofExt hxI)
                  replace hb2 := hb2.ext hxI
                  replace hb3 := hb3.ext hxI
                  replace hb4 := hb4.ext hxI
                  replace hb5 := hb5.ext hxI
                  replace hb6 := hb6.ext hxI
                  replace hb7 := hb7.ext hxI
                  replace hb8 := hb8.ext hxI
                  replace hb9 := hb9.ext hxI
                  replace hb15 := hb15.ext hxI
                  replace ho := ho.ext hxI
                  exact l_ev (v := .string (B x.1)) ha rfl (fun _ => e_move rfl) rfl rfl
                · intro act_ wI hxI ha hp
                  have xw_wI : Ext w wI := Ext.tr xw_w43 hxI
                  have nW_wI : NC W wI := NC.tr nW_w43 (NC.ofExt hxI)
                  replace hb2 := hb2.ext hxI
                  replace hb3 := hb3.ext hxI
                  replace hb4 := hb4.ext hxI
                  replace hb5 := hb5.ext hxI
                  replace hb6 := hb6.ext hxI
                  replace hb7 := hb7.ext hxI
                  replace hb8 := hb8.ext hxI
                  replace hb9 := hb9.ext hxI
                  replace hb15 := hb15.ext hxI
                  replace ho := ho.ext hxI
                  have ha := ha.add (show act_.tmps.getD 41 undef = .string (B x.1) from hp 2 (by kernel_rfl) (by decide))
                  exact l_ev (v := .int .u8 ((at_ x.1 0).toNat)) ha rfl (fun _ => e_sat Try.underlying9 rfl rfl (by decide) (by omega)) rfl rfl
                · intro act_ wI hxI ha hp
                  have xw_wI : Ext w wI := Ext.tr xw_w43 hxI
                  have nW_wI : NC W wI := NC.tr nW_w43 (NC.ofExt hxI)
                  replace hb2 := hb2.ext hxI
                  replace hb3 := hb3.ext hxI
                  replace hb4 := hb4.ext hxI
                  replace hb5 := hb5.ext hxI
                  replace hb6 := hb6.ext hxI
                  replace hb7 := hb7.ext hxI
                  replace hb8 := hb8.ext hxI
                  replace hb9 := hb9.ext hxI
                  replace hb15 := hb15.ext hxI
                  replace ho := ho.ext hxI
                  have ha := ha.add (show act_.tmps.getD 42 undef = .int .u8 ((at_ x.1 0).toNat) from hp 3 (by kernel_rfl) (by decide))
                  exact l_ev (v := .bool (decide ((at_ x.1 0) = (144 : UInt8)))) ha rfl (fun _ => e_beq (a := (at_ x.1 0)) (b := 144) rfl rfl) rfl rfl
                intro vs_ w46 hx_w46 hvs act_ ha hv
                have xw_w46 : Ext w w46 := Ext.tr xw_w43 hx_w46
                have nW_w46 : NC W w46 := NC.tr nW_w43 (NC.ofExt hx_w46)
                replace hb2 := hb2.ext hx_w46
                replace hb3 := hb3.ext hx_w46
                replace hb4 := hb4.ext hx_w46
                replace hb5 := hb5.ext hx_w46
                replace hb6 := hb6.ext hx_w46
                replace hb7 := hb7.ext hx_w46
                replace hb8 := hb8.ext hx_w46
                replace hb9 := hb9.ext hx_w46
                replace hb15 := hb15.ext hx_w46
                replace ho := ho.ext hx_w46
                have ha := ha.add ((hv 1 (by decide)).trans (show vs_ 1 = .int .i64 (rdle (sub x.1 2 2)) from hvs 1 (by decide)))
                have ha := ha.add ((hv 4 (by decide)).trans (show vs_ 4 = .bool (decide ((at_ x.1 0) = (144 : UInt8))) from hvs 4 (by decide)))
                refine st_go ha ?_
                clear ha hv hvs
                refine st_blkV [.int .i64 (rdle (sub x.1 2 2))] [.int .i64 (rdle (sub x.1 2 2))] rfl rfl rfl hb6 rfl Try.sizeOf3 (Nat.le_of_ble_eq_true rfl) rfl rfl ?_
                intro w47 hn_ hm_w47 hs_w47
                have ho_ := hb6
                replace hb6 := hn_
                clear hn_
                replace hb2 := hb2.mut hm_w47 (Ne.symm ne_b6_b2)
                replace hb3 := hb3.mut hm_w47 (Ne.symm ne_b6_b3)
                replace hb4 := hb4.mut hm_w47 (Ne.symm ne_b6_b4)
                replace hb5 := hb5.mut hm_w47 (Ne.symm ne_b6_b5)
                replace hb7 := hb7.mut hm_w47 ne_b7_b6
                replace hb8 := hb8.mut hm_w47 ne_b8_b6
                replace hb9 := hb9.mut hm_w47 ne_b9_b6
                replace hb15 := hb15.mut hm_w47 ne_b15_b6
                replace ho := ho.mut hm_w47 (Own.ne ho ho_ (by decide))
                have nW_w47 : NC W w47 := NC.tr nW_w46 (NC.ofMut hm_w47 ho_)
                have xw_w47 : Ext w w47 := below_mut xw_w46 (Below.size xw_w46) hm_w47 ge_b6
                refine st_blkV [.bool (decide ((at_ x.1 0) = (144 : UInt8)))] [.bool (decide ((at_ x.1 0) = (144 : UInt8)))] rfl rfl rfl hb7 rfl Try.sizeOf4 (Nat.le_of_ble_eq_true rfl) rfl rfl ?_
                intro w48 hn_ hm_w48 hs_w48
                have ho_ := hb7
                replace hb7 := hn_
                clear hn_
                replace hb2 := hb2.mut hm_w48 (Ne.symm ne_b7_b2)
                replace hb3 := hb3.mut hm_w48 (Ne.symm ne_b7_b3)
                replace hb4 := hb4.mut hm_w48 (Ne.symm ne_b7_b4)
                replace hb5 := hb5.mut hm_w48 (Ne.symm ne_b7_b5)
                replace hb6 := hb6.mut hm_w48 (Ne.symm ne_b7_b6)
                replace hb8 := hb8.mut hm_w48 ne_b8_b7
                replace hb9 := hb9.mut hm_w48 ne_b9_b7
                replace hb15 := hb15.mut hm_w48 ne_b15_b7
                replace ho := ho.mut hm_w48 (Own.ne ho ho_ (by decide))
                have nW_w48 : NC W w48 := NC.tr nW_w47 (NC.ofMut hm_w48 ho_)
                have xw_w48 : Ext w w48 := below_mut xw_w47 (Below.size xw_w47) hm_w48 ge_b7
                refine st_nil (nrm_k ?_)
                refine sc_reg ?_
                refine Go.XK.s (v := .int .i64 t.hd) (e_load rfl (load1 Try.isAgg3 (hb9.cell (j := 0) rfl))) ?_
                refine Go.XK.s (v := .int .i64 (t.hd + 1)) (e_add rfl rfl (by omega)) ?_
                refine su_blkV [.int .i64 (t.hd + 1)] [.int .i64 (t.hd + 1)] rfl rfl hb9 rfl Try.sizeOf3 (Nat.le_of_ble_eq_true rfl) rfl rfl ?_
                intro w49 hn_ hm_w49 hs_w49
                have ho_ := hb9
                replace hb9 := hn_
                clear hn_
                replace hb2 := hb2.mut hm_w49 (Ne.symm ne_b9_b2)
                replace hb3 := hb3.mut hm_w49 (Ne.symm ne_b9_b3)
                replace hb4 := hb4.mut hm_w49 (Ne.symm ne_b9_b4)
                replace hb5 := hb5.mut hm_w49 (Ne.symm ne_b9_b5)
                replace hb6 := hb6.mut hm_w49 (Ne.symm ne_b9_b6)
                replace hb7 := hb7.mut hm_w49 (Ne.symm ne_b9_b7)
                replace hb8 := hb8.mut hm_w49 (Ne.symm ne_b9_b8)
                replace hb15 := hb15.mut hm_w49 ne_b15_b9
                replace ho := ho.mut hm_w49 (Own.ne ho ho_ (by decide))
                have nW_w49 : NC W w49 := NC.tr nW_w48 (NC.ofMut hm_w49 ho_)
                have xw_w49 : Ext w w49 := below_mut xw_w48 (Below.size xw_w48) hm_w49 ge_b9
                refine sl_nil (nrm_k ?_)
                refine sc_seq ?_
                refine sc_reg ?_
                refine Go.XK.s (v := .int .i64 (rdle (sub x.1 2 2))) (e_load rfl (load1 Try.isAgg3 (hb6.cell (j := 0) rfl))) ?_
                refine Go.XK.s (v := .bool (decide (rdle (sub x.1 2 2) = 0))) (e_eq rfl rfl) ?_
                refine Go.XK.s (v := .bool (decide (rdle (sub x.1 2 2) = 0))) (e_move rfl) ?_
                refine sl_merge 3 105 (.bool ((decide (rdle (sub x.1 2 2) = 0)) && (decide (¬ ((at_ x.1 0) = (144 : UInt8)))))) ?_ ?_
                · refine sl_case (t := 102) rfl (fun g30_2 => ?_) (fun g30_2 => ?_)
                  ·
                    refine sl_gev (v := .bool (decide ((at_ x.1 0) = (144 : UInt8)))) rfl rfl g30_2 (e_load rfl (load1 Try.isAgg4 (hb7.cell (j := 0) rfl))) rfl (by decide) ?_
                    refine sl_gev (v := .bool (decide (¬ ((at_ x.1 0) = (144 : UInt8))))) rfl rfl g30_2 (e_notd rfl) rfl (by decide) ?_
                    refine Go.XK.s (v := .bool (decide (¬ ((at_ x.1 0) = (144 : UInt8))))) (e_pickT rfl g30_2 rfl) ?_
                    exact sl_nil (fun a ha => ⟨rfl, ha.sub (.cons (by rw [g30_2]; rfl) (sub_self_cons (sub_self_cons (sub_self_cons (Sub.refl _) rfl) rfl) rfl))⟩)
                  ·
                    refine sl_gskip rfl rfl g30_2 (by decide) ?_
                    refine sl_gskip rfl rfl g30_2 (by decide) ?_
                    refine Go.XK.s (v := .bool false) (e_pickF rfl g30_2 rfl) ?_
                    exact sl_nil (fun a ha => ⟨rfl, ha.sub (.cons (by rw [g30_2]; rfl) (sub_self_cons (sub_self_cons (sub_self_cons (Sub.refl _) rfl) rfl) rfl))⟩)
                refine sl_nil (nrm_k ?_)
                refine sc_if rfl (fun c105 => ?_) (fun c105 => ?_)
                ·
                  have hst := by first | exact st105 c105 | exact st105b c105
                  refine sc_seq ?_
                  refine sc_reg ?_
                  refine Go.XK.s (v := v) (e_load rfl (load1 Try.isAgg22 (hb4.cell (j := 0) rfl))) ?_
                  refine su_blkV [v] [v] rfl rfl hb2 (own_cells ho).1 Try.sizeOf22 (Nat.le_of_ble_eq_true rfl) (own_cells ho).2 rfl ?_
                  intro w50 hn_ hm_w50 hs_w50
                  have ho_ := hb2
                  replace hb2 := hn_
                  clear hn_
                  replace hb3 := hb3.mut hm_w50 ne_b3_b2
                  replace hb4 := hb4.mut hm_w50 ne_b4_b2
                  replace hb5 := hb5.mut hm_w50 ne_b5_b2
                  replace hb6 := hb6.mut hm_w50 ne_b6_b2
                  replace hb7 := hb7.mut hm_w50 ne_b7_b2
                  replace hb8 := hb8.mut hm_w50 ne_b8_b2
                  replace hb9 := hb9.mut hm_w50 ne_b9_b2
                  replace hb15 := hb15.mut hm_w50 ne_b15_b2
                  replace ho := ho.mut hm_w50 (Own.ne ho ho_ (by decide))
                  have nW_w50 : NC W w50 := NC.tr nW_w49 (NC.ofMut hm_w50 ho_)
                  have xw_w50 : Ext w w50 := below_mut xw_w49 (Below.size xw_w49) hm_w50 ge_b2
                  refine su_blkV [.int .i64 0] [.int .i64 0] rfl rfl hb3 rfl Try.sizeOf24 (Nat.le_of_ble_eq_true rfl) rfl rfl ?_
                  intro w51 hn_ hm_w51 hs_w51
                  have ho_ := hb3
                  replace hb3 := hn_
                  clear hn_
                  replace hb2 := hb2.mut hm_w51 (Ne.symm ne_b3_b2)
                  replace hb4 := hb4.mut hm_w51 ne_b4_b3
                  replace hb5 := hb5.mut hm_w51 ne_b5_b3
                  replace hb6 := hb6.mut hm_w51 ne_b6_b3
                  replace hb7 := hb7.mut hm_w51 ne_b7_b3
                  replace hb8 := hb8.mut hm_w51 ne_b8_b3
                  replace hb9 := hb9.mut hm_w51 ne_b9_b3
                  replace hb15 := hb15.mut hm_w51 ne_b15_b3
                  replace ho := ho.mut hm_w51 (Own.ne ho ho_ (by decide))
                  have nW_w51 : NC W w51 := NC.tr nW_w50 (NC.ofMut hm_w51 ho_)
                  have xw_w51 : Ext w w51 := below_mut xw_w50 (Below.size xw_w50) hm_w51 ge_b3
                  refine sl_nil (nrm_k ?_)
                  refine sc_ret (fun a_ ha_ => ?_)
                  exact ⟨NC.keeps nW_w51 _, _, _, _, fun rest => by rw [round_inl hrun (t' := { t with p := ((at_ x.1 1).toNat : Int), left := rdle (sub x.1 2 2), more := decide (at_ x.1 0 = 144), hd := t.hd + 1 }) (by rw [stepR, if_neg (by simp [c46]), if_neg c67, if_neg hk23, if_neg hk32, if_neg (by rw [hpl]; simp)]) rest]; exact runF_stop hst.1 hst.2, xw_w51, ho, hb2, hb3⟩
                ·
                  have hno := by first | exact no105 c105 | exact no105b c105
                  have hhd2 : 0 ≤ t.hd ∧ t.hd ≤ ((pre ++ [x]).length : Int) := by simp; omega
                  refine sc_skip ?_
                  exact fun a_ ha_ => ⟨NC.keeps nW_w49 _, KpB.of hq0 hb15, { t with p := ((at_ x.1 1).toNat : Int), left := rdle (sub x.1 2 2), more := decide (at_ x.1 0 = 144), hd := t.hd + 1 }, v, fun rest => by
                    rw [round_inl hrun (t' := { t with p := ((at_ x.1 1).toNat : Int), left := rdle (sub x.1 2 2), more := decide (at_ x.1 0 = 144), hd := t.hd + 1 }) (by rw [stepR, if_neg (by simp [c46]), if_neg c67, if_neg hk23, if_neg hk32, if_neg (by rw [hpl]; simp)]) rest]; exact runF_go hno, by simp; omega, by first | exact hlf | (dsimp only; omega), by first | exact hhd2 | (simp; omega), xw_w49, ho, hb2, hb3, hb4, hb5, hb6, hb7, hb8, hb9, hb15⟩
    · intro D xs W hDle hS ⟨t, v, hrun, hol, hlf, hhd, xw_W, ho, hb2, hb3, hb4, hb5, hb6, hb7, hb8, hb9, hb15⟩ hDD
      have hdec : decR s = ([], 10) := by
        have h_ := hrun []
        rw [List.append_nil, hS] at h_
        rw [decR, if_neg (by simp [hs]), h_]; rfl
      refine nrm_k ?_
      refine sc_seq ?_
      refine sc_reg ?_
      refine su_blkV [.slice none 0 0] [.slice none 0 0] rfl rfl hb2 rfl Try.sizeOf22 (Nat.le_of_ble_eq_true rfl) rfl rfl ?_
      intro w52 hn_ hm_w52 hs_w52
      have ho_ := hb2
      replace hb2 := hn_
      clear hn_
      replace hb3 := hb3.mut hm_w52 ne_b3_b2
      replace hb4 := hb4.mut hm_w52 ne_b4_b2
      replace hb5 := hb5.mut hm_w52 ne_b5_b2
      replace hb6 := hb6.mut hm_w52 ne_b6_b2
      replace hb7 := hb7.mut hm_w52 ne_b7_b2
      replace hb8 := hb8.mut hm_w52 ne_b8_b2
      replace hb9 := hb9.mut hm_w52 ne_b9_b2
      replace hb15 := hb15.mut hm_w52 ne_b15_b2
      replace ho := ho.mut hm_w52 (Own.ne ho ho_ (by decide))
      have nW_w52 : NC W w52 := NC.tr (NC.rfl' W) (NC.ofMut hm_w52 ho_)
      have xw_w52 : Ext w w52 := below_mut xw_W (Below.size xw_W) hm_w52 ge_b2
      refine su_blkV [.int .i64 10] [.int .i64 10] rfl rfl hb3 rfl Try.sizeOf24 (Nat.le_of_ble_eq_true rfl) rfl rfl ?_
      intro w53 hn_ hm_w53 hs_w53
      have ho_ := hb3
      replace hb3 := hn_
      clear hn_
      replace hb2 := hb2.mut hm_w53 (Ne.symm ne_b3_b2)
      replace hb4 := hb4.mut hm_w53 ne_b4_b3
      replace hb5 := hb5.mut hm_w53 ne_b5_b3
      replace hb6 := hb6.mut hm_w53 ne_b6_b3
      replace hb7 := hb7.mut hm_w53 ne_b7_b3
      replace hb8 := hb8.mut hm_w53 ne_b8_b3
      replace hb9 := hb9.mut hm_w53 ne_b9_b3
      replace hb15 := hb15.mut hm_w53 ne_b15_b3
      replace ho := ho.mut hm_w53 (Own.ne ho ho_ (by decide))
      have nW_w53 : NC W w53 := NC.tr nW_w52 (NC.ofMut hm_w53 ho_)
      have xw_w53 : Ext w w53 := below_mut xw_w52 (Below.size xw_w52) hm_w53 ge_b3
      refine sl_nil (nrm_k ?_)
      replace hDD := nW_w53.2 _ _ hDD rfl
      obtain ⟨wz, hwz⟩ : ∃ wz, wz = World.putObj w53 D (.deferred none) := ⟨_, rfl⟩
      have hmz : Mut w53 wz D := by rw [hwz]; exact mut_put _ _ _
      replace hb2 := hb2.mut hmz (hb2.ne_of hDD rfl)
      replace hb3 := hb3.mut hmz (hb3.ne_of hDD rfl)
      replace hb4 := hb4.mut hmz (hb4.ne_of hDD rfl)
      replace hb5 := hb5.mut hmz (hb5.ne_of hDD rfl)
      replace hb6 := hb6.mut hmz (hb6.ne_of hDD rfl)
      replace hb7 := hb7.mut hmz (hb7.ne_of hDD rfl)
      replace hb8 := hb8.mut hmz (hb8.ne_of hDD rfl)
      replace hb9 := hb9.mut hmz (hb9.ne_of hDD rfl)
      replace hb15 := hb15.mut hmz (hb15.ne_of hDD rfl)
      replace ho := Go.XK.Own.mut ho hmz (own_ne_of ho hDD rfl)
      have xw_wz : Ext w wz := below_mut xw_w53 (Below.size xw_w53) hmz (Nat.le_trans (Below.size xw_w16) hDle)
      refine sc_retMk rfl hDD ?_
      rw [← hwz]
      refine ret2 Try.results13 (rvc rfl (load1 Try.isAgg22 (hb2.cell (j := 0) rfl))) (rvc rfl (load1 Try.isAgg24 (hb3.cell (j := 0) rfl))) ?_
      exact ⟨_, _, _, rfl, hdec, Go.XK.Own.nil _ _ _ _ _, xw_wz⟩
    · rintro D pre W hDle ⟨rest, hrest⟩ ⟨vs, e, o, hrun, xw_W, ho, hb2, hb3⟩ hDD
      have hdec : decR s = (o, e) := by
        have h_ := hrun rest
        rw [hrest] at h_
        rw [decR, if_neg (by simp [hs]), h_]
      obtain ⟨wz, hwz⟩ : ∃ wz, wz = World.putObj W D (.deferred none) := ⟨_, rfl⟩
      have hmz : Mut W wz D := by rw [hwz]; exact mut_put _ _ _
      replace hb2 := hb2.mut hmz (hb2.ne_of hDD rfl)
      replace hb3 := hb3.mut hmz (hb3.ne_of hDD rfl)
      replace ho := Go.XK.Own.mut ho hmz (own_ne_of ho hDD rfl)
      have xw_wz : Ext w wz := below_mut xw_W (Below.size xw_W) hmz (Nat.le_trans (Below.size xw_w16) hDle)
      refine fin_markq rfl hDD ?_
      rw [← hwz]
      refine ret2 Try.results13 (rvc rfl (load1 Try.isAgg22 (hb2.cell (j := 0) rfl))) (rvc rfl (load1 Try.isAgg24 (hb3.cell (j := 0) rfl))) ?_
      exact ⟨_, _, _, rfl, hdec, ho, xw_wz⟩

end Go.Proofs.Ytlgkjpmaekkpjaa
