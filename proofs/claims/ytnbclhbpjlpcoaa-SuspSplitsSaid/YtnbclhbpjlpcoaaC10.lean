/- Chapter 24: C10. Printed by my program wip/tools/wk.py. -/
import Derived.Test.YtnbclhbpjlpcoaaC9
import Derived.Test.YtnbclhbpjlpcoaaMath4
set_option linter.unusedVariables false
set_option linter.unusedSimpArgs false
set_option maxRecDepth 4000
set_option maxHeartbeats 800000
namespace Go.Proofs.Ytnbclhbpjlpcoaa
open Go.XK Go.RowKit
def ptrCE (A : Option Addr) (l : List En) : Value := match lastCE l with
  | none => .pointer none
  | some j => .pointer (some (el A 3 (j : Int) 0))
theorem ptrCE_nil (A : Option Addr) : ptrCE A [] = .pointer none := rfl
theorem ptrCE_none {A : Option Addr} {l : List En} (h : lastCE l = none) : ptrCE A l = .pointer none := by rw [ptrCE, h]
theorem ptrCE_some {A : Option Addr} {l : List En} {j : Nat} (h : lastCE l = some j) : ptrCE A l = .pointer (some (el A 3 (j : Int) 0)) := by rw [ptrCE, h]
theorem decR_get {s : List UInt8} (h : ¬ (decR s).2 ≠ 0) : decL s.length s = some (decR s).1 := by
  cases hd : decL s.length s with
  | none => rw [decR_none hd] at h; exact absurd (by decide) h
  | some l => rw [decR_some hd]
theorem decR_no {s : List UInt8} (h : (decR s).2 ≠ 0) : decL s.length s = none ∧ (decR s).2 = 10 := by
  cases hd : decL s.length s with
  | none => rw [decR_none hd]; exact ⟨rfl, rfl⟩
  | some l => rw [decR_some hd] at h; exact absurd rfl h
theorem decL_dlen : ∀ (f : Nat) (s : List UInt8) (l : List En), decL f s = some l → ∀ x ∈ l, x.d.length ≤ s.length
  | 0, s, l, h => by simp [decL] at h; subst h; intro x hx; cases hx
  | f + 1, s, l, h => by
    rw [decL] at h
    split at h
    · simp at h; subst h; intro x hx; cases hx
    · split at h
      · cases h
      · obtain ⟨l', hl', rfl⟩ := Option.map_eq_some_iff.1 h
        intro x hx
        rcases List.mem_cons.1 hx with rfl | hx
        · simp [hdE]; omega
        · have := decL_dlen f _ l' hl' x hx
          rw [List.length_drop] at this; omega
theorem wk_head {im : List (List UInt8)} {k : Nat} {at_ : Int} {us : List UInt8} {all : List En} (h : decL us.length us = some all) : ∃ r e, wk im k at_ us = ((nonCE all, at_) :: r, e) := by
  cases hl : lastCE all with
  | none => exact ⟨_, _, wk_last h hl⟩
  | some j =>
    obtain ⟨y, hy⟩ : ∃ y, all[j]? = some y := ⟨_, List.getElem?_eq_getElem (lastCE_lt hl)⟩
    cases hb : badP y.d with
    | true => exact ⟨_, _, wk_corrupt h hl hy hb⟩
    | false => cases k with
      | zero => exact ⟨_, _, wk_loop h hl hy hb⟩
      | succ k => cases hu : unr im y.d with
        | true => exact ⟨_, _, wk_unread h hl hy hb hu⟩
        | false => exact ⟨_, _, wk_next h hl hy hb hu⟩
theorem Ub.turn {α : Type} {a w w' : World} {base kk : Nat} {enc : α → List Value} {e : TypeId} {v : Value} {xs : List α} (h : Ub a w) (ho : Go.XK.Own w base e kk enc v xs) (hb : a.heap.size ≤ base) (hg : w.grownBy w' v.ownBlock) : Ub a w' := fun k o hk => by
  have h1 := h k o hk
  have h2 := (Array.getElem?_eq_some_iff.1 hk).1
  exact (hg.block k (Array.getElem?_eq_some_iff.1 h1).1 (fun e => by have := (Go.XK.Own.lt ho k e.symm).1; omega)).trans h1
theorem AtW.len {im : List (List UInt8)} {us0 us : List UInt8} {pre : List Yl} {k : Nat} {at_ : Int} (h : AtW im us0 pre k at_ us) : pre.length = k := by obtain ⟨_, _, _, h⟩ := h; exact h
theorem cells3_length (d : List UInt8) (i : Nat) : (cells3 d i).length = 3 := rfl
theorem cells3_step {d : List UInt8} {i : Nat} (h : i < 3) : (cells3 d i).take i ++ [Value.int .i64 (plc d i)] ++ (cells3 d i).drop (i + 1) = cells3 d (i + 1) := by
  obtain rfl | rfl | rfl : i = 0 ∨ i = 1 ∨ i = 2 := by omega
  · rfl
  · rfl
  · rfl
theorem errP_step {d : List UInt8} {i : Nat} {e : Int} : errP d (i + 1) e = (rd4 d (8 * (i : Int))).2 := by
  rw [errP, if_neg (by omega), show ((i + 1 : Nat) : Int) - 1 = (i : Int) by omega]
theorem area_of {a b : Int} (h : area a b = true) : 0 ≤ a ∧ a ≤ 2047 ∧ 1 ≤ b ∧ a + b ≤ 2048 := by
  simp only [area, Bool.and_eq_true, decide_eq_true_eq] at h; omega
theorem badP_area {d : List UInt8} (h : badP d = false) : 0 ≤ plc d 1 ∧ plc d 1 ≤ 2047 ∧ 1 ≤ plc d 2 ∧ plc d 1 + plc d 2 ≤ 2048 := by
  simp only [badP, Bool.or_eq_false_iff, Bool.not_eq_false'] at h
  exact area_of h.2

/-- (*masterdisc/susp.walk).areas$1 (function 67) -/
theorem areas_walk (w0 : World) (im : List (List UInt8)) (us0 : List UInt8) (Ai : Option Addr) (ci b1 b2 b3 bw id : Nat) (J Jx : List Yl → World → Prop) (w : World) (him : SlR w0 Ai ci 1 encS im) (hub : Ub w0 w) (hb1 : Blk w b1 9 [.string (B us0)]) (hb2 : Blk w b2 87 [.pointer (some ⟨bw, 0, none⟩)]) (hb3 : Blk w b3 56 [.slice Ai im.length ci]) (hbw : Blk w bw 89 [.int .i64 0, .int .i64 0]) (geu_bw : w0.heap.size ≤ bw) (geu_b1 : w0.heap.size ≤ b1) (hus : us0.length ≤ 1099511627776) (hJE : ∀ pre A B, J pre A → Ext A B → J pre B) (hJS : ∀ pre A B, J pre A → StW bw b1 A B → J pre B) (hY : ∀ (pre : List Yl) (x : Yl) (W0 W1 : World), J pre W0 → Ext W0 W1 → YW im us0 bw W0 pre x W1 → pre.length < 65 → YieldAt (WR none) 0 Try.prog id (encY x).toArray W1 fun e W' => ∃ v, e = .returned v ∧ ((v = .bool true ∧ J (pre ++ [x]) W' ∧ KpW w0.heap.size x W1 W') ∨ (v = .bool false ∧ Jx (pre ++ [x]) W'))) (h0 : J [] w) : CallR Try.prog 67 [.func (.yield id) #[] #[], .pointer (some ⟨b1, 0, none⟩), .pointer (some ⟨b2, 0, none⟩), .pointer (some ⟨b3, 0, none⟩)] w (fun v w' => (∃ xs, SW im us0 bw xs w' ∧ J xs w') ∨ (∃ pre, SpW im us0 pre ∧ Jx pre w')) := by
  have hmx0 := him.lenle
  simp only [maxLen] at hmx0
  refine callR_of (n := 138) [(0, .func (.yield id) #[] #[]), (1, .pointer (some ⟨b1, 0, none⟩)), (2, .pointer (some ⟨b2, 0, none⟩)), (3, .pointer (some ⟨b3, 0, none⟩))] Try.func67 rfl rfl (Nat.le_of_ble_eq_true rfl) rfl ?_
  refine sc_seq ?_
  refine sc_reg ?_
  refine Go.XK.s (v := .int .i64 0) (e_assign rfl) ?_
  refine sl_nil (nrm_k ?_)
  refine sc_block ?_
  refine sc_loop (fun m_ l_ w_ => ∃ (k : Nat) (at_ : Int) (us : List UInt8) (pre : List Yl), m_ = 65 - k ∧ l_ = [(5, .int .i64 (k : Int)), (0, .func (.yield id) #[] #[]), (1, .pointer (some ⟨b1, 0, none⟩)), (2, .pointer (some ⟨b2, 0, none⟩)), (3, .pointer (some ⟨b3, 0, none⟩))] ∧ Blk w_ b1 9 [.string (B us)] ∧ Blk w_ b2 87 [.pointer (some ⟨bw, 0, none⟩)] ∧ Blk w_ b3 56 [.slice Ai im.length ci] ∧ Blk w_ bw 89 [.int .i64 at_, .int .i64 0] ∧ Ub w0 w_ ∧ (k ≤ 64 ∧ us.length ≤ 1099511627776) ∧ AtW im us0 pre k at_ us ∧ J pre w_) _ [(5, .int .i64 (0 : Int)), (0, .func (.yield id) #[] #[]), (1, .pointer (some ⟨b1, 0, none⟩)), (2, .pointer (some ⟨b2, 0, none⟩)), (3, .pointer (some ⟨b3, 0, none⟩))] ⟨0, 0, us0, [], rfl, rfl, hb1, hb2, hb3, hbw, hub, ⟨⟨by omega, hus⟩, AtW.start im us0, h0⟩⟩ (.cons rfl (.cons rfl (.cons rfl (.cons rfl (.cons rfl (.nil)))))) ?_
  rintro j2 _ w1 ⟨k, at_, us, pre, rfl, rfl, hb1, hb2, hb3, hbw, hub, ⟨⟨hk, hus1⟩, hAt, hJ⟩⟩
  have hbL := Ub.size hub
  refine sc_seq ?_
  refine sc_block ?_
  refine sc_seq ?_
  refine sc_reg ?_
  refine Go.XK.s (v := .string (B us)) (e_load rfl (load1 Try.isAgg9 (hb1.cell (j := 0) rfl))) ?_
  refine sl_call ent13 rfl rfl (decode_c us w1 (by omega)) (by decide) ?_
  rintro _ w3 ⟨vD3, rfl, hoD3, hw3⟩
  replace hoD3 := Own.low hoD3 (Below.size (Ext.rfl' w1))
  have xw1_w3 : Ext w1 w3 := Ext.tr (Ext.rfl' w1) hw3
  replace hb1 := hb1.ext hw3
  replace hb2 := hb2.ext hw3
  replace hb3 := hb3.ext hw3
  replace hbw := hbw.ext hw3
  replace hub := hub.ext hw3
  obtain ⟨AD3, cD3, eD3_, hlcD3, hcmD3, _⟩ := Go.XK.Own.shape hoD3 (fun _ => rfl)
  subst eD3_
  refine Go.XK.s (v := .tuple #[.slice AD3 ((decR us).1).length cD3, .int .i64 ((decR us).2)]) (e_move rfl) ?_
  refine Go.XK.s (v := .slice AD3 ((decR us).1).length cD3) (e_extract (vs := [.slice AD3 ((decR us).1).length cD3, .int .i64 ((decR us).2)]) rfl rfl) ?_
  refine Go.XK.s (v := .int .i64 ((decR us).2)) (e_extract (vs := [.slice AD3 ((decR us).1).length cD3, .int .i64 ((decR us).2)]) rfl rfl) ?_
  refine Go.XK.s (v := .slice AD3 ((decR us).1).length cD3) (e_assign rfl) ?_
  refine Go.XK.s (v := .int .i64 ((decR us).2)) (e_assign rfl) ?_
  refine sl_nil (nrm_k ?_)
  refine sc_seq ?_
  refine sc_seq ?_
  refine sc_reg ?_
  refine Go.XK.s (v := .int .i64 ((decR us).2)) (e_move rfl) ?_
  refine Go.XK.s (v := .bool (decide ((decR us).2 ≠ 0))) (e_ne rfl rfl) ?_
  refine sl_nil (nrm_k ?_)
  refine sc_ifd rfl (fun c22 => ?_) (fun c22 => ?_)
  ·
    obtain ⟨hdn, h10⟩ := decR_no c22
    have hJ2 := hJ
    refine sc_seq ?_
    refine sc_reg ?_
    refine Go.XK.s (v := .pointer (some ⟨bw, 0, none⟩)) (e_load rfl (load1 Try.isAgg87 (hb2.cell (j := 0) rfl))) ?_
    refine Go.XK.s (v := .int .i64 ((decR us).2)) (e_move rfl) ?_
    refine Go.XK.s (v := .pointer (some ⟨bw, 0, none⟩)) (e_nilCheck rfl) ?_
    refine Go.XK.s (v := .pointer (some ⟨bw, 1, none⟩)) (e_fieldB (sz := 1) Try.underlying89 rfl Try.sizeOf25 (by decide) rfl rfl) ?_
    replace hJ2 := hJE _ _ _ hJ2 xw1_w3
    refine su_blkV [.int .i64 ((decR us).2)] [.int .i64 at_, .int .i64 ((decR us).2)] rfl rfl hbw rfl Try.sizeOf25 (Nat.le_of_ble_eq_true rfl) rfl rfl ?_
    intro w4 hn_ hm_w4 hs_w4
    have ho_ := hbw
    replace hbw := hn_
    clear hn_
    replace hb1 := hb1.mut hm_w4 (Blk.ne hb1 ho_ (by decide))
    replace hb2 := hb2.mut hm_w4 (Blk.ne hb2 ho_ (by decide))
    replace hb3 := hb3.mut hm_w4 (Blk.ne hb3 ho_ (by decide))
    replace hub := Ub.mut hub hm_w4 geu_bw
    replace hoD3 := hoD3.mut hm_w4 (Own.ne hoD3 ho_ (by decide))
    replace hJ2 := hJS _ _ _ hJ2 (.inl ⟨_, _, ho_, hbw, hm_w4⟩)
    refine sl_nil (nrm_k ?_)
    refine sc_retf rfl (ret0 Try.results67  ?_)
    rw [h10] at hbw
    exact .inl ⟨pre, hAt.fin0 (wk_bad hdn) hbw, hJ2⟩
  ·
    have hdc := decR_get c22
    have hdb := decL_bound _ _ _ hdc
    refine sc_skip (nrm_k ?_)
    refine sc_seq ?_
    refine sc_reg ?_
    refine Go.XK.s (v := .slice none 0 0) (e_assign rfl) ?_
    refine sl_nil (nrm_k ?_)
    refine sc_seq ?_
    refine sc_reg ?_
    refine Go.XK.s (v := .pointer none) (e_assign rfl) ?_
    refine sl_nil (nrm_k ?_)
    refine sc_seq ?_
    refine sc_seq ?_
    refine sc_reg ?_
    refine Go.XK.s (v := .slice AD3 ((decR us).1).length cD3) (e_move rfl) ?_
    refine Go.XK.s (v := .int .i64 (((decR us).1).length : Int)) (e_lenOwn Try.underlying22 rfl hoD3 (fun _ => rfl)) ?_
    refine Go.XK.s (v := .int .i64 0) (e_move rfl) ?_
    refine sl_nil (nrm_k ?_)
    refine sc_block ?_
    refine sc_loop (fun m_ l_ w_ => ∃ (i : Nat) (pv v8 : Value) (zs : List En), m_ = (decR us).1.length - i ∧ l_ = [(29, .int .i64 (i : Int)), (8, v8), (9, pv), (0, .func (.yield id) #[] #[]), (1, .pointer (some ⟨b1, 0, none⟩)), (2, .pointer (some ⟨b2, 0, none⟩)), (3, .pointer (some ⟨b3, 0, none⟩)), (5, .int .i64 (k : Int)), (6, .slice AD3 ((decR us).1).length cD3), (7, .int .i64 ((decR us).2)), (27, .slice AD3 ((decR us).1).length cD3), (28, .int .i64 (((decR us).1).length : Int))] ∧ Ext w1 w_ ∧ Blk w_ b1 9 [.string (B us)] ∧ Blk w_ b2 87 [.pointer (some ⟨bw, 0, none⟩)] ∧ Blk w_ b3 56 [.slice Ai im.length ci] ∧ Blk w_ bw 89 [.int .i64 at_, .int .i64 0] ∧ Ub w0 w_ ∧ Go.XK.Own w_ w1.heap.size 41 3 encE (.slice AD3 (((decR us).1).length) cD3) ((decR us).1) ∧ Go.XK.Own w_ w1.heap.size 41 3 encE v8 zs ∧ Dj (.slice AD3 (((decR us).1).length) cD3) v8 ∧ (i ≤ (decR us).1.length ∧ zs.length ≤ i) ∧ zs = nonCE ((decR us).1.take i) ∧ pv = ptrCE (ownA (.slice AD3 ((decR us).1).length cD3)) ((decR us).1.take i)) _ [(29, .int .i64 (0 : Int)), (8, (.slice none 0 0)), (9, (.pointer none)), (0, .func (.yield id) #[] #[]), (1, .pointer (some ⟨b1, 0, none⟩)), (2, .pointer (some ⟨b2, 0, none⟩)), (3, .pointer (some ⟨b3, 0, none⟩)), (5, .int .i64 (k : Int)), (6, .slice AD3 ((decR us).1).length cD3), (7, .int .i64 ((decR us).2)), (27, .slice AD3 ((decR us).1).length cD3), (28, .int .i64 (((decR us).1).length : Int))] ⟨0, .pointer none, .slice none 0 0, [], rfl, rfl, xw1_w3, hb1, hb2, hb3, hbw, hub, hoD3, (Go.XK.Own.nil _ _ _ _ _), (Dj.nilR _), ⟨⟨by omega, by simp⟩, by simp [nonCE], by rw [List.take_zero, ptrCE_nil]⟩⟩ (.cons rfl (.cons rfl (.cons rfl (.cons rfl (.cons rfl (.cons rfl (.cons rfl (.cons rfl (.cons rfl (.cons rfl (.cons rfl (.cons rfl (.nil))))))))))))) ?_
    rintro j6 _ w5 ⟨i, pv, v8, zs, rfl, rfl, xw1_w5, hb1, hb2, hb3, hbw, hub, hoD3, ho8, dj_hoD3_ho8, ⟨⟨hi, hzl⟩, hzs, hpv⟩⟩
    refine sc_seq ?_
    refine sc_reg ?_
    refine Go.XK.s (v := .bool (decide ((i : Int) < (((decR us).1).length : Int)))) (e_lt rfl rfl) ?_
    refine sl_nil (nrm_k ?_)
    refine sc_seq ?_
    refine sc_ifd rfl (fun c30 => ?_) (fun c30 => ?_)
    ·
      obtain ⟨x, hx⟩ : ∃ x, (decR us).1[i]? = some x := ⟨_, List.getElem?_eq_getElem (by omega)⟩
      refine sc_skip (nrm_k ?_)
      refine sc_seq ?_
      refine sc_block ?_
      refine sc_seq ?_
      refine sc_reg ?_
      refine Go.XK.s (v := .int .i64 (i : Int)) (e_move rfl) ?_
      refine Go.XK.s (v := .pointer (some (el (ownA (.slice AD3 ((decR us).1).length cD3)) 3 (i : Int) 0))) (e_idxOwn (x0 := x) Try.underlying22 Try.sizeOf41 rfl rfl hoD3 (fun _ => rfl) hx (by omega)) ?_
      refine Go.XK.s (v := .agg #[.string (B x.g), .int .i64 x.v, .string (B x.d)]) (e_ldElA (xs := (decR us).1) (enc := encE) (e := x) rfl (Go.XK.Own.rd hoD3 (fun _ => rfl)) hx Try.isAgg41 Try.sizeOf41 rfl) ?_
      refine s_alloc (cs := [.string (B []), .int .i64 0, .string (B [])]) Try.zeroValue41 rfl ?_
      intro b11 w7 hb11 he11 hs11 hx11
      have ne_b11_b1 : b11 ≠ b1 := by have h_ := hb1.lt; omega
      have ne_b11_b2 : b11 ≠ b2 := by have h_ := hb2.lt; omega
      have ne_b11_b3 : b11 ≠ b3 := by have h_ := hb3.lt; omega
      have ne_b11_bw : b11 ≠ bw := by have h_ := hbw.lt; omega
      have no_b11_hoD3 : Value.ownBlock (.slice AD3 (((decR us).1).length) cD3) ≠ some b11 := fun h_ => by have h2_ := (Go.XK.Own.lt hoD3 _ h_).2; omega
      have no_b11_ho8 : Value.ownBlock v8 ≠ some b11 := fun h_ => by have h2_ := (Go.XK.Own.lt ho8 _ h_).2; omega
      have geu_b11 : w0.heap.size ≤ b11 := by have h_ := Ub.size hub; omega
      have gew1_b11 : w1.heap.size ≤ b11 := by have h_ := (Below.size xw1_w5); omega
      have xw1_w7 : Ext w1 w7 := Ext.tr xw1_w5 hx11
      replace hb1 := hb1.ext hx11
      replace hb2 := hb2.ext hx11
      replace hb3 := hb3.ext hx11
      replace hbw := hbw.ext hx11
      replace hub := hub.ext hx11
      replace hoD3 := hoD3.ext hx11
      replace ho8 := ho8.ext hx11
      refine Go.XK.s (v := .int .i64 (i : Int)) (e_assign rfl) ?_
      refine su_blkV [.string (B x.g), .int .i64 x.v, .string (B x.d)] [.string (B x.g), .int .i64 x.v, .string (B x.d)] rfl rfl hb11 rfl Try.sizeOf41 (Nat.le_of_ble_eq_true rfl) rfl rfl ?_
      intro w8 hn_ hm_w8 hs_w8
      have ho_ := hb11
      replace hb11 := hn_
      clear hn_
      replace hb1 := hb1.mut hm_w8 (Ne.symm ne_b11_b1)
      replace hb2 := hb2.mut hm_w8 (Ne.symm ne_b11_b2)
      replace hb3 := hb3.mut hm_w8 (Ne.symm ne_b11_b3)
      replace hbw := hbw.mut hm_w8 (Ne.symm ne_b11_bw)
      replace hub := Ub.mut hub hm_w8 geu_b11
      replace hoD3 := hoD3.mut hm_w8 no_b11_hoD3
      replace ho8 := ho8.mut hm_w8 no_b11_ho8
      have xw1_w8 : Ext w1 w8 := below_mut xw1_w7 (Below.size xw1_w7) hm_w8 gew1_b11
      refine sl_nil (nrm_k ?_)
      refine sc_seq ?_
      refine sc_reg ?_
      refine Go.XK.s (v := .pointer (some ⟨b11, 0, none⟩)) (e_fieldB (sz := 1) Try.underlying41 rfl Try.sizeOf9 (by decide) rfl rfl) ?_
      refine Go.XK.s (v := .string (B x.g)) (e_load rfl (load1 Try.isAgg9 (hb11.cell (j := 0) rfl))) ?_
      refine Go.XK.s (v := .bool (decide (x.g = [67, 69]))) (e_seq rfl rfl) ?_
      refine sl_nil (nrm_k ?_)
      refine sc_ifd rfl (fun c36 => ?_) (fun c36 => ?_)
      ·
        refine sc_reg ?_
        refine Go.XK.s (v := .slice AD3 ((decR us).1).length cD3) (e_move rfl) ?_
        refine Go.XK.s (v := .int .i64 (i : Int)) (e_move rfl) ?_
        refine Go.XK.s (v := .pointer (some (el (ownA (.slice AD3 ((decR us).1).length cD3)) 3 (i : Int) 0))) (e_idxOwn (x0 := x) Try.underlying22 Try.sizeOf41 rfl rfl hoD3 (fun _ => rfl) hx (by omega)) ?_
        refine Go.XK.s (v := .pointer (some (el (ownA (.slice AD3 ((decR us).1).length cD3)) 3 (i : Int) 0))) (e_assign rfl) ?_
        refine sl_nil (nrm_k ?_)
        refine sc_reg ?_
        refine Go.XK.s (v := .int .i64 ((i : Int) + 1)) (e_add rfl rfl (by omega)) ?_
        refine Go.XK.s (v := .int .i64 ((i : Int) + 1)) (e_move rfl) ?_
        refine sl_nil ?_
        exact nrm_loopq rfl _ _ (by omega) ⟨i + 1, .pointer (some (el (ownA (.slice AD3 ((decR us).1).length cD3)) 3 (i : Int) 0)), v8, zs, rfl, rfl, xw1_w8, hb1, hb2, hb3, hbw, hub, hoD3, ho8, dj_hoD3_ho8, ⟨⟨by omega, by omega⟩, by rw [hzs, nonCE_yes hx c36], (ptrCE_some (lastCE_yes hx c36)).symm⟩⟩ (.cons rfl (.cons rfl (.cons rfl (.cons rfl (.cons rfl (.cons rfl (.cons rfl (.cons rfl (.cons rfl (.cons rfl (.cons rfl (.cons rfl (.nil)))))))))))))
      ·
        refine sc_reg ?_
        refine Go.XK.s (v := v8) (e_move rfl) ?_
        refine Go.XK.s (v := .agg #[.string (B x.g), .int .i64 x.v, .string (B x.d)]) (e_load rfl (hb11.loadA Try.isAgg41 Try.sizeOf41 rfl)) ?_
        refine s_bslice (vs := [(0, .agg #[.string (B x.g), .int .i64 x.v, .string (B x.d)])]) (e := 41) rfl [.string (B x.g), .int .i64 x.v, .string (B x.d)] (by kernel_rfl) ?_
        intro b42 w9 hb42 he42 hs42 hx42
        have ne_b42_b1 : b42 ≠ b1 := by have h_ := hb1.lt; omega
        have ne_b42_b2 : b42 ≠ b2 := by have h_ := hb2.lt; omega
        have ne_b42_b3 : b42 ≠ b3 := by have h_ := hb3.lt; omega
        have ne_b42_bw : b42 ≠ bw := by have h_ := hbw.lt; omega
        have ne_b42_b11 : b42 ≠ b11 := by have h_ := hb11.lt; omega
        have no_b42_hoD3 : Value.ownBlock (.slice AD3 (((decR us).1).length) cD3) ≠ some b42 := fun h_ => by have h2_ := (Go.XK.Own.lt hoD3 _ h_).2; omega
        have no_b42_ho8 : Value.ownBlock v8 ≠ some b42 := fun h_ => by have h2_ := (Go.XK.Own.lt ho8 _ h_).2; omega
        have geu_b42 : w0.heap.size ≤ b42 := by have h_ := Ub.size hub; omega
        have gew1_b42 : w1.heap.size ≤ b42 := by have h_ := (Below.size xw1_w8); omega
        have xw1_w9 : Ext w1 w9 := Ext.tr xw1_w8 hx42
        replace hb1 := hb1.ext hx42
        replace hb2 := hb2.ext hx42
        replace hb3 := hb3.ext hx42
        replace hbw := hbw.ext hx42
        replace hb11 := hb11.ext hx42
        replace hub := hub.ext hx42
        replace hoD3 := hoD3.ext hx42
        replace ho8 := ho8.ext hx42
        refine s_appendLit2 (w0 := w1) (z := .agg #[.string (B []), .int .i64 0, .string (B [])]) (kk := 3) (bytes := 40) rfl rfl Try.underlying22 (by kernel_rfl) rfl (by decide) (fun _ => rfl) one_encE [⟨x.g, x.v, x.d⟩] ho8 xw1_w9 hb42 rfl rfl (by first | omega | (simp only [maxLen]; omega)) (by first | omega | (simp only [maxLen]; omega)) ?_
        intro v43 w10 ho43 xw_w10 hg43 hat43
        replace hb1 := hb1.grown hg43 (Own.ne ho8 hb1 (by decide))
        replace hb2 := hb2.grown hg43 (Own.ne ho8 hb2 (by decide))
        replace hb3 := hb3.grown hg43 (Own.ne ho8 hb3 (by decide))
        replace hbw := hbw.grown hg43 (Own.ne ho8 hbw (by decide))
        replace hb11 := hb11.grown hg43 no_b11_ho8
        replace hb42 := hb42.grown hg43 no_b42_ho8
        replace hub := Ub.turn hub ho8 hbL hg43
        have dj_ho43_hoD3 := Dj.app (Dj.symm dj_hoD3_ho8) hoD3 hat43
        replace hoD3 := Own.dj hoD3 (Dj.symm dj_hoD3_ho8) hg43
        refine Go.XK.s (v := v43) (e_assign rfl) ?_
        refine sl_nil (nrm_k ?_)
        refine sc_reg ?_
        refine Go.XK.s (v := .int .i64 ((i : Int) + 1)) (e_add rfl rfl (by omega)) ?_
        refine Go.XK.s (v := .int .i64 ((i : Int) + 1)) (e_move rfl) ?_
        refine sl_nil ?_
        exact nrm_loopq rfl _ _ (by omega) ⟨i + 1, pv, v43, zs ++ [⟨x.g, x.v, x.d⟩], rfl, rfl, xw_w10, hb1, hb2, hb3, hbw, hub, hoD3, ho43, (Dj.symm dj_ho43_hoD3), ⟨⟨by omega, by rw [List.length_append]; simp; omega⟩, by rw [hzs, nonCE_no hx c36], by rw [hpv, ptrCE, ptrCE, lastCE_no hx c36]⟩⟩ (.cons rfl (.cons rfl (.cons rfl (.cons rfl (.cons rfl (.cons rfl (.cons rfl (.cons rfl (.cons rfl (.cons rfl (.cons rfl (.cons rfl (.nil)))))))))))))
    ·
      refine sc_exit rfl (nrm_k ?_)
      refine sc_seq ?_
      refine sc_seq ?_
      rw [List.take_of_length_le (show (decR us).1.length ≤ i by omega)] at hzs hpv
      subst hzs
      obtain ⟨AY, cY, eY_, hlcY, hcmY, _⟩ := Go.XK.Own.shape ho8 (fun _ => rfl)
      subst eY_
      obtain ⟨rW, eW, hwk⟩ := wk_head (im := im) (k := 64 - k) (at_ := at_) hdc
      rcases Classical.em (lastCE (decR us).1 = none) with g11 | g11
      ·
        rw [ptrCE_none g11] at hpv
        subst hpv
        refine sc_reg ?_
        refine Go.XK.s (v := .func (.yield id) #[] #[]) (e_move rfl) ?_
        refine Go.XK.s (v := .slice AY (nonCE (decR us).1).length cY) (e_move rfl) ?_
        have hyw : YW im us0 bw w1 pre (⟨nonCE (decR us).1, AY, cY, (.slice AD3 (((decR us).1).length) cD3), (decR us).1, w1.heap.size⟩ : Yl) w5 := ⟨ho8, hoD3, Nat.le_refl _, KC.ofExt xw1_w5, at_, hAt.get hwk, hbw⟩
        refine sl_yield (R := fun v W' => ∃ ok : Bool, v = .bool ok ∧ (ok = true → J (pre ++ [(⟨nonCE (decR us).1, AY, cY, (.slice AD3 (((decR us).1).length) cD3), (decR us).1, w1.heap.size⟩ : Yl)]) W' ∧ KpW w0.heap.size (⟨nonCE (decR us).1, AY, cY, (.slice AD3 (((decR us).1).length) cD3), (decR us).1, w1.heap.size⟩ : Yl) w5 W') ∧ (ok = false → Jx (pre ++ [(⟨nonCE (decR us).1, AY, cY, (.slice AD3 (((decR us).1).length) cD3), (decR us).1, w1.heap.size⟩ : Yl)]) W')) rfl rfl (YieldAt.mono (hY pre (⟨nonCE (decR us).1, AY, cY, (.slice AD3 (((decR us).1).length) cD3), (decR us).1, w1.heap.size⟩ : Yl) w1 w5 hJ xw1_w5 hyw (by have h_ := hAt.len; omega)) ?_) (by decide) ?_
        · rintro e W' ⟨v, rfl, (⟨rfl, h1, h2⟩ | ⟨rfl, h1⟩)⟩
          · exact ⟨_, rfl, true, rfl, fun _ => ⟨h1, h2⟩, fun h_ => by cases h_⟩
          · exact ⟨_, rfl, false, rfl, (fun h_ => by cases h_), fun _ => h1⟩
        rintro _ wY12 ⟨ok, rfl, hgo, hstop⟩
        refine Go.XK.s (v := .bool (!ok)) (e_not rfl) ?_
        refine Go.XK.s (v := .bool (!ok)) (e_move rfl) ?_
        refine sl_case (t := 49) rfl (fun g14_4 => ?_) (fun g14_4 => ?_)
        ·
          have hok : ok = false := by simpa using g14_4
          refine sl_gskip rfl rfl g14_4 (by decide) ?_
          refine sl_gskip rfl rfl g14_4 (by decide) ?_
          refine Go.XK.s (v := .bool true) (e_pickT rfl g14_4 rfl) ?_
          refine sl_nil (nrm_k ?_)
          refine sc_yes rfl rfl ?_
          refine sc_retf rfl (ret0 Try.results67  ?_)
          exact .inr ⟨_, hAt.sp hwk rfl, hstop hok⟩
        ·
          have hok : ok = true := by simpa using g14_4
          obtain ⟨hJ2, hK, hKo⟩ := hgo hok
          replace hoD3 := hKo hoD3
          replace hb1 := hK.blk hb1 (by decide)
          replace hb2 := hK.blk hb2 (by decide)
          replace hb3 := hK.blk hb3 (by decide)
          replace hbw := hK.blk hbw (by decide)
          replace hub := Ub.kp hub hK
          refine sl_gev (v := .pointer none) rfl rfl g14_4 (e_move rfl) rfl (by decide) ?_
          refine sl_gev (v := .bool true) rfl rfl g14_4 (e_pnenil (by kernel_rfl) rfl rfl) rfl (by decide) ?_
          refine Go.XK.s (v := .bool true) (e_pickF rfl g14_4 rfl) ?_
          refine sl_nil (nrm_k ?_)
          refine sc_yes rfl rfl ?_
          refine sc_retf rfl (ret0 Try.results67  ?_)
          exact .inl ⟨_, hAt.fin (wk_last hdc g11) rfl hbw, hJ2⟩
      ·
        obtain ⟨j, hj⟩ : ∃ j, lastCE (decR us).1 = some j := by
          cases h_ : lastCE (decR us).1 with
          | none => exact absurd h_ g11
          | some j => exact ⟨j, rfl⟩
        obtain ⟨y, hy⟩ : ∃ y, (decR us).1[j]? = some y := ⟨_, List.getElem?_eq_getElem (lastCE_lt hj)⟩
        have hyd := decL_dlen _ _ _ hdc y (List.mem_of_getElem? hy)
        rw [ptrCE_some hj] at hpv
        subst hpv
        refine sc_reg ?_
        refine Go.XK.s (v := .func (.yield id) #[] #[]) (e_move rfl) ?_
        refine Go.XK.s (v := .slice AY (nonCE (decR us).1).length cY) (e_move rfl) ?_
        have hyw : YW im us0 bw w1 pre (⟨nonCE (decR us).1, AY, cY, (.slice AD3 (((decR us).1).length) cD3), (decR us).1, w1.heap.size⟩ : Yl) w5 := ⟨ho8, hoD3, Nat.le_refl _, KC.ofExt xw1_w5, at_, hAt.get hwk, hbw⟩
        refine sl_yield (R := fun v W' => ∃ ok : Bool, v = .bool ok ∧ (ok = true → J (pre ++ [(⟨nonCE (decR us).1, AY, cY, (.slice AD3 (((decR us).1).length) cD3), (decR us).1, w1.heap.size⟩ : Yl)]) W' ∧ KpW w0.heap.size (⟨nonCE (decR us).1, AY, cY, (.slice AD3 (((decR us).1).length) cD3), (decR us).1, w1.heap.size⟩ : Yl) w5 W') ∧ (ok = false → Jx (pre ++ [(⟨nonCE (decR us).1, AY, cY, (.slice AD3 (((decR us).1).length) cD3), (decR us).1, w1.heap.size⟩ : Yl)]) W')) rfl rfl (YieldAt.mono (hY pre (⟨nonCE (decR us).1, AY, cY, (.slice AD3 (((decR us).1).length) cD3), (decR us).1, w1.heap.size⟩ : Yl) w1 w5 hJ xw1_w5 hyw (by have h_ := hAt.len; omega)) ?_) (by decide) ?_
        · rintro e W' ⟨v, rfl, (⟨rfl, h1, h2⟩ | ⟨rfl, h1⟩)⟩
          · exact ⟨_, rfl, true, rfl, fun _ => ⟨h1, h2⟩, fun h_ => by cases h_⟩
          · exact ⟨_, rfl, false, rfl, (fun h_ => by cases h_), fun _ => h1⟩
        rintro _ wY13 ⟨ok, rfl, hgo, hstop⟩
        refine Go.XK.s (v := .bool (!ok)) (e_not rfl) ?_
        refine Go.XK.s (v := .bool (!ok)) (e_move rfl) ?_
        refine sl_case (t := 49) rfl (fun g14_4 => ?_) (fun g14_4 => ?_)
        ·
          have hok : ok = false := by simpa using g14_4
          refine sl_gskip rfl rfl g14_4 (by decide) ?_
          refine sl_gskip rfl rfl g14_4 (by decide) ?_
          refine Go.XK.s (v := .bool true) (e_pickT rfl g14_4 rfl) ?_
          refine sl_nil (nrm_k ?_)
          refine sc_yes rfl rfl ?_
          refine sc_retf rfl (ret0 Try.results67  ?_)
          exact .inr ⟨_, hAt.sp hwk rfl, hstop hok⟩
        ·
          have hok : ok = true := by simpa using g14_4
          obtain ⟨hJ2, hK, hKo⟩ := hgo hok
          replace hoD3 := hKo hoD3
          replace hb1 := hK.blk hb1 (by decide)
          replace hb2 := hK.blk hb2 (by decide)
          replace hb3 := hK.blk hb3 (by decide)
          replace hbw := hK.blk hbw (by decide)
          replace hub := Ub.kp hub hK
          refine sl_gev (v := .pointer (some (el (ownA (.slice AD3 ((decR us).1).length cD3)) 3 (j : Int) 0))) rfl rfl g14_4 (e_move rfl) rfl (by decide) ?_
          refine sl_gev (v := .bool false) rfl rfl g14_4 (e_peqnil (by kernel_rfl) rfl rfl) rfl (by decide) ?_
          refine Go.XK.s (v := .bool false) (e_pickF rfl g14_4 rfl) ?_
          refine sl_nil (nrm_k ?_)
          refine sc_no rfl rfl ?_
          refine sc_skip (nrm_k ?_)
          refine sc_seq ?_
          refine sc_reg ?_
          refine s_alloc (cs := [.int .i64 0, .int .i64 0, .int .i64 0]) Try.zeroValue106 rfl ?_
          intro b12 w14 hb12 he12 hs12 hx12
          have ne_b12_b1 : b12 ≠ b1 := by have h_ := hb1.lt; omega
          have ne_b12_b2 : b12 ≠ b2 := by have h_ := hb2.lt; omega
          have ne_b12_b3 : b12 ≠ b3 := by have h_ := hb3.lt; omega
          have ne_b12_bw : b12 ≠ bw := by have h_ := hbw.lt; omega
          have no_b12_hoD3 : Value.ownBlock (.slice AD3 (((decR us).1).length) cD3) ≠ some b12 := fun h_ => by have h2_ := (Go.XK.Own.lt hoD3 _ h_).2; omega
          have geu_b12 : w0.heap.size ≤ b12 := by have h_ := Ub.size hub; omega
          have gewY13_b12 : wY13.heap.size ≤ b12 := by have h_ := (Below.size (Ext.rfl' wY13)); omega
          have xwY13_w14 : Ext wY13 w14 := Ext.tr (Ext.rfl' wY13) hx12
          replace hb1 := hb1.ext hx12
          replace hb2 := hb2.ext hx12
          replace hb3 := hb3.ext hx12
          replace hbw := hbw.ext hx12
          replace hub := hub.ext hx12
          replace hoD3 := hoD3.ext hx12
          refine sl_nil (nrm_k ?_)
          refine sc_seq ?_
          refine sc_seq ?_
          refine sc_reg ?_
          refine Go.XK.s (v := .int .i64 0) (e_move rfl) ?_
          refine sl_nil (nrm_k ?_)
          refine sc_block ?_
          refine sc_loop (fun m_ l_ w_ => ∃ (i : Nat) (er : Int), m_ = 3 - i ∧ l_ = [(53, .int .i64 (i : Int)), (7, .int .i64 er), (0, .func (.yield id) #[] #[]), (1, .pointer (some ⟨b1, 0, none⟩)), (2, .pointer (some ⟨b2, 0, none⟩)), (3, .pointer (some ⟨b3, 0, none⟩)), (5, .int .i64 (k : Int)), (6, .slice AD3 ((decR us).1).length cD3), (8, .slice AY (nonCE (decR us).1).length cY), (9, .pointer (some (el (ownA (.slice AD3 ((decR us).1).length cD3)) 3 (j : Int) 0))), (12, .pointer (some ⟨b12, 0, none⟩))] ∧ Ext wY13 w_ ∧ Blk w_ b1 9 [.string (B us)] ∧ Blk w_ b2 87 [.pointer (some ⟨bw, 0, none⟩)] ∧ Blk w_ b3 56 [.slice Ai im.length ci] ∧ Blk w_ bw 89 [.int .i64 at_, .int .i64 0] ∧ Blk w_ b12 106 (cells3 y.d i) ∧ Ub w0 w_ ∧ Go.XK.Own w_ w1.heap.size 41 3 encE (.slice AD3 (((decR us).1).length) cD3) ((decR us).1) ∧ i ≤ 3 ∧ er = errP y.d i (decR us).2) _ [(53, .int .i64 (0 : Int)), (7, .int .i64 ((decR us).2)), (0, .func (.yield id) #[] #[]), (1, .pointer (some ⟨b1, 0, none⟩)), (2, .pointer (some ⟨b2, 0, none⟩)), (3, .pointer (some ⟨b3, 0, none⟩)), (5, .int .i64 (k : Int)), (6, .slice AD3 ((decR us).1).length cD3), (8, .slice AY (nonCE (decR us).1).length cY), (9, .pointer (some (el (ownA (.slice AD3 ((decR us).1).length cD3)) 3 (j : Int) 0))), (12, .pointer (some ⟨b12, 0, none⟩))] ⟨0, (decR us).2, rfl, rfl, xwY13_w14, hb1, hb2, hb3, hbw, hb12, hub, hoD3, ⟨by omega, rfl⟩⟩ (.cons rfl (.cons rfl (.cons rfl (.cons rfl (.cons rfl (.cons rfl (.cons rfl (.cons rfl (.cons rfl (.cons rfl (.cons rfl (.nil)))))))))))) ?_
          rintro j16 _ w15 ⟨i, er, rfl, rfl, xwY13_w15, hb1, hb2, hb3, hbw, hb12, hub, hoD3, ⟨hi, her⟩⟩
          refine sc_seq ?_
          refine sc_reg ?_
          refine Go.XK.s (v := .bool (decide ((i : Int) < 3))) (e_lt rfl rfl) ?_
          refine sl_nil (nrm_k ?_)
          refine sc_seq ?_
          refine sc_ifd rfl (fun c54 => ?_) (fun c54 => ?_)
          ·
            refine sc_skip (nrm_k ?_)
            refine sc_seq ?_
            refine sc_block ?_
            refine sc_seq ?_
            refine sc_reg ?_
            refine Go.XK.s (v := .int .i64 (i : Int)) (e_move rfl) ?_
            refine Go.XK.s (v := .int .i64 (i : Int)) (e_assign rfl) ?_
            refine sl_nil (nrm_k ?_)
            refine sc_reg ?_
            refine Go.XK.s (v := .int .i64 (i : Int)) (e_move rfl) ?_
            refine Go.XK.s (v := .pointer (some (el (ownA (.slice AD3 ((decR us).1).length cD3)) 3 (j : Int) 0))) (e_move rfl) ?_
            refine Go.XK.s (v := .pointer (some (el (ownA (.slice AD3 ((decR us).1).length cD3)) 3 (j : Int) 0))) (e_nilCheck rfl) ?_
            refine Go.XK.s (v := .pointer (some (el (ownA (.slice AD3 ((decR us).1).length cD3)) 3 (j : Int) 2))) (e_fieldEl (fsz := 1) Try.underlying41 rfl Try.sizeOf9 (by decide) rfl rfl) ?_
            refine Go.XK.s (v := .string (B y.d)) (e_ldEl (xs := (decR us).1) (enc := encE) (e := y) rfl (Go.XK.Own.rd hoD3 (fun _ => rfl)) hy Try.isAgg9 rfl) ?_
            refine Go.XK.s (v := .int .i64 (i : Int)) (e_move rfl) ?_
            refine Go.XK.s (v := .int .i64 ((8 : Int) * (i : Int))) (e_mul rfl rfl (by omega)) ?_
            refine sl_call ent68 rfl rfl (readl_c y.d ((8 : Int) * (i : Int)) w15 (by omega)) (by decide) ?_
            rintro _ w17 ⟨rfl, hw17⟩
            have xwY13_w17 : Ext wY13 w17 := Ext.tr xwY13_w15 hw17
            replace hb1 := hb1.ext hw17
            replace hb2 := hb2.ext hw17
            replace hb3 := hb3.ext hw17
            replace hbw := hbw.ext hw17
            replace hb12 := hb12.ext hw17
            replace hub := hub.ext hw17
            replace hoD3 := hoD3.ext hw17
            refine Go.XK.s (v := .tuple #[.int .i64 ((rd4 y.d ((8 : Int) * (i : Int))).1), .int .i64 ((rd4 y.d ((8 : Int) * (i : Int))).2)]) (e_move rfl) ?_
            refine Go.XK.s (v := .int .i64 ((rd4 y.d ((8 : Int) * (i : Int))).1)) (e_extract (vs := [.int .i64 ((rd4 y.d ((8 : Int) * (i : Int))).1), .int .i64 ((rd4 y.d ((8 : Int) * (i : Int))).2)]) rfl rfl) ?_
            refine Go.XK.s (v := .int .i64 ((rd4 y.d ((8 : Int) * (i : Int))).2)) (e_extract (vs := [.int .i64 ((rd4 y.d ((8 : Int) * (i : Int))).1), .int .i64 ((rd4 y.d ((8 : Int) * (i : Int))).2)]) rfl rfl) ?_
            refine Go.XK.s (v := .pointer (some ⟨b12, i, none⟩)) (e_idxArr (m := 3) (sz := 1) (o' := i) Try.underlying106 Try.sizeOf3 rfl rfl (by omega) (by omega) (by simp)) ?_
            refine su_blkV [.int .i64 (plc y.d i)] (cells3 y.d (i + 1)) rfl rfl hb12 rfl Try.sizeOf3 (by rw [cells3_length]; simp; omega) rfl (cells3_step (by omega)) ?_
            intro w18 hn_ hm_w18 hs_w18
            have ho_ := hb12
            replace hb12 := hn_
            clear hn_
            replace hb1 := hb1.mut hm_w18 (Ne.symm ne_b12_b1)
            replace hb2 := hb2.mut hm_w18 (Ne.symm ne_b12_b2)
            replace hb3 := hb3.mut hm_w18 (Ne.symm ne_b12_b3)
            replace hbw := hbw.mut hm_w18 (Ne.symm ne_b12_bw)
            replace hub := Ub.mut hub hm_w18 geu_b12
            replace hoD3 := hoD3.mut hm_w18 no_b12_hoD3
            have xwY13_w18 : Ext wY13 w18 := below_mut xwY13_w17 (Below.size xwY13_w17) hm_w18 gewY13_b12
            refine Go.XK.s (v := .int .i64 ((rd4 y.d ((8 : Int) * (i : Int))).2)) (e_assign rfl) ?_
            refine sl_nil (nrm_k ?_)
            refine sc_reg ?_
            refine Go.XK.s (v := .int .i64 ((i : Int) + 1)) (e_add rfl rfl (by omega)) ?_
            refine Go.XK.s (v := .int .i64 ((i : Int) + 1)) (e_move rfl) ?_
            refine sl_nil ?_
            exact nrm_loopq rfl _ _ (by omega) ⟨i + 1, _, rfl, rfl, xwY13_w18, hb1, hb2, hb3, hbw, hb12, hub, hoD3, ⟨by omega, errP_step.symm⟩⟩ (.cons rfl (.cons rfl (.cons rfl (.cons rfl (.cons rfl (.cons rfl (.cons rfl (.cons rfl (.cons rfl (.cons rfl (.cons rfl (.nil))))))))))))
          ·
            have hi3 : i = 3 := by omega
            rw [hi3] at her hb12
            have her2 : er = (rd4 y.d 16).2 := her
            replace hb12 : Blk w15 b12 106 [.int .i64 (plc y.d 0), .int .i64 (plc y.d 1), .int .i64 (plc y.d 2)] := hb12
            refine sc_exit rfl (nrm_k ?_)
            refine sc_seq ?_
            refine sc_seq ?_
            refine sc_reg ?_
            refine Go.XK.s (v := .int .i64 er) (e_move rfl) ?_
            refine Go.XK.s (v := .bool (decide (er ≠ 0))) (e_ne rfl rfl) ?_
            refine Go.XK.s (v := .bool (decide (er ≠ 0))) (e_move rfl) ?_
            refine sl_merge 7 78 (.bool ((decide (er ≠ 0)) || (decide ((y.d.length : Int) ≠ 24)))) ?_ ?_
            · refine sl_case (t := 71) rfl (fun g21_2 => ?_) (fun g21_2 => ?_)
              ·
                refine sl_gskip rfl rfl g21_2 (by decide) ?_
                refine sl_gskip rfl rfl g21_2 (by decide) ?_
                refine sl_gskip rfl rfl g21_2 (by decide) ?_
                refine sl_gskip rfl rfl g21_2 (by decide) ?_
                refine sl_gskip rfl rfl g21_2 (by decide) ?_
                refine sl_gskip rfl rfl g21_2 (by decide) ?_
                refine Go.XK.s (v := .bool true) (e_pickT rfl g21_2 rfl) ?_
                exact sl_nil (fun a ha => ⟨rfl, ha.sub (.cons (by rw [g21_2]; rfl) (sub_self_cons (sub_self_cons (sub_self_cons (sub_self_cons (sub_self_cons (sub_self_cons (sub_self_cons (Sub.refl _) rfl) rfl) rfl) rfl) rfl) rfl) rfl))⟩)
              ·
                refine sl_gev (v := .pointer (some (el (ownA (.slice AD3 ((decR us).1).length cD3)) 3 (j : Int) 0))) rfl rfl g21_2 (e_move rfl) rfl (by decide) ?_
                refine sl_gev (v := .pointer (some (el (ownA (.slice AD3 ((decR us).1).length cD3)) 3 (j : Int) 0))) rfl rfl g21_2 (e_nilCheck rfl) rfl (by decide) ?_
                refine sl_gev (v := .pointer (some (el (ownA (.slice AD3 ((decR us).1).length cD3)) 3 (j : Int) 2))) rfl rfl g21_2 (e_fieldEl (fsz := 1) Try.underlying41 rfl Try.sizeOf9 (by decide) rfl rfl) rfl (by decide) ?_
                refine sl_gev (v := .string (B y.d)) rfl rfl g21_2 (e_ldEl (xs := (decR us).1) (enc := encE) (e := y) rfl (Go.XK.Own.rd hoD3 (fun _ => rfl)) hy Try.isAgg9 rfl) rfl (by decide) ?_
                refine sl_gev (v := .int .i64 (y.d.length : Int)) rfl rfl g21_2 (e_slen Try.underlying9 rfl) rfl (by decide) ?_
                refine sl_gev (v := .bool (decide ((y.d.length : Int) ≠ 24))) rfl rfl g21_2 (e_ne rfl rfl) rfl (by decide) ?_
                refine Go.XK.s (v := .bool (decide ((y.d.length : Int) ≠ 24))) (e_pickF rfl g21_2 rfl) ?_
                exact sl_nil (fun a ha => ⟨rfl, ha.sub (.cons (by rw [g21_2]; rfl) (sub_self_cons (sub_self_cons (sub_self_cons (sub_self_cons (sub_self_cons (sub_self_cons (sub_self_cons (Sub.refl _) rfl) rfl) rfl) rfl) rfl) rfl) rfl))⟩)
            refine Go.XK.s (v := .bool ((decide (er ≠ 0)) || (decide ((y.d.length : Int) ≠ 24)))) (e_move rfl) ?_
            refine sl_mergeW 7 86 (.bool (((decide (er ≠ 0)) || (decide ((y.d.length : Int) ≠ 24))) || (!(area (plc y.d 1) (plc y.d 2))))) (fun w_ => Ext w15 w_) ?_ (fun w19 hw19 => ?_)
            · refine sl_case (t := 79) rfl (fun g21_10 => ?_) (fun g21_10 => ?_)
              ·
                refine sl_gskip rfl rfl g21_10 (by decide) ?_
                refine sl_gskip rfl rfl g21_10 (by decide) ?_
                refine sl_gskip rfl rfl g21_10 (by decide) ?_
                refine sl_gskip rfl rfl g21_10 (by decide) ?_
                refine sl_gskip rfl rfl g21_10 (by decide) ?_
                refine sl_gskip rfl rfl g21_10 (by decide) ?_
                refine Go.XK.s (v := .bool true) (e_pickT rfl g21_10 rfl) ?_
                exact sl_nil (fun a ha => ⟨(Ext.rfl' w15), ha.sub (.cons (by rw [g21_10]; rfl) (sub_self_cons (sub_self_cons (sub_self_cons (sub_self_cons (sub_self_cons (sub_self_cons (sub_self_cons (Sub.refl _) rfl) rfl) rfl) rfl) rfl) rfl) rfl))⟩)
              ·
                refine sl_gev (v := .pointer (some ⟨b12, 1, none⟩)) rfl rfl g21_10 (e_idxArr (m := 3) (sz := 1) (o' := 1) Try.underlying106 Try.sizeOf3 rfl rfl (by decide) (by decide) rfl) rfl (by decide) ?_
                refine sl_gev (v := .int .i64 (plc y.d 1)) rfl rfl g21_10 (e_load rfl (load1 Try.isAgg3 (hb12.cell (j := 1) rfl))) rfl (by decide) ?_
                refine sl_gev (v := .pointer (some ⟨b12, 2, none⟩)) rfl rfl g21_10 (e_idxArr (m := 3) (sz := 1) (o' := 2) Try.underlying106 Try.sizeOf3 rfl rfl (by decide) (by decide) rfl) rfl (by decide) ?_
                refine sl_gev (v := .int .i64 (plc y.d 2)) rfl rfl g21_10 (e_load rfl (load1 Try.isAgg3 (hb12.cell (j := 2) rfl))) rfl (by decide) ?_
                refine sl_gcall rfl rfl g21_10 ent59 rfl rfl (area_c _ _ w15) (by decide) ?_
                rintro _ w20 ⟨rfl, hw20⟩
                have xwY13_w20 : Ext wY13 w20 := Ext.tr xwY13_w15 hw20
                have xw15_w20 : Ext w15 w20 := Ext.tr (Ext.rfl' w15) hw20
                replace hb1 := hb1.ext hw20
                replace hb2 := hb2.ext hw20
                replace hb3 := hb3.ext hw20
                replace hbw := hbw.ext hw20
                replace hb12 := hb12.ext hw20
                replace hub := hub.ext hw20
                replace hoD3 := hoD3.ext hw20
                refine sl_gev (v := .bool (!(area (plc y.d 1) (plc y.d 2)))) rfl rfl g21_10 (e_not rfl) rfl (by decide) ?_
                refine Go.XK.s (v := .bool (!(area (plc y.d 1) (plc y.d 2)))) (e_pickF rfl g21_10 rfl) ?_
                exact sl_nil (fun a ha => ⟨xw15_w20, ha.sub (.cons (by rw [g21_10]; rfl) (sub_self_cons (sub_self_cons (sub_self_cons (sub_self_cons (sub_self_cons (sub_self_cons (sub_self_cons (Sub.refl _) rfl) rfl) rfl) rfl) rfl) rfl) rfl))⟩)
            have xwY13_w19 : Ext wY13 w19 := Ext.tr xwY13_w15 hw19
            replace hb1 := hb1.ext hw19
            replace hb2 := hb2.ext hw19
            replace hb3 := hb3.ext hw19
            replace hbw := hbw.ext hw19
            replace hb12 := hb12.ext hw19
            replace hub := hub.ext hw19
            replace hoD3 := hoD3.ext hw19
            refine sl_nil (nrm_k ?_)
            refine sc_if rfl (fun c86 => ?_) (fun c86 => ?_)
            ·
              rw [her2] at c86
              have hbd : badP y.d = true := c86
              refine sc_seq ?_
              refine sc_reg ?_
              refine Go.XK.s (v := .pointer (some ⟨bw, 0, none⟩)) (e_load rfl (load1 Try.isAgg87 (hb2.cell (j := 0) rfl))) ?_
              refine Go.XK.s (v := .pointer (some ⟨bw, 0, none⟩)) (e_nilCheck rfl) ?_
              refine Go.XK.s (v := .pointer (some ⟨bw, 1, none⟩)) (e_fieldB (sz := 1) Try.underlying89 rfl Try.sizeOf25 (by decide) rfl rfl) ?_
              replace hJ2 := hJE _ _ _ hJ2 xwY13_w19
              refine su_blkV [.int .i64 10] [.int .i64 at_, .int .i64 10] rfl rfl hbw rfl Try.sizeOf25 (Nat.le_of_ble_eq_true rfl) rfl rfl ?_
              intro w21 hn_ hm_w21 hs_w21
              have ho_ := hbw
              replace hbw := hn_
              clear hn_
              replace hb1 := hb1.mut hm_w21 (Blk.ne hb1 ho_ (by decide))
              replace hb2 := hb2.mut hm_w21 (Blk.ne hb2 ho_ (by decide))
              replace hb3 := hb3.mut hm_w21 (Blk.ne hb3 ho_ (by decide))
              replace hb12 := hb12.mut hm_w21 ne_b12_bw
              replace hub := Ub.mut hub hm_w21 geu_bw
              replace hoD3 := hoD3.mut hm_w21 (Own.ne hoD3 ho_ (by decide))
              replace hJ2 := hJS _ _ _ hJ2 (.inl ⟨_, _, ho_, hbw, hm_w21⟩)
              refine sl_nil (nrm_k ?_)
              refine sc_retf rfl (ret0 Try.results67  ?_)
              exact .inl ⟨_, hAt.fin (wk_corrupt hdc hj hy hbd) rfl hbw, hJ2⟩
            ·
              rw [her2] at c86
              have hbd : badP y.d = false := c86
              have hba := badP_area hbd
              have hp0 := plc_pos y.d 0
              refine sc_skip (nrm_k ?_)
              refine sc_seq ?_
              refine sc_reg ?_
              refine Go.XK.s (v := .pointer (some ⟨bw, 0, none⟩)) (e_load rfl (load1 Try.isAgg87 (hb2.cell (j := 0) rfl))) ?_
              refine Go.XK.s (v := .pointer (some ⟨b12, 0, none⟩)) (e_idxArr (m := 3) (sz := 1) (o' := 0) Try.underlying106 Try.sizeOf3 rfl rfl (by decide) (by decide) rfl) ?_
              refine Go.XK.s (v := .int .i64 (plc y.d 0)) (e_load rfl (load1 Try.isAgg3 (hb12.cell (j := 0) rfl))) ?_
              refine Go.XK.s (v := .pointer (some ⟨bw, 0, none⟩)) (e_nilCheck rfl) ?_
              refine Go.XK.s (v := .pointer (some ⟨bw, 0, none⟩)) (e_fieldB (sz := 1) Try.underlying89 rfl Try.sizeOf3 (by decide) rfl rfl) ?_
              replace hJ2 := hJE _ _ _ hJ2 xwY13_w19
              refine su_blkV [.int .i64 (plc y.d 0)] [.int .i64 (plc y.d 0), .int .i64 0] rfl rfl hbw rfl Try.sizeOf3 (Nat.le_of_ble_eq_true rfl) rfl rfl ?_
              intro w22 hn_ hm_w22 hs_w22
              have ho_ := hbw
              replace hbw := hn_
              clear hn_
              replace hb1 := hb1.mut hm_w22 (Blk.ne hb1 ho_ (by decide))
              replace hb2 := hb2.mut hm_w22 (Blk.ne hb2 ho_ (by decide))
              replace hb3 := hb3.mut hm_w22 (Blk.ne hb3 ho_ (by decide))
              replace hb12 := hb12.mut hm_w22 ne_b12_bw
              replace hub := Ub.mut hub hm_w22 geu_bw
              replace hoD3 := hoD3.mut hm_w22 (Own.ne hoD3 ho_ (by decide))
              replace hJ2 := hJS _ _ _ hJ2 (.inl ⟨_, _, ho_, hbw, hm_w22⟩)
              refine sl_nil (nrm_k ?_)
              refine sc_seq ?_
              refine sc_block ?_
              refine sc_seq ?_
              refine sc_reg ?_
              refine Go.XK.s (v := .int .i64 (k : Int)) (e_move rfl) ?_
              refine Go.XK.s (v := .bool (decide ((k : Int) = 64))) (e_eq rfl rfl) ?_
              refine Go.XK.s (v := .bool (decide ((k : Int) = 64))) (e_assign rfl) ?_
              refine sl_nil (nrm_k ?_)
              refine sc_ifd rfl (fun c95 => ?_) (fun c95 => ?_)
              ·
                refine sc_seq ?_
                refine sc_reg ?_
                refine Go.XK.s (v := .pointer (some ⟨bw, 0, none⟩)) (e_load rfl (load1 Try.isAgg87 (hb2.cell (j := 0) rfl))) ?_
                refine Go.XK.s (v := .pointer (some ⟨bw, 0, none⟩)) (e_nilCheck rfl) ?_
                refine Go.XK.s (v := .pointer (some ⟨bw, 1, none⟩)) (e_fieldB (sz := 1) Try.underlying89 rfl Try.sizeOf25 (by decide) rfl rfl) ?_
                replace hJ2 := hJE _ _ _ hJ2 (Ext.rfl' w22)
                refine su_blkV [.int .i64 13] [.int .i64 (plc y.d 0), .int .i64 13] rfl rfl hbw rfl Try.sizeOf25 (Nat.le_of_ble_eq_true rfl) rfl rfl ?_
                intro w23 hn_ hm_w23 hs_w23
                have ho_ := hbw
                replace hbw := hn_
                clear hn_
                replace hb1 := hb1.mut hm_w23 (Blk.ne hb1 ho_ (by decide))
                replace hb2 := hb2.mut hm_w23 (Blk.ne hb2 ho_ (by decide))
                replace hb3 := hb3.mut hm_w23 (Blk.ne hb3 ho_ (by decide))
                replace hb12 := hb12.mut hm_w23 ne_b12_bw
                replace hub := Ub.mut hub hm_w23 geu_bw
                replace hoD3 := hoD3.mut hm_w23 (Own.ne hoD3 ho_ (by decide))
                replace hJ2 := hJS _ _ _ hJ2 (.inl ⟨_, _, ho_, hbw, hm_w23⟩)
                refine sl_nil (nrm_k ?_)
                refine sc_retf rfl (ret0 Try.results67  ?_)
                exact .inl ⟨_, hAt.fin (by rw [show 64 - k = 0 by omega]; exact wk_loop hdc hj hy hbd) rfl hbw, hJ2⟩
              ·
                refine sc_seq ?_
                rcases Classical.em ((im.length : Int) ≤ plc y.d 0) with g24 | g24
                ·
                  have hu : unr im y.d = true := by rw [unr, decide_eq_true g24]; rfl
                  refine sc_free [(95, .bool (decide ((k : Int) = 64))), (97, .bool (decide ((k : Int) = 64))), (96, .int .i64 (k : Int)), (94, .pointer (some ⟨bw, 0, none⟩)), (93, .pointer (some ⟨bw, 0, none⟩)), (92, .int .i64 (plc y.d 0)), (91, .pointer (some ⟨b12, 0, none⟩)), (90, .pointer (some ⟨bw, 0, none⟩)), (86, .bool (((decide (er ≠ 0)) || (decide ((y.d.length : Int) ≠ 24))) || (!(area (plc y.d 1) (plc y.d 2))))), (79, .bool ((decide (er ≠ 0)) || (decide ((y.d.length : Int) ≠ 24)))), (78, .bool ((decide (er ≠ 0)) || (decide ((y.d.length : Int) ≠ 24)))), (71, .bool (decide (er ≠ 0))), (70, .bool (decide (er ≠ 0))), (69, .int .i64 er), (54, .bool (decide ((i : Int) < 3))), (53, .int .i64 (i : Int)), (7, .int .i64 er), (0, .func (.yield id) #[] #[]), (1, .pointer (some ⟨b1, 0, none⟩)), (2, .pointer (some ⟨b2, 0, none⟩)), (3, .pointer (some ⟨b3, 0, none⟩)), (5, .int .i64 (k : Int)), (6, .slice AD3 ((decR us).1).length cD3), (8, .slice AY (nonCE (decR us).1).length cY), (9, .pointer (some (el (ownA (.slice AD3 ((decR us).1).length cD3)) 3 (j : Int) 0))), (12, .pointer (some ⟨b12, 0, none⟩))] [102, 103, 104, 105, 106, 107, 108, 109, 110, 111, 112, 113, 114, 115, 116, 117, 118, 119] [(Is (.pointer (some ⟨bw, 0, none⟩))), (Is (.pointer (some ⟨bw, 0, none⟩))), (Is (.pointer (some ⟨bw, 0, none⟩))), (Is (.int .i64 (plc y.d 0))), (Is (.slice Ai im.length ci)), (Is (.int .i64 (im.length : Int))), (Is (.bool (decide ((im.length : Int) ≤ plc y.d 0)))), (Is (.bool (decide ((im.length : Int) ≤ plc y.d 0)))), (Is undef), (Is undef), (Is undef), (Is undef), (Is undef), (Is undef), (Is undef), (Is undef), (Is undef), (Is (.bool true))] [18] (by kernel_rfl) (Sub.refl _) (by kernel_rfl) (by kernel_rfl) (by kernel_rfl) rfl (by kernel_rfl) (ds_ext (Stays.spec (.is _ (.is _ (.is _ (.is _ (.is _ (.is _ (.is _ (.is _ (.is _ (.is _ (.is _ (.is _ (.is _ (.is _ (.is _ (.is _ (.is _ (.is _ (.nil))))))))))))))))))))) ⟨?_, ?_, ?_, ?_, ?_, ?_, ?_, ?_, ?_, ?_, ?_, ?_, ?_, ?_, ?_, ?_, ?_, ?_, trivial⟩ ?_
                  · intro Q act_ wI hxI ha hp
                    have xw22_wI : Ext w22 wI := Ext.tr (Ext.rfl' w22) hxI
                    replace hb1 := hb1.ext hxI
                    replace hb2 := hb2.ext hxI
                    replace hb3 := hb3.ext hxI
                    replace hbw := hbw.ext hxI
                    replace hb12 := hb12.ext hxI
                    replace hub := hub.ext hxI
                    replace hoD3 := hoD3.ext hxI
                    exact h_evA (v := .pointer (some ⟨bw, 0, none⟩)) ha rfl (e_load rfl (load1 Try.isAgg87 (hb2.cell (j := 0) rfl))) rfl rfl (Ext.rfl' _)
                  · intro Q act_ wI hxI ha hp
                    have xw22_wI : Ext w22 wI := Ext.tr (Ext.rfl' w22) hxI
                    replace hb1 := hb1.ext hxI
                    replace hb2 := hb2.ext hxI
                    replace hb3 := hb3.ext hxI
                    replace hbw := hbw.ext hxI
                    replace hb12 := hb12.ext hxI
                    replace hub := hub.ext hxI
                    replace hoD3 := hoD3.ext hxI
                    have ha := ha.add (show act_.tmps.getD 102 undef = .pointer (some ⟨bw, 0, none⟩) from hp 0 (by kernel_rfl) (by decide))
                    exact h_evA (v := .pointer (some ⟨bw, 0, none⟩)) ha rfl (e_nilCheck rfl) rfl rfl (Ext.rfl' _)
                  · intro Q act_ wI hxI ha hp
                    have xw22_wI : Ext w22 wI := Ext.tr (Ext.rfl' w22) hxI
                    replace hb1 := hb1.ext hxI
                    replace hb2 := hb2.ext hxI
                    replace hb3 := hb3.ext hxI
                    replace hbw := hbw.ext hxI
                    replace hb12 := hb12.ext hxI
                    replace hub := hub.ext hxI
                    replace hoD3 := hoD3.ext hxI
                    have ha := ha.add (show act_.tmps.getD 103 undef = .pointer (some ⟨bw, 0, none⟩) from hp 1 (by kernel_rfl) (by decide))
                    exact h_evA (v := .pointer (some ⟨bw, 0, none⟩)) ha rfl (e_fieldB (sz := 1) Try.underlying89 rfl Try.sizeOf3 (by decide) rfl rfl) rfl rfl (Ext.rfl' _)
                  · intro Q act_ wI hxI ha hp
                    have xw22_wI : Ext w22 wI := Ext.tr (Ext.rfl' w22) hxI
                    replace hb1 := hb1.ext hxI
                    replace hb2 := hb2.ext hxI
                    replace hb3 := hb3.ext hxI
                    replace hbw := hbw.ext hxI
                    replace hb12 := hb12.ext hxI
                    replace hub := hub.ext hxI
                    replace hoD3 := hoD3.ext hxI
                    have ha := ha.add (show act_.tmps.getD 104 undef = .pointer (some ⟨bw, 0, none⟩) from hp 2 (by kernel_rfl) (by decide))
                    exact h_evA (v := .int .i64 (plc y.d 0)) ha rfl (e_load rfl (load1 Try.isAgg3 (hbw.cell (j := 0) rfl))) rfl rfl (Ext.rfl' _)
                  · intro Q act_ wI hxI ha hp
                    have xw22_wI : Ext w22 wI := Ext.tr (Ext.rfl' w22) hxI
                    replace hb1 := hb1.ext hxI
                    replace hb2 := hb2.ext hxI
                    replace hb3 := hb3.ext hxI
                    replace hbw := hbw.ext hxI
                    replace hb12 := hb12.ext hxI
                    replace hub := hub.ext hxI
                    replace hoD3 := hoD3.ext hxI
                    exact h_evA (v := .slice Ai im.length ci) ha rfl (e_load rfl (load1 Try.isAgg56 (hb3.cell (j := 0) rfl))) rfl rfl (Ext.rfl' _)
                  · intro Q act_ wI hxI ha hp
                    have xw22_wI : Ext w22 wI := Ext.tr (Ext.rfl' w22) hxI
                    replace hb1 := hb1.ext hxI
                    replace hb2 := hb2.ext hxI
                    replace hb3 := hb3.ext hxI
                    replace hbw := hbw.ext hxI
                    replace hb12 := hb12.ext hxI
                    replace hub := hub.ext hxI
                    replace hoD3 := hoD3.ext hxI
                    have ha := ha.add (show act_.tmps.getD 106 undef = .slice Ai im.length ci from hp 4 (by kernel_rfl) (by decide))
                    exact h_evA (v := .int .i64 (im.length : Int)) ha rfl (e_len Try.underlying56 rfl) rfl rfl (Ext.rfl' _)
                  · intro Q act_ wI hxI ha hp
                    have xw22_wI : Ext w22 wI := Ext.tr (Ext.rfl' w22) hxI
                    replace hb1 := hb1.ext hxI
                    replace hb2 := hb2.ext hxI
                    replace hb3 := hb3.ext hxI
                    replace hbw := hbw.ext hxI
                    replace hb12 := hb12.ext hxI
                    replace hub := hub.ext hxI
                    replace hoD3 := hoD3.ext hxI
                    have ha := ha.add (show act_.tmps.getD 105 undef = .int .i64 (plc y.d 0) from hp 3 (by kernel_rfl) (by decide))
                    have ha := ha.add (show act_.tmps.getD 107 undef = .int .i64 (im.length : Int) from hp 5 (by kernel_rfl) (by decide))
                    exact h_evA (v := .bool (decide ((im.length : Int) ≤ plc y.d 0))) ha rfl (e_ge rfl rfl) rfl rfl (Ext.rfl' _)
                  · intro Q act_ wI hxI ha hp
                    have xw22_wI : Ext w22 wI := Ext.tr (Ext.rfl' w22) hxI
                    replace hb1 := hb1.ext hxI
                    replace hb2 := hb2.ext hxI
                    replace hb3 := hb3.ext hxI
                    replace hbw := hbw.ext hxI
                    replace hb12 := hb12.ext hxI
                    replace hub := hub.ext hxI
                    replace hoD3 := hoD3.ext hxI
                    have ha := ha.add (show act_.tmps.getD 108 undef = .bool (decide ((im.length : Int) ≤ plc y.d 0)) from hp 6 (by kernel_rfl) (by decide))
                    exact h_evA (v := .bool (decide ((im.length : Int) ≤ plc y.d 0))) ha rfl (e_move rfl) rfl rfl (Ext.rfl' _)
                  · intro Q act_ wI hxI ha hp
                    have xw22_wI : Ext w22 wI := Ext.tr (Ext.rfl' w22) hxI
                    replace hb1 := hb1.ext hxI
                    replace hb2 := hb2.ext hxI
                    replace hb3 := hb3.ext hxI
                    replace hbw := hbw.ext hxI
                    replace hb12 := hb12.ext hxI
                    replace hub := hub.ext hxI
                    replace hoD3 := hoD3.ext hxI
                    have ha := ha.add (show act_.tmps.getD 109 undef = .bool (decide ((im.length : Int) ≤ plc y.d 0)) from hp 7 (by kernel_rfl) (by decide))
                    exact h_gskip rfl rfl rfl (decide_eq_true g24) ha rfl rfl
                  · intro Q act_ wI hxI ha hp
                    have xw22_wI : Ext w22 wI := Ext.tr (Ext.rfl' w22) hxI
                    replace hb1 := hb1.ext hxI
                    replace hb2 := hb2.ext hxI
                    replace hb3 := hb3.ext hxI
                    replace hbw := hbw.ext hxI
                    replace hb12 := hb12.ext hxI
                    replace hub := hub.ext hxI
                    replace hoD3 := hoD3.ext hxI
                    have ha := ha.add (show act_.tmps.getD 109 undef = .bool (decide ((im.length : Int) ≤ plc y.d 0)) from hp 7 (by kernel_rfl) (by decide))
                    exact h_gskip rfl rfl rfl (decide_eq_true g24) ha rfl rfl
                  · intro Q act_ wI hxI ha hp
                    have xw22_wI : Ext w22 wI := Ext.tr (Ext.rfl' w22) hxI
                    replace hb1 := hb1.ext hxI
                    replace hb2 := hb2.ext hxI
                    replace hb3 := hb3.ext hxI
                    replace hbw := hbw.ext hxI
                    replace hb12 := hb12.ext hxI
                    replace hub := hub.ext hxI
                    replace hoD3 := hoD3.ext hxI
                    have ha := ha.add (show act_.tmps.getD 109 undef = .bool (decide ((im.length : Int) ≤ plc y.d 0)) from hp 7 (by kernel_rfl) (by decide))
                    have ha := ha.add (show act_.tmps.getD 111 undef = undef from hp 9 (by kernel_rfl) (by decide))
                    exact h_gskip rfl rfl rfl (decide_eq_true g24) ha rfl rfl
                  · intro Q act_ wI hxI ha hp
                    have xw22_wI : Ext w22 wI := Ext.tr (Ext.rfl' w22) hxI
                    replace hb1 := hb1.ext hxI
                    replace hb2 := hb2.ext hxI
                    replace hb3 := hb3.ext hxI
                    replace hbw := hbw.ext hxI
                    replace hb12 := hb12.ext hxI
                    replace hub := hub.ext hxI
                    replace hoD3 := hoD3.ext hxI
                    have ha := ha.add (show act_.tmps.getD 109 undef = .bool (decide ((im.length : Int) ≤ plc y.d 0)) from hp 7 (by kernel_rfl) (by decide))
                    have ha := ha.add (show act_.tmps.getD 112 undef = undef from hp 10 (by kernel_rfl) (by decide))
                    exact h_gskip rfl rfl rfl (decide_eq_true g24) ha rfl rfl
                  · intro Q act_ wI hxI ha hp
                    have xw22_wI : Ext w22 wI := Ext.tr (Ext.rfl' w22) hxI
                    replace hb1 := hb1.ext hxI
                    replace hb2 := hb2.ext hxI
                    replace hb3 := hb3.ext hxI
                    replace hbw := hbw.ext hxI
                    replace hb12 := hb12.ext hxI
                    replace hub := hub.ext hxI
                    replace hoD3 := hoD3.ext hxI
                    have ha := ha.add (show act_.tmps.getD 109 undef = .bool (decide ((im.length : Int) ≤ plc y.d 0)) from hp 7 (by kernel_rfl) (by decide))
                    have ha := ha.add (show act_.tmps.getD 113 undef = undef from hp 11 (by kernel_rfl) (by decide))
                    exact h_gskip rfl rfl rfl (decide_eq_true g24) ha rfl rfl
                  · intro Q act_ wI hxI ha hp
                    have xw22_wI : Ext w22 wI := Ext.tr (Ext.rfl' w22) hxI
                    replace hb1 := hb1.ext hxI
                    replace hb2 := hb2.ext hxI
                    replace hb3 := hb3.ext hxI
                    replace hbw := hbw.ext hxI
                    replace hb12 := hb12.ext hxI
                    replace hub := hub.ext hxI
                    replace hoD3 := hoD3.ext hxI
                    have ha := ha.add (show act_.tmps.getD 109 undef = .bool (decide ((im.length : Int) ≤ plc y.d 0)) from hp 7 (by kernel_rfl) (by decide))
                    have ha := ha.add (show act_.tmps.getD 110 undef = undef from hp 8 (by kernel_rfl) (by decide))
                    have ha := ha.add (show act_.tmps.getD 114 undef = undef from hp 12 (by kernel_rfl) (by decide))
                    exact h_gskip rfl rfl rfl (decide_eq_true g24) ha rfl rfl
                  · intro Q act_ wI hxI ha hp
                    have xw22_wI : Ext w22 wI := Ext.tr (Ext.rfl' w22) hxI
                    replace hb1 := hb1.ext hxI
                    replace hb2 := hb2.ext hxI
                    replace hb3 := hb3.ext hxI
                    replace hbw := hbw.ext hxI
                    replace hb12 := hb12.ext hxI
                    replace hub := hub.ext hxI
                    replace hoD3 := hoD3.ext hxI
                    have ha := ha.add (show act_.tmps.getD 109 undef = .bool (decide ((im.length : Int) ≤ plc y.d 0)) from hp 7 (by kernel_rfl) (by decide))
                    have ha := ha.add (show act_.tmps.getD 115 undef = undef from hp 13 (by kernel_rfl) (by decide))
                    exact h_gskip rfl rfl rfl (decide_eq_true g24) ha rfl rfl
                  · intro Q act_ wI hxI ha hp
                    have xw22_wI : Ext w22 wI := Ext.tr (Ext.rfl' w22) hxI
                    replace hb1 := hb1.ext hxI
                    replace hb2 := hb2.ext hxI
                    replace hb3 := hb3.ext hxI
                    replace hbw := hbw.ext hxI
                    replace hb12 := hb12.ext hxI
                    replace hub := hub.ext hxI
                    replace hoD3 := hoD3.ext hxI
                    have ha := ha.add (show act_.tmps.getD 109 undef = .bool (decide ((im.length : Int) ≤ plc y.d 0)) from hp 7 (by kernel_rfl) (by decide))
                    have ha := ha.add (show act_.tmps.getD 116 undef = undef from hp 14 (by kernel_rfl) (by decide))
                    exact h_gskip rfl rfl rfl (decide_eq_true g24) ha rfl rfl
                  · intro Q act_ wI hxI ha hp
                    have xw22_wI : Ext w22 wI := Ext.tr (Ext.rfl' w22) hxI
                    replace hb1 := hb1.ext hxI
                    replace hb2 := hb2.ext hxI
                    replace hb3 := hb3.ext hxI
                    replace hbw := hbw.ext hxI
                    replace hb12 := hb12.ext hxI
                    replace hub := hub.ext hxI
                    replace hoD3 := hoD3.ext hxI
                    have ha := ha.add (show act_.tmps.getD 109 undef = .bool (decide ((im.length : Int) ≤ plc y.d 0)) from hp 7 (by kernel_rfl) (by decide))
                    have ha := ha.add (show act_.tmps.getD 117 undef = undef from hp 15 (by kernel_rfl) (by decide))
                    exact h_gskip rfl rfl rfl (decide_eq_true g24) ha rfl rfl
                  · intro Q act_ wI hxI ha hp
                    have xw22_wI : Ext w22 wI := Ext.tr (Ext.rfl' w22) hxI
                    replace hb1 := hb1.ext hxI
                    replace hb2 := hb2.ext hxI
                    replace hb3 := hb3.ext hxI
                    replace hbw := hbw.ext hxI
                    replace hb12 := hb12.ext hxI
                    replace hub := hub.ext hxI
                    replace hoD3 := hoD3.ext hxI
                    have ha := ha.add (show act_.tmps.getD 109 undef = .bool (decide ((im.length : Int) ≤ plc y.d 0)) from hp 7 (by kernel_rfl) (by decide))
                    have ha := ha.add (show act_.tmps.getD 118 undef = undef from hp 16 (by kernel_rfl) (by decide))
                    exact h_evA (v := .bool true) ha rfl (e_pickT rfl (decide_eq_true g24) rfl) rfl rfl (Ext.rfl' _)
                  intro vs_ w25 hx_w25 hvs act_ ha hv
                  have xw22_w25 : Ext w22 w25 := Ext.tr (Ext.rfl' w22) hx_w25
                  replace hb1 := hb1.ext hx_w25
                  replace hb2 := hb2.ext hx_w25
                  replace hb3 := hb3.ext hx_w25
                  replace hbw := hbw.ext hx_w25
                  replace hb12 := hb12.ext hx_w25
                  replace hub := hub.ext hx_w25
                  replace hoD3 := hoD3.ext hx_w25
                  have ha := ha.add ((hv 17 (by decide)).trans (show vs_ 17 = .bool true from hvs 17 (by decide)))
                  refine st_go ha ?_
                  clear ha hv hvs
                  refine st_ev (v := .bool true) rfl (e_assign rfl) ?_
                  refine st_nil (nrm_k ?_)
                  refine sc_yes rfl rfl ?_
                  refine sc_seq ?_
                  refine sc_reg ?_
                  refine Go.XK.s (v := .pointer (some ⟨bw, 0, none⟩)) (e_load rfl (load1 Try.isAgg87 (hb2.cell (j := 0) rfl))) ?_
                  refine Go.XK.s (v := .pointer (some ⟨bw, 0, none⟩)) (e_nilCheck rfl) ?_
                  refine Go.XK.s (v := .pointer (some ⟨bw, 1, none⟩)) (e_fieldB (sz := 1) Try.underlying89 rfl Try.sizeOf25 (by decide) rfl rfl) ?_
                  replace hJ2 := hJE _ _ _ hJ2 xw22_w25
                  refine su_blkV [.int .i64 9] [.int .i64 (plc y.d 0), .int .i64 9] rfl rfl hbw rfl Try.sizeOf25 (Nat.le_of_ble_eq_true rfl) rfl rfl ?_
                  intro w26 hn_ hm_w26 hs_w26
                  have ho_ := hbw
                  replace hbw := hn_
                  clear hn_
                  replace hb1 := hb1.mut hm_w26 (Blk.ne hb1 ho_ (by decide))
                  replace hb2 := hb2.mut hm_w26 (Blk.ne hb2 ho_ (by decide))
                  replace hb3 := hb3.mut hm_w26 (Blk.ne hb3 ho_ (by decide))
                  replace hb12 := hb12.mut hm_w26 ne_b12_bw
                  replace hub := Ub.mut hub hm_w26 geu_bw
                  replace hoD3 := hoD3.mut hm_w26 (Own.ne hoD3 ho_ (by decide))
                  replace hJ2 := hJS _ _ _ hJ2 (.inl ⟨_, _, ho_, hbw, hm_w26⟩)
                  refine sl_nil (nrm_k ?_)
                  refine sc_retf rfl (ret0 Try.results67  ?_)
                  exact .inl ⟨_, hAt.fin (by rw [show 64 - k = (64 - (k + 1)) + 1 by omega]; exact wk_unread hdc hj hy hbd hu) rfl hbw, hJ2⟩
                ·
                  obtain ⟨q, hq⟩ : ∃ q, im[(plc y.d 0).toNat]? = some q := ⟨_, List.getElem?_eq_getElem (by omega)⟩
                  refine sc_free [(95, .bool (decide ((k : Int) = 64))), (97, .bool (decide ((k : Int) = 64))), (96, .int .i64 (k : Int)), (94, .pointer (some ⟨bw, 0, none⟩)), (93, .pointer (some ⟨bw, 0, none⟩)), (92, .int .i64 (plc y.d 0)), (91, .pointer (some ⟨b12, 0, none⟩)), (90, .pointer (some ⟨bw, 0, none⟩)), (86, .bool (((decide (er ≠ 0)) || (decide ((y.d.length : Int) ≠ 24))) || (!(area (plc y.d 1) (plc y.d 2))))), (79, .bool ((decide (er ≠ 0)) || (decide ((y.d.length : Int) ≠ 24)))), (78, .bool ((decide (er ≠ 0)) || (decide ((y.d.length : Int) ≠ 24)))), (71, .bool (decide (er ≠ 0))), (70, .bool (decide (er ≠ 0))), (69, .int .i64 er), (54, .bool (decide ((i : Int) < 3))), (53, .int .i64 (i : Int)), (7, .int .i64 er), (0, .func (.yield id) #[] #[]), (1, .pointer (some ⟨b1, 0, none⟩)), (2, .pointer (some ⟨b2, 0, none⟩)), (3, .pointer (some ⟨b3, 0, none⟩)), (5, .int .i64 (k : Int)), (6, .slice AD3 ((decR us).1).length cD3), (8, .slice AY (nonCE (decR us).1).length cY), (9, .pointer (some (el (ownA (.slice AD3 ((decR us).1).length cD3)) 3 (j : Int) 0))), (12, .pointer (some ⟨b12, 0, none⟩))] [102, 103, 104, 105, 106, 107, 108, 109, 110, 111, 112, 113, 114, 115, 116, 117, 118, 119] [(Is (.pointer (some ⟨bw, 0, none⟩))), (Is (.pointer (some ⟨bw, 0, none⟩))), (Is (.pointer (some ⟨bw, 0, none⟩))), (Is (.int .i64 (plc y.d 0))), (Is (.slice Ai im.length ci)), (Is (.int .i64 (im.length : Int))), (Is (.bool (decide ((im.length : Int) ≤ plc y.d 0)))), (Is (.bool (decide ((im.length : Int) ≤ plc y.d 0)))), (Is (.slice Ai im.length ci)), (Is (.pointer (some ⟨bw, 0, none⟩))), (Is (.pointer (some ⟨bw, 0, none⟩))), (Is (.pointer (some ⟨bw, 0, none⟩))), (Is (.int .i64 (plc y.d 0))), (Is (.pointer (some (el Ai 1 (plc y.d 0) 0)))), (Is (.string (B q))), (Is (.int .i64 (q.length : Int))), (Is (.bool (decide ((q.length : Int) ≠ 2048)))), (Is (.bool (decide ((q.length : Int) ≠ 2048))))] [18] (by kernel_rfl) (Sub.refl _) (by kernel_rfl) (by kernel_rfl) (by kernel_rfl) rfl (by kernel_rfl) (ds_ext (Stays.spec (.is _ (.is _ (.is _ (.is _ (.is _ (.is _ (.is _ (.is _ (.is _ (.is _ (.is _ (.is _ (.is _ (.is _ (.is _ (.is _ (.is _ (.is _ (.nil))))))))))))))))))))) ⟨?_, ?_, ?_, ?_, ?_, ?_, ?_, ?_, ?_, ?_, ?_, ?_, ?_, ?_, ?_, ?_, ?_, ?_, trivial⟩ ?_
                  · intro Q act_ wI hxI ha hp
                    have xw22_wI : Ext w22 wI := Ext.tr (Ext.rfl' w22) hxI
                    replace hb1 := hb1.ext hxI
                    replace hb2 := hb2.ext hxI
                    replace hb3 := hb3.ext hxI
                    replace hbw := hbw.ext hxI
                    replace hb12 := hb12.ext hxI
                    replace hub := hub.ext hxI
                    replace hoD3 := hoD3.ext hxI
                    exact h_evA (v := .pointer (some ⟨bw, 0, none⟩)) ha rfl (e_load rfl (load1 Try.isAgg87 (hb2.cell (j := 0) rfl))) rfl rfl (Ext.rfl' _)
                  · intro Q act_ wI hxI ha hp
                    have xw22_wI : Ext w22 wI := Ext.tr (Ext.rfl' w22) hxI
                    replace hb1 := hb1.ext hxI
                    replace hb2 := hb2.ext hxI
                    replace hb3 := hb3.ext hxI
                    replace hbw := hbw.ext hxI
                    replace hb12 := hb12.ext hxI
                    replace hub := hub.ext hxI
                    replace hoD3 := hoD3.ext hxI
                    have ha := ha.add (show act_.tmps.getD 102 undef = .pointer (some ⟨bw, 0, none⟩) from hp 0 (by kernel_rfl) (by decide))
                    exact h_evA (v := .pointer (some ⟨bw, 0, none⟩)) ha rfl (e_nilCheck rfl) rfl rfl (Ext.rfl' _)
                  · intro Q act_ wI hxI ha hp
                    have xw22_wI : Ext w22 wI := Ext.tr (Ext.rfl' w22) hxI
                    replace hb1 := hb1.ext hxI
                    replace hb2 := hb2.ext hxI
                    replace hb3 := hb3.ext hxI
                    replace hbw := hbw.ext hxI
                    replace hb12 := hb12.ext hxI
                    replace hub := hub.ext hxI
                    replace hoD3 := hoD3.ext hxI
                    have ha := ha.add (show act_.tmps.getD 103 undef = .pointer (some ⟨bw, 0, none⟩) from hp 1 (by kernel_rfl) (by decide))
                    exact h_evA (v := .pointer (some ⟨bw, 0, none⟩)) ha rfl (e_fieldB (sz := 1) Try.underlying89 rfl Try.sizeOf3 (by decide) rfl rfl) rfl rfl (Ext.rfl' _)
                  · intro Q act_ wI hxI ha hp
                    have xw22_wI : Ext w22 wI := Ext.tr (Ext.rfl' w22) hxI
                    replace hb1 := hb1.ext hxI
                    replace hb2 := hb2.ext hxI
                    replace hb3 := hb3.ext hxI
                    replace hbw := hbw.ext hxI
                    replace hb12 := hb12.ext hxI
                    replace hub := hub.ext hxI
                    replace hoD3 := hoD3.ext hxI
                    have ha := ha.add (show act_.tmps.getD 104 undef = .pointer (some ⟨bw, 0, none⟩) from hp 2 (by kernel_rfl) (by decide))
                    exact h_evA (v := .int .i64 (plc y.d 0)) ha rfl (e_load rfl (load1 Try.isAgg3 (hbw.cell (j := 0) rfl))) rfl rfl (Ext.rfl' _)
                  · intro Q act_ wI hxI ha hp
                    have xw22_wI : Ext w22 wI := Ext.tr (Ext.rfl' w22) hxI
                    replace hb1 := hb1.ext hxI
                    replace hb2 := hb2.ext hxI
                    replace hb3 := hb3.ext hxI
                    replace hbw := hbw.ext hxI
                    replace hb12 := hb12.ext hxI
                    replace hub := hub.ext hxI
                    replace hoD3 := hoD3.ext hxI
                    exact h_evA (v := .slice Ai im.length ci) ha rfl (e_load rfl (load1 Try.isAgg56 (hb3.cell (j := 0) rfl))) rfl rfl (Ext.rfl' _)
                  · intro Q act_ wI hxI ha hp
                    have xw22_wI : Ext w22 wI := Ext.tr (Ext.rfl' w22) hxI
                    replace hb1 := hb1.ext hxI
                    replace hb2 := hb2.ext hxI
                    replace hb3 := hb3.ext hxI
                    replace hbw := hbw.ext hxI
                    replace hb12 := hb12.ext hxI
                    replace hub := hub.ext hxI
                    replace hoD3 := hoD3.ext hxI
                    have ha := ha.add (show act_.tmps.getD 106 undef = .slice Ai im.length ci from hp 4 (by kernel_rfl) (by decide))
                    exact h_evA (v := .int .i64 (im.length : Int)) ha rfl (e_len Try.underlying56 rfl) rfl rfl (Ext.rfl' _)
                  · intro Q act_ wI hxI ha hp
                    have xw22_wI : Ext w22 wI := Ext.tr (Ext.rfl' w22) hxI
                    replace hb1 := hb1.ext hxI
                    replace hb2 := hb2.ext hxI
                    replace hb3 := hb3.ext hxI
                    replace hbw := hbw.ext hxI
                    replace hb12 := hb12.ext hxI
                    replace hub := hub.ext hxI
                    replace hoD3 := hoD3.ext hxI
                    have ha := ha.add (show act_.tmps.getD 105 undef = .int .i64 (plc y.d 0) from hp 3 (by kernel_rfl) (by decide))
                    have ha := ha.add (show act_.tmps.getD 107 undef = .int .i64 (im.length : Int) from hp 5 (by kernel_rfl) (by decide))
                    exact h_evA (v := .bool (decide ((im.length : Int) ≤ plc y.d 0))) ha rfl (e_ge rfl rfl) rfl rfl (Ext.rfl' _)
                  · intro Q act_ wI hxI ha hp
                    have xw22_wI : Ext w22 wI := Ext.tr (Ext.rfl' w22) hxI
                    replace hb1 := hb1.ext hxI
                    replace hb2 := hb2.ext hxI
                    replace hb3 := hb3.ext hxI
                    replace hbw := hbw.ext hxI
                    replace hb12 := hb12.ext hxI
                    replace hub := hub.ext hxI
                    replace hoD3 := hoD3.ext hxI
                    have ha := ha.add (show act_.tmps.getD 108 undef = .bool (decide ((im.length : Int) ≤ plc y.d 0)) from hp 6 (by kernel_rfl) (by decide))
                    exact h_evA (v := .bool (decide ((im.length : Int) ≤ plc y.d 0))) ha rfl (e_move rfl) rfl rfl (Ext.rfl' _)
                  · intro Q act_ wI hxI ha hp
                    have xw22_wI : Ext w22 wI := Ext.tr (Ext.rfl' w22) hxI
                    replace hb1 := hb1.ext hxI
                    replace hb2 := hb2.ext hxI
                    replace hb3 := hb3.ext hxI
                    replace hbw := hbw.ext hxI
                    replace hb12 := hb12.ext hxI
                    replace hub := hub.ext hxI
                    replace hoD3 := hoD3.ext hxI
                    have ha := ha.add (show act_.tmps.getD 109 undef = .bool (decide ((im.length : Int) ≤ plc y.d 0)) from hp 7 (by kernel_rfl) (by decide))
                    exact h_gevA (v := .slice Ai im.length ci) ha rfl rfl rfl (decide_eq_false g24) (e_load rfl (load1 Try.isAgg56 (hb3.cell (j := 0) rfl))) rfl rfl (Ext.rfl' _)
                  · intro Q act_ wI hxI ha hp
                    have xw22_wI : Ext w22 wI := Ext.tr (Ext.rfl' w22) hxI
                    replace hb1 := hb1.ext hxI
                    replace hb2 := hb2.ext hxI
                    replace hb3 := hb3.ext hxI
                    replace hbw := hbw.ext hxI
                    replace hb12 := hb12.ext hxI
                    replace hub := hub.ext hxI
                    replace hoD3 := hoD3.ext hxI
                    have ha := ha.add (show act_.tmps.getD 109 undef = .bool (decide ((im.length : Int) ≤ plc y.d 0)) from hp 7 (by kernel_rfl) (by decide))
                    exact h_gevA (v := .pointer (some ⟨bw, 0, none⟩)) ha rfl rfl rfl (decide_eq_false g24) (e_load rfl (load1 Try.isAgg87 (hb2.cell (j := 0) rfl))) rfl rfl (Ext.rfl' _)
                  · intro Q act_ wI hxI ha hp
                    have xw22_wI : Ext w22 wI := Ext.tr (Ext.rfl' w22) hxI
                    replace hb1 := hb1.ext hxI
                    replace hb2 := hb2.ext hxI
                    replace hb3 := hb3.ext hxI
                    replace hbw := hbw.ext hxI
                    replace hb12 := hb12.ext hxI
                    replace hub := hub.ext hxI
                    replace hoD3 := hoD3.ext hxI
                    have ha := ha.add (show act_.tmps.getD 109 undef = .bool (decide ((im.length : Int) ≤ plc y.d 0)) from hp 7 (by kernel_rfl) (by decide))
                    have ha := ha.add (show act_.tmps.getD 111 undef = .pointer (some ⟨bw, 0, none⟩) from hp 9 (by kernel_rfl) (by decide))
                    exact h_gevA (v := .pointer (some ⟨bw, 0, none⟩)) ha rfl rfl rfl (decide_eq_false g24) (e_nilCheck rfl) rfl rfl (Ext.rfl' _)
                  · intro Q act_ wI hxI ha hp
                    have xw22_wI : Ext w22 wI := Ext.tr (Ext.rfl' w22) hxI
                    replace hb1 := hb1.ext hxI
                    replace hb2 := hb2.ext hxI
                    replace hb3 := hb3.ext hxI
                    replace hbw := hbw.ext hxI
                    replace hb12 := hb12.ext hxI
                    replace hub := hub.ext hxI
                    replace hoD3 := hoD3.ext hxI
                    have ha := ha.add (show act_.tmps.getD 109 undef = .bool (decide ((im.length : Int) ≤ plc y.d 0)) from hp 7 (by kernel_rfl) (by decide))
                    have ha := ha.add (show act_.tmps.getD 112 undef = .pointer (some ⟨bw, 0, none⟩) from hp 10 (by kernel_rfl) (by decide))
                    exact h_gevA (v := .pointer (some ⟨bw, 0, none⟩)) ha rfl rfl rfl (decide_eq_false g24) (e_fieldB (sz := 1) Try.underlying89 rfl Try.sizeOf3 (by decide) rfl rfl) rfl rfl (Ext.rfl' _)
                  · intro Q act_ wI hxI ha hp
                    have xw22_wI : Ext w22 wI := Ext.tr (Ext.rfl' w22) hxI
                    replace hb1 := hb1.ext hxI
                    replace hb2 := hb2.ext hxI
                    replace hb3 := hb3.ext hxI
                    replace hbw := hbw.ext hxI
                    replace hb12 := hb12.ext hxI
                    replace hub := hub.ext hxI
                    replace hoD3 := hoD3.ext hxI
                    have ha := ha.add (show act_.tmps.getD 109 undef = .bool (decide ((im.length : Int) ≤ plc y.d 0)) from hp 7 (by kernel_rfl) (by decide))
                    have ha := ha.add (show act_.tmps.getD 113 undef = .pointer (some ⟨bw, 0, none⟩) from hp 11 (by kernel_rfl) (by decide))
                    exact h_gevA (v := .int .i64 (plc y.d 0)) ha rfl rfl rfl (decide_eq_false g24) (e_load rfl (load1 Try.isAgg3 (hbw.cell (j := 0) rfl))) rfl rfl (Ext.rfl' _)
                  · intro Q act_ wI hxI ha hp
                    have xw22_wI : Ext w22 wI := Ext.tr (Ext.rfl' w22) hxI
                    replace hb1 := hb1.ext hxI
                    replace hb2 := hb2.ext hxI
                    replace hb3 := hb3.ext hxI
                    replace hbw := hbw.ext hxI
                    replace hb12 := hb12.ext hxI
                    replace hub := hub.ext hxI
                    replace hoD3 := hoD3.ext hxI
                    have ha := ha.add (show act_.tmps.getD 109 undef = .bool (decide ((im.length : Int) ≤ plc y.d 0)) from hp 7 (by kernel_rfl) (by decide))
                    have ha := ha.add (show act_.tmps.getD 110 undef = .slice Ai im.length ci from hp 8 (by kernel_rfl) (by decide))
                    have ha := ha.add (show act_.tmps.getD 114 undef = .int .i64 (plc y.d 0) from hp 12 (by kernel_rfl) (by decide))
                    exact h_gevA (v := .pointer (some (el Ai 1 (plc y.d 0) 0))) ha rfl rfl rfl (decide_eq_false g24) (e_idxEl (e := q) Try.underlying56 Try.sizeOf9 rfl rfl (Go.XK.Rd.ub him.1 hub) hq (by omega) rfl) rfl rfl (Ext.rfl' _)
                  · intro Q act_ wI hxI ha hp
                    have xw22_wI : Ext w22 wI := Ext.tr (Ext.rfl' w22) hxI
                    replace hb1 := hb1.ext hxI
                    replace hb2 := hb2.ext hxI
                    replace hb3 := hb3.ext hxI
                    replace hbw := hbw.ext hxI
                    replace hb12 := hb12.ext hxI
                    replace hub := hub.ext hxI
                    replace hoD3 := hoD3.ext hxI
                    have ha := ha.add (show act_.tmps.getD 109 undef = .bool (decide ((im.length : Int) ≤ plc y.d 0)) from hp 7 (by kernel_rfl) (by decide))
                    have ha := ha.add (show act_.tmps.getD 115 undef = .pointer (some (el Ai 1 (plc y.d 0) 0)) from hp 13 (by kernel_rfl) (by decide))
                    exact h_gevA (v := .string (B q)) ha rfl rfl rfl (decide_eq_false g24) (e_ldEl (xs := im) (enc := encS) (e := q) rfl (Go.XK.Rd.ub him.1 hub) hq Try.isAgg9 rfl) rfl rfl (Ext.rfl' _)
                  · intro Q act_ wI hxI ha hp
                    have xw22_wI : Ext w22 wI := Ext.tr (Ext.rfl' w22) hxI
                    replace hb1 := hb1.ext hxI
                    replace hb2 := hb2.ext hxI
                    replace hb3 := hb3.ext hxI
                    replace hbw := hbw.ext hxI
                    replace hb12 := hb12.ext hxI
                    replace hub := hub.ext hxI
                    replace hoD3 := hoD3.ext hxI
                    have ha := ha.add (show act_.tmps.getD 109 undef = .bool (decide ((im.length : Int) ≤ plc y.d 0)) from hp 7 (by kernel_rfl) (by decide))
                    have ha := ha.add (show act_.tmps.getD 116 undef = .string (B q) from hp 14 (by kernel_rfl) (by decide))
                    exact h_gevA (v := .int .i64 (q.length : Int)) ha rfl rfl rfl (decide_eq_false g24) (e_slen Try.underlying9 rfl) rfl rfl (Ext.rfl' _)
                  · intro Q act_ wI hxI ha hp
                    have xw22_wI : Ext w22 wI := Ext.tr (Ext.rfl' w22) hxI
                    replace hb1 := hb1.ext hxI
                    replace hb2 := hb2.ext hxI
                    replace hb3 := hb3.ext hxI
                    replace hbw := hbw.ext hxI
                    replace hb12 := hb12.ext hxI
                    replace hub := hub.ext hxI
                    replace hoD3 := hoD3.ext hxI
                    have ha := ha.add (show act_.tmps.getD 109 undef = .bool (decide ((im.length : Int) ≤ plc y.d 0)) from hp 7 (by kernel_rfl) (by decide))
                    have ha := ha.add (show act_.tmps.getD 117 undef = .int .i64 (q.length : Int) from hp 15 (by kernel_rfl) (by decide))
                    exact h_gevA (v := .bool (decide ((q.length : Int) ≠ 2048))) ha rfl rfl rfl (decide_eq_false g24) (e_ne rfl rfl) rfl rfl (Ext.rfl' _)
                  · intro Q act_ wI hxI ha hp
                    have xw22_wI : Ext w22 wI := Ext.tr (Ext.rfl' w22) hxI
                    replace hb1 := hb1.ext hxI
                    replace hb2 := hb2.ext hxI
                    replace hb3 := hb3.ext hxI
                    replace hbw := hbw.ext hxI
                    replace hb12 := hb12.ext hxI
                    replace hub := hub.ext hxI
                    replace hoD3 := hoD3.ext hxI
                    have ha := ha.add (show act_.tmps.getD 109 undef = .bool (decide ((im.length : Int) ≤ plc y.d 0)) from hp 7 (by kernel_rfl) (by decide))
                    have ha := ha.add (show act_.tmps.getD 118 undef = .bool (decide ((q.length : Int) ≠ 2048)) from hp 16 (by kernel_rfl) (by decide))
                    exact h_evA (v := .bool (decide ((q.length : Int) ≠ 2048))) ha rfl (e_pickF rfl (decide_eq_false g24) rfl) rfl rfl (Ext.rfl' _)
                  intro vs_ w27 hx_w27 hvs act_ ha hv
                  have xw22_w27 : Ext w22 w27 := Ext.tr (Ext.rfl' w22) hx_w27
                  replace hb1 := hb1.ext hx_w27
                  replace hb2 := hb2.ext hx_w27
                  replace hb3 := hb3.ext hx_w27
                  replace hbw := hbw.ext hx_w27
                  replace hb12 := hb12.ext hx_w27
                  replace hub := hub.ext hx_w27
                  replace hoD3 := hoD3.ext hx_w27
                  have ha := ha.add ((hv 17 (by decide)).trans (show vs_ 17 = .bool (decide ((q.length : Int) ≠ 2048)) from hvs 17 (by decide)))
                  refine st_go ha ?_
                  clear ha hv hvs
                  refine st_ev (v := .bool (decide ((q.length : Int) ≠ 2048))) rfl (e_assign rfl) ?_
                  refine st_nil (nrm_k ?_)
                  refine sc_ifd rfl (fun c101 => ?_) (fun c101 => ?_)
                  ·
                    have hu : unr im y.d = true := by rw [unr, decide_eq_false g24, getD_of hq, decide_eq_true c101]; rfl
                    refine sc_seq ?_
                    refine sc_reg ?_
                    refine Go.XK.s (v := .pointer (some ⟨bw, 0, none⟩)) (e_load rfl (load1 Try.isAgg87 (hb2.cell (j := 0) rfl))) ?_
                    refine Go.XK.s (v := .pointer (some ⟨bw, 0, none⟩)) (e_nilCheck rfl) ?_
                    refine Go.XK.s (v := .pointer (some ⟨bw, 1, none⟩)) (e_fieldB (sz := 1) Try.underlying89 rfl Try.sizeOf25 (by decide) rfl rfl) ?_
                    replace hJ2 := hJE _ _ _ hJ2 xw22_w27
                    refine su_blkV [.int .i64 9] [.int .i64 (plc y.d 0), .int .i64 9] rfl rfl hbw rfl Try.sizeOf25 (Nat.le_of_ble_eq_true rfl) rfl rfl ?_
                    intro w28 hn_ hm_w28 hs_w28
                    have ho_ := hbw
                    replace hbw := hn_
                    clear hn_
                    replace hb1 := hb1.mut hm_w28 (Blk.ne hb1 ho_ (by decide))
                    replace hb2 := hb2.mut hm_w28 (Blk.ne hb2 ho_ (by decide))
                    replace hb3 := hb3.mut hm_w28 (Blk.ne hb3 ho_ (by decide))
                    replace hb12 := hb12.mut hm_w28 ne_b12_bw
                    replace hub := Ub.mut hub hm_w28 geu_bw
                    replace hoD3 := hoD3.mut hm_w28 (Own.ne hoD3 ho_ (by decide))
                    replace hJ2 := hJS _ _ _ hJ2 (.inl ⟨_, _, ho_, hbw, hm_w28⟩)
                    refine sl_nil (nrm_k ?_)
                    refine sc_retf rfl (ret0 Try.results67  ?_)
                    exact .inl ⟨_, hAt.fin (by rw [show 64 - k = (64 - (k + 1)) + 1 by omega]; exact wk_unread hdc hj hy hbd hu) rfl hbw, hJ2⟩
                  ·
                    have hu : unr im y.d = false := by rw [unr, decide_eq_false g24, getD_of hq, decide_eq_false c101]; rfl
                    have hq8 : q.length = 2048 := by omega
                    have hnu : nextU im y.d = (q.take (plc y.d 1 + plc y.d 2).toNat).drop (plc y.d 1).toNat := by rw [nextU, getD_of hq]
                    refine sc_skip (nrm_k ?_)
                    refine sc_free [(101, .bool (decide ((q.length : Int) ≠ 2048))), (119, .bool (decide ((q.length : Int) ≠ 2048))), (95, .bool (decide ((k : Int) = 64))), (97, .bool (decide ((k : Int) = 64))), (96, .int .i64 (k : Int)), (94, .pointer (some ⟨bw, 0, none⟩)), (93, .pointer (some ⟨bw, 0, none⟩)), (92, .int .i64 (plc y.d 0)), (91, .pointer (some ⟨b12, 0, none⟩)), (90, .pointer (some ⟨bw, 0, none⟩)), (86, .bool (((decide (er ≠ 0)) || (decide ((y.d.length : Int) ≠ 24))) || (!(area (plc y.d 1) (plc y.d 2))))), (79, .bool ((decide (er ≠ 0)) || (decide ((y.d.length : Int) ≠ 24)))), (78, .bool ((decide (er ≠ 0)) || (decide ((y.d.length : Int) ≠ 24)))), (71, .bool (decide (er ≠ 0))), (70, .bool (decide (er ≠ 0))), (69, .int .i64 er), (54, .bool (decide ((i : Int) < 3))), (53, .int .i64 (i : Int)), (7, .int .i64 er), (0, .func (.yield id) #[] #[]), (1, .pointer (some ⟨b1, 0, none⟩)), (2, .pointer (some ⟨b2, 0, none⟩)), (3, .pointer (some ⟨b3, 0, none⟩)), (5, .int .i64 (k : Int)), (6, .slice AD3 ((decR us).1).length cD3), (8, .slice AY (nonCE (decR us).1).length cY), (9, .pointer (some (el (ownA (.slice AD3 ((decR us).1).length cD3)) 3 (j : Int) 0))), (12, .pointer (some ⟨b12, 0, none⟩))] [123, 124, 125, 126, 127, 128, 129, 130, 131, 132, 133, 134, 135, 136, 137] [(Is (.slice Ai im.length ci)), (Is (.pointer (some ⟨bw, 0, none⟩))), (Is (.pointer (some ⟨bw, 0, none⟩))), (Is (.pointer (some ⟨bw, 0, none⟩))), (Is (.int .i64 (plc y.d 0))), (Is (.pointer (some (el Ai 1 (plc y.d 0) 0)))), (Is (.string (B q))), (Is (.pointer (some ⟨b12, 1, none⟩))), (Is (.int .i64 (plc y.d 1))), (Is (.pointer (some ⟨b12, 1, none⟩))), (Is (.int .i64 (plc y.d 1))), (Is (.pointer (some ⟨b12, 2, none⟩))), (Is (.int .i64 (plc y.d 2))), (Is (.int .i64 ((plc y.d 1) + (plc y.d 2)))), (Is (.string (B ((q.take ((plc y.d 1 + plc y.d 2).toNat)).drop ((plc y.d 1).toNat)))))] [15] (by kernel_rfl) (Sub.refl _) (by kernel_rfl) (by kernel_rfl) (by kernel_rfl) rfl (by kernel_rfl) (ds_ext (Stays.spec (.is _ (.is _ (.is _ (.is _ (.is _ (.is _ (.is _ (.is _ (.is _ (.is _ (.is _ (.is _ (.is _ (.is _ (.is _ (.nil)))))))))))))))))) ⟨?_, ?_, ?_, ?_, ?_, ?_, ?_, ?_, ?_, ?_, ?_, ?_, ?_, ?_, ?_, trivial⟩ ?_
                    · intro Q act_ wI hxI ha hp
                      have xw22_wI : Ext w22 wI := Ext.tr xw22_w27 hxI
                      replace hb1 := hb1.ext hxI
                      replace hb2 := hb2.ext hxI
                      replace hb3 := hb3.ext hxI
                      replace hbw := hbw.ext hxI
                      replace hb12 := hb12.ext hxI
                      replace hub := hub.ext hxI
                      replace hoD3 := hoD3.ext hxI
                      exact h_evA (v := .slice Ai im.length ci) ha rfl (e_load rfl (load1 Try.isAgg56 (hb3.cell (j := 0) rfl))) rfl rfl (Ext.rfl' _)
                    · intro Q act_ wI hxI ha hp
                      have xw22_wI : Ext w22 wI := Ext.tr xw22_w27 hxI
                      replace hb1 := hb1.ext hxI
                      replace hb2 := hb2.ext hxI
                      replace hb3 := hb3.ext hxI
                      replace hbw := hbw.ext hxI
                      replace hb12 := hb12.ext hxI
                      replace hub := hub.ext hxI
                      replace hoD3 := hoD3.ext hxI
                      exact h_evA (v := .pointer (some ⟨bw, 0, none⟩)) ha rfl (e_load rfl (load1 Try.isAgg87 (hb2.cell (j := 0) rfl))) rfl rfl (Ext.rfl' _)
                    · intro Q act_ wI hxI ha hp
                      have xw22_wI : Ext w22 wI := Ext.tr xw22_w27 hxI
                      replace hb1 := hb1.ext hxI
                      replace hb2 := hb2.ext hxI
                      replace hb3 := hb3.ext hxI
                      replace hbw := hbw.ext hxI
                      replace hb12 := hb12.ext hxI
                      replace hub := hub.ext hxI
                      replace hoD3 := hoD3.ext hxI
                      have ha := ha.add (show act_.tmps.getD 124 undef = .pointer (some ⟨bw, 0, none⟩) from hp 1 (by kernel_rfl) (by decide))
                      exact h_evA (v := .pointer (some ⟨bw, 0, none⟩)) ha rfl (e_nilCheck rfl) rfl rfl (Ext.rfl' _)
                    · intro Q act_ wI hxI ha hp
                      have xw22_wI : Ext w22 wI := Ext.tr xw22_w27 hxI
                      replace hb1 := hb1.ext hxI
                      replace hb2 := hb2.ext hxI
                      replace hb3 := hb3.ext hxI
                      replace hbw := hbw.ext hxI
                      replace hb12 := hb12.ext hxI
                      replace hub := hub.ext hxI
                      replace hoD3 := hoD3.ext hxI
                      have ha := ha.add (show act_.tmps.getD 125 undef = .pointer (some ⟨bw, 0, none⟩) from hp 2 (by kernel_rfl) (by decide))
                      exact h_evA (v := .pointer (some ⟨bw, 0, none⟩)) ha rfl (e_fieldB (sz := 1) Try.underlying89 rfl Try.sizeOf3 (by decide) rfl rfl) rfl rfl (Ext.rfl' _)
                    · intro Q act_ wI hxI ha hp
                      have xw22_wI : Ext w22 wI := Ext.tr xw22_w27 hxI
                      replace hb1 := hb1.ext hxI
                      replace hb2 := hb2.ext hxI
                      replace hb3 := hb3.ext hxI
                      replace hbw := hbw.ext hxI
                      replace hb12 := hb12.ext hxI
                      replace hub := hub.ext hxI
                      replace hoD3 := hoD3.ext hxI
                      have ha := ha.add (show act_.tmps.getD 126 undef = .pointer (some ⟨bw, 0, none⟩) from hp 3 (by kernel_rfl) (by decide))
                      exact h_evA (v := .int .i64 (plc y.d 0)) ha rfl (e_load rfl (load1 Try.isAgg3 (hbw.cell (j := 0) rfl))) rfl rfl (Ext.rfl' _)
                    · intro Q act_ wI hxI ha hp
                      have xw22_wI : Ext w22 wI := Ext.tr xw22_w27 hxI
                      replace hb1 := hb1.ext hxI
                      replace hb2 := hb2.ext hxI
                      replace hb3 := hb3.ext hxI
                      replace hbw := hbw.ext hxI
                      replace hb12 := hb12.ext hxI
                      replace hub := hub.ext hxI
                      replace hoD3 := hoD3.ext hxI
                      have ha := ha.add (show act_.tmps.getD 123 undef = .slice Ai im.length ci from hp 0 (by kernel_rfl) (by decide))
                      have ha := ha.add (show act_.tmps.getD 127 undef = .int .i64 (plc y.d 0) from hp 4 (by kernel_rfl) (by decide))
                      exact h_evA (v := .pointer (some (el Ai 1 (plc y.d 0) 0))) ha rfl (e_idxEl (e := q) Try.underlying56 Try.sizeOf9 rfl rfl (Go.XK.Rd.ub him.1 hub) hq (by omega) rfl) rfl rfl (Ext.rfl' _)
                    · intro Q act_ wI hxI ha hp
                      have xw22_wI : Ext w22 wI := Ext.tr xw22_w27 hxI
                      replace hb1 := hb1.ext hxI
                      replace hb2 := hb2.ext hxI
                      replace hb3 := hb3.ext hxI
                      replace hbw := hbw.ext hxI
                      replace hb12 := hb12.ext hxI
                      replace hub := hub.ext hxI
                      replace hoD3 := hoD3.ext hxI
                      have ha := ha.add (show act_.tmps.getD 128 undef = .pointer (some (el Ai 1 (plc y.d 0) 0)) from hp 5 (by kernel_rfl) (by decide))
                      exact h_evA (v := .string (B q)) ha rfl (e_ldEl (xs := im) (enc := encS) (e := q) rfl (Go.XK.Rd.ub him.1 hub) hq Try.isAgg9 rfl) rfl rfl (Ext.rfl' _)
                    · intro Q act_ wI hxI ha hp
                      have xw22_wI : Ext w22 wI := Ext.tr xw22_w27 hxI
                      replace hb1 := hb1.ext hxI
                      replace hb2 := hb2.ext hxI
                      replace hb3 := hb3.ext hxI
                      replace hbw := hbw.ext hxI
                      replace hb12 := hb12.ext hxI
                      replace hub := hub.ext hxI
                      replace hoD3 := hoD3.ext hxI
                      exact h_evA (v := .pointer (some ⟨b12, 1, none⟩)) ha rfl (e_idxArr (m := 3) (sz := 1) (o' := 1) Try.underlying106 Try.sizeOf3 rfl rfl (by decide) (by decide) rfl) rfl rfl (Ext.rfl' _)
                    · intro Q act_ wI hxI ha hp
                      have xw22_wI : Ext w22 wI := Ext.tr xw22_w27 hxI
                      replace hb1 := hb1.ext hxI
                      replace hb2 := hb2.ext hxI
                      replace hb3 := hb3.ext hxI
                      replace hbw := hbw.ext hxI
                      replace hb12 := hb12.ext hxI
                      replace hub := hub.ext hxI
                      replace hoD3 := hoD3.ext hxI
                      have ha := ha.add (show act_.tmps.getD 130 undef = .pointer (some ⟨b12, 1, none⟩) from hp 7 (by kernel_rfl) (by decide))
                      exact h_evA (v := .int .i64 (plc y.d 1)) ha rfl (e_load rfl (load1 Try.isAgg3 (hb12.cell (j := 1) rfl))) rfl rfl (Ext.rfl' _)
                    · intro Q act_ wI hxI ha hp
                      have xw22_wI : Ext w22 wI := Ext.tr xw22_w27 hxI
                      replace hb1 := hb1.ext hxI
                      replace hb2 := hb2.ext hxI
                      replace hb3 := hb3.ext hxI
                      replace hbw := hbw.ext hxI
                      replace hb12 := hb12.ext hxI
                      replace hub := hub.ext hxI
                      replace hoD3 := hoD3.ext hxI
                      exact h_evA (v := .pointer (some ⟨b12, 1, none⟩)) ha rfl (e_idxArr (m := 3) (sz := 1) (o' := 1) Try.underlying106 Try.sizeOf3 rfl rfl (by decide) (by decide) rfl) rfl rfl (Ext.rfl' _)
                    · intro Q act_ wI hxI ha hp
                      have xw22_wI : Ext w22 wI := Ext.tr xw22_w27 hxI
                      replace hb1 := hb1.ext hxI
                      replace hb2 := hb2.ext hxI
                      replace hb3 := hb3.ext hxI
                      replace hbw := hbw.ext hxI
                      replace hb12 := hb12.ext hxI
                      replace hub := hub.ext hxI
                      replace hoD3 := hoD3.ext hxI
                      have ha := ha.add (show act_.tmps.getD 132 undef = .pointer (some ⟨b12, 1, none⟩) from hp 9 (by kernel_rfl) (by decide))
                      exact h_evA (v := .int .i64 (plc y.d 1)) ha rfl (e_load rfl (load1 Try.isAgg3 (hb12.cell (j := 1) rfl))) rfl rfl (Ext.rfl' _)
                    · intro Q act_ wI hxI ha hp
                      have xw22_wI : Ext w22 wI := Ext.tr xw22_w27 hxI
                      replace hb1 := hb1.ext hxI
                      replace hb2 := hb2.ext hxI
                      replace hb3 := hb3.ext hxI
                      replace hbw := hbw.ext hxI
                      replace hb12 := hb12.ext hxI
                      replace hub := hub.ext hxI
                      replace hoD3 := hoD3.ext hxI
                      exact h_evA (v := .pointer (some ⟨b12, 2, none⟩)) ha rfl (e_idxArr (m := 3) (sz := 1) (o' := 2) Try.underlying106 Try.sizeOf3 rfl rfl (by decide) (by decide) rfl) rfl rfl (Ext.rfl' _)
                    · intro Q act_ wI hxI ha hp
                      have xw22_wI : Ext w22 wI := Ext.tr xw22_w27 hxI
                      replace hb1 := hb1.ext hxI
                      replace hb2 := hb2.ext hxI
                      replace hb3 := hb3.ext hxI
                      replace hbw := hbw.ext hxI
                      replace hb12 := hb12.ext hxI
                      replace hub := hub.ext hxI
                      replace hoD3 := hoD3.ext hxI
                      have ha := ha.add (show act_.tmps.getD 134 undef = .pointer (some ⟨b12, 2, none⟩) from hp 11 (by kernel_rfl) (by decide))
                      exact h_evA (v := .int .i64 (plc y.d 2)) ha rfl (e_load rfl (load1 Try.isAgg3 (hb12.cell (j := 2) rfl))) rfl rfl (Ext.rfl' _)
                    · intro Q act_ wI hxI ha hp
                      have xw22_wI : Ext w22 wI := Ext.tr xw22_w27 hxI
                      replace hb1 := hb1.ext hxI
                      replace hb2 := hb2.ext hxI
                      replace hb3 := hb3.ext hxI
                      replace hbw := hbw.ext hxI
                      replace hb12 := hb12.ext hxI
                      replace hub := hub.ext hxI
                      replace hoD3 := hoD3.ext hxI
                      have ha := ha.add (show act_.tmps.getD 133 undef = .int .i64 (plc y.d 1) from hp 10 (by kernel_rfl) (by decide))
                      have ha := ha.add (show act_.tmps.getD 135 undef = .int .i64 (plc y.d 2) from hp 12 (by kernel_rfl) (by decide))
                      exact h_evA (v := .int .i64 ((plc y.d 1) + (plc y.d 2))) ha rfl (e_add rfl rfl (by omega)) rfl rfl (Ext.rfl' _)
                    · intro Q act_ wI hxI ha hp
                      have xw22_wI : Ext w22 wI := Ext.tr xw22_w27 hxI
                      replace hb1 := hb1.ext hxI
                      replace hb2 := hb2.ext hxI
                      replace hb3 := hb3.ext hxI
                      replace hbw := hbw.ext hxI
                      replace hb12 := hb12.ext hxI
                      replace hub := hub.ext hxI
                      replace hoD3 := hoD3.ext hxI
                      have ha := ha.add (show act_.tmps.getD 129 undef = .string (B q) from hp 6 (by kernel_rfl) (by decide))
                      have ha := ha.add (show act_.tmps.getD 131 undef = .int .i64 (plc y.d 1) from hp 8 (by kernel_rfl) (by decide))
                      have ha := ha.add (show act_.tmps.getD 136 undef = .int .i64 ((plc y.d 1) + (plc y.d 2)) from hp 13 (by kernel_rfl) (by decide))
                      exact h_evA (v := .string (B ((q.take ((plc y.d 1 + plc y.d 2).toNat)).drop ((plc y.d 1).toNat)))) ha rfl (e_sslice (lo := (plc y.d 1).toNat) (hi := (plc y.d 1 + plc y.d 2).toNat) Try.underlying9 rfl (Bd.at_ rfl (by omega)) (Bd.at_ rfl (by omega)) (by omega) (by omega)) rfl rfl (Ext.rfl' _)
                    intro vs_ w29 hx_w29 hvs act_ ha hv
                    have xw22_w29 : Ext w22 w29 := Ext.tr xw22_w27 hx_w29
                    replace hb1 := hb1.ext hx_w29
                    replace hb2 := hb2.ext hx_w29
                    replace hb3 := hb3.ext hx_w29
                    replace hbw := hbw.ext hx_w29
                    replace hb12 := hb12.ext hx_w29
                    replace hub := hub.ext hx_w29
                    replace hoD3 := hoD3.ext hx_w29
                    have ha := ha.add ((hv 14 (by decide)).trans (show vs_ 14 = .string (B ((q.take ((plc y.d 1 + plc y.d 2).toNat)).drop ((plc y.d 1).toNat))) from hvs 14 (by decide)))
                    replace hJ2 := hJE _ _ _ hJ2 xw22_w29
                    refine st_go ha ?_
                    clear ha hv hvs
                    refine st_blkV [.string (B ((q.take ((plc y.d 1 + plc y.d 2).toNat)).drop ((plc y.d 1).toNat)))] [.string (B ((q.take ((plc y.d 1 + plc y.d 2).toNat)).drop ((plc y.d 1).toNat)))] rfl rfl rfl hb1 rfl Try.sizeOf9 (Nat.le_of_ble_eq_true rfl) rfl rfl ?_
                    intro w30 hn_ hm_w30 hs_w30
                    have ho_ := hb1
                    replace hb1 := hn_
                    clear hn_
                    replace hb2 := hb2.mut hm_w30 (Blk.ne hb2 ho_ (by decide))
                    replace hb3 := hb3.mut hm_w30 (Blk.ne hb3 ho_ (by decide))
                    replace hbw := hbw.mut hm_w30 (Blk.ne hbw ho_ (by decide))
                    replace hb12 := hb12.mut hm_w30 ne_b12_b1
                    replace hub := Ub.mut hub hm_w30 geu_b1
                    replace hoD3 := hoD3.mut hm_w30 (Own.ne hoD3 ho_ (by decide))
                    replace hJ2 := hJS _ _ _ hJ2 (.inr ⟨_, _, ho_, hb1, hm_w30⟩)
                    have hAt2 : AtW im us0 (pre ++ [(⟨nonCE (decR us).1, AY, cY, (.slice AD3 (((decR us).1).length) cD3), (decR us).1, w1.heap.size⟩ : Yl)]) (k + 1) (plc y.d 0) ((q.take (plc y.d 1 + plc y.d 2).toNat).drop (plc y.d 1).toNat) := by
                      rw [← hnu]
                      exact hAt.next (by omega) (by rw [show 64 - k = (64 - (k + 1)) + 1 by omega]; exact wk_next hdc hj hy hbd hu) rfl
                    refine st_nil (nrm_k ?_)
                    refine sc_reg ?_
                    refine Go.XK.s (v := .int .i64 (k : Int)) (e_move rfl) ?_
                    refine Go.XK.s (v := .int .i64 ((k : Int) + 1)) (e_add rfl rfl (by omega)) ?_
                    refine Go.XK.s (v := .int .i64 ((k : Int) + 1)) (e_assign rfl) ?_
                    refine sl_nil ?_
                    exact nrm_loopq rfl _ _ (by omega) ⟨k + 1, plc y.d 0, (q.take (plc y.d 1 + plc y.d 2).toNat).drop (plc y.d 1).toNat, pre ++ [(⟨nonCE (decR us).1, AY, cY, (.slice AD3 (((decR us).1).length) cD3), (decR us).1, w1.heap.size⟩ : Yl)], rfl, rfl, hb1, hb2, hb3, hbw, hub, ⟨⟨by omega, by simp; omega⟩, hAt2, hJ2⟩⟩ (.cons rfl (.cons rfl (.cons rfl (.cons rfl (.cons rfl (.nil))))))

end Go.Proofs.Ytnbclhbpjlpcoaa
