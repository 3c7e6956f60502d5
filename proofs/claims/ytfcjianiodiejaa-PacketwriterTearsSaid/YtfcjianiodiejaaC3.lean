/- Chapter 52: C3. Printed by my program wip/tools/wk.py. -/
import Derived.Test.YtfcjianiodiejaaC2
set_option linter.unusedVariables false
set_option linter.unusedSimpArgs false
set_option maxRecDepth 4000
set_option maxHeartbeats 4000000
namespace Go.Proofs.Ytfcjianiodiejaa
open Go.XK Go.RowKit
def cutR (im : Img) (ws : List Wr) (z : Int) : Img × Int := if valid im ws = false then ([], 1) else if z < 0 ∨ ((stL ws).length : Int) < z then ([], 2) else (cutL (stL ws) z.toNat im, 0)
theorem cut_close {pre : List Stp} {s : Stp} {n : Nat} {im : Img} (h : pre.length ≤ n) (hc : s.cl = true) : cutL (pre ++ [s]) n im = cutL pre n im := by
  rcases Nat.lt_or_eq_of_le h with h | h
  · rw [cutL_lt _ _ _ _ h, putS, if_pos hc]
  · subst h
    rw [cutL_eq, tear, if_pos hc]
theorem cut_put {pre : List Stp} {s : Stp} {n : Nat} {im : Img} (h : pre.length < n) (hc : s.cl = false) : cutL (pre ++ [s]) n im = putI (cutL pre n im) s.p s.b := by
  rw [cutL_lt _ _ _ _ h, putS, if_neg (by simp [hc])]
theorem cut_tear {pre : List Stp} {s : Stp} {n : Nat} {im : Img} (h : pre.length = n) (hc : s.cl = false) : cutL (pre ++ [s]) n im = putI (cutL pre n im) s.p [33] := by
  subst h
  rw [cutL_eq, tear, if_neg (by simp [hc])]

/-- masterdisc/packetwriter.steps$1 (function 78) -/
theorem iter_walk (w0 : World) (ws : List Wr) (Aw : Option Addr) (cw b id : Nat) (J Jx : List (StpIn (stL ws)) → World → Prop) (w : World) (hw : SlR w0 Aw cw 4 encW ws) (hin : Inn w0 ws) (hub : Ub w0 w) (hb : Blk w b 24 [.slice Aw ws.length cw]) (hJE : ∀ pre A B, J pre A → Ext A B → J pre B) (hY : ∀ (pre : List (StpIn (stL ws))) (x : StpIn (stL ws)) (W1 : World), J pre W1 → pre.length < (stL ws).length → YieldAt (WR none) 0 Try.prog id [.agg (encT x.1).toArray].toArray W1 fun e W' => ∃ v, e = .returned v ∧ ((v = .bool true ∧ J (pre ++ [x]) W' ∧ KpT [24, 49] w0.heap.size W1 W') ∨ (v = .bool false ∧ Jx (pre ++ [x]) W'))) (h0 : J [] w) : CallR Try.prog 78 [.func (.yield id) #[] #[], .pointer (some ⟨b, 0, none⟩)] w (fun v w' => (∃ xs, raw xs = stL ws ∧ J xs w') ∨ (∃ pre, raw pre <+: stL ws ∧ Jx pre w')) := by
  have hmx0 := hw.lenle
  simp only [maxLen] at hmx0
  refine callR_of (n := 40) [(0, .func (.yield id) #[] #[]), (1, .pointer (some ⟨b, 0, none⟩))] Try.func78 rfl rfl (Nat.le_of_ble_eq_true rfl) rfl ?_
  refine sc_seq ?_
  refine sc_reg ?_
  refine Go.XK.s (v := .slice Aw ws.length cw) (e_load rfl (load1 Try.isAgg24 (hb.cell (j := 0) rfl))) ?_
  refine Go.XK.s (v := .int .i64 (ws.length : Int)) (e_len Try.underlying24 rfl) ?_
  refine Go.XK.s (v := .int .i64 0) (e_move rfl) ?_
  refine sl_nil (nrm_k ?_)
  refine sc_block ?_
  refine sc_loop (fun m_ l_ w_ => ∃ (i : Nat) (pre : List (StpIn (stL ws))), m_ = ws.length - i ∧ l_ = [(9, .int .i64 (i : Int)), (0, .func (.yield id) #[] #[]), (7, .slice Aw ws.length cw), (8, .int .i64 (ws.length : Int))] ∧ Blk w_ b 24 [.slice Aw ws.length cw] ∧ Ub w0 w_ ∧ (i ≤ ws.length ∧ raw pre = stL (ws.take i)) ∧ J pre w_) _ [(9, .int .i64 (0 : Int)), (0, .func (.yield id) #[] #[]), (7, .slice Aw ws.length cw), (8, .int .i64 (ws.length : Int))] ⟨0, [], rfl, rfl, hb, hub, ⟨⟨by omega, rfl⟩, h0⟩⟩ (.cons rfl (.cons rfl (.cons rfl (.cons rfl (.nil))))) ?_
  rintro j2 _ w1 ⟨i, pre, rfl, rfl, hb, hub, ⟨⟨hi, hraw⟩, hJ⟩⟩
  refine sc_seq ?_
  refine sc_reg ?_
  refine Go.XK.s (v := .bool (decide ((i : Int) < (ws.length : Int)))) (e_lt rfl rfl) ?_
  refine sl_nil (nrm_k ?_)
  refine sc_seq ?_
  refine sc_ifd rfl (fun c10 => ?_) (fun c10 => ?_)
  ·
    obtain ⟨x, hx⟩ : ∃ x, ws[i]? = some x := ⟨_, List.getElem?_eq_getElem (by omega)⟩
    have hin_x := hin x (List.mem_of_getElem? hx)
    have hmx2 := hin_x.lenle
    simp only [maxLen] at hmx2
    refine sc_skip (nrm_k ?_)
    refine sc_seq ?_
    refine sc_block ?_
    refine sc_seq ?_
    refine sc_reg ?_
    refine Go.XK.s (v := .pointer (some (el Aw 4 (i : Int) 0))) (e_idxEl (e := x) Try.underlying24 Try.sizeOf49 rfl rfl (Go.XK.Rd.ub hw.1 hub) hx (by omega) rfl) ?_
    refine Go.XK.s (v := .agg #[.int .i64 x.p, .slice x.A x.bl.length x.c, .bool x.sy, .bool x.cl]) (e_ldElA (xs := ws) (enc := encW) (e := x) rfl (Go.XK.Rd.ub hw.1 hub) hx Try.isAgg49 Try.sizeOf49 rfl) ?_
    refine s_alloc (cs := [.int .i64 0, .slice none 0 0, .bool false, .bool false]) Try.zeroValue49 rfl ?_
    intro b4 w3 hb4 he4 hs4 hx4
    have ne_b4_b : b4 ≠ b := by have h_ := hb.lt; omega
    have geu_b4 : w0.heap.size ≤ b4 := by have h_ := Ub.size hub; omega
    have gew1_b4 : w1.heap.size ≤ b4 := by have h_ := (Below.size (Ext.rfl' w1)); omega
    have xw1_w3 : Ext w1 w3 := Ext.tr (Ext.rfl' w1) hx4
    replace hb := hb.ext hx4
    replace hub := hub.ext hx4
    refine su_blkV [.int .i64 x.p, .slice x.A x.bl.length x.c, .bool x.sy, .bool x.cl] [.int .i64 x.p, .slice x.A x.bl.length x.c, .bool x.sy, .bool x.cl] rfl rfl hb4 rfl Try.sizeOf49 (Nat.le_of_ble_eq_true rfl) rfl rfl ?_
    intro w4 hn_ hm_w4 hs_w4
    have ho_ := hb4
    replace hb4 := hn_
    clear hn_
    replace hb := hb.mut hm_w4 (Ne.symm ne_b4_b)
    replace hub := Ub.mut hub hm_w4 geu_b4
    have xw1_w4 : Ext w1 w4 := below_mut xw1_w3 (Below.size xw1_w3) hm_w4 gew1_b4
    refine sl_nil (nrm_k ?_)
    refine sc_seq ?_
    refine sc_seq ?_
    refine sc_reg ?_
    refine Go.XK.s (v := .pointer (some ⟨b4, 1, none⟩)) (e_fieldB (sz := 1) Try.underlying49 rfl Try.sizeOf22 (by decide) rfl rfl) ?_
    refine Go.XK.s (v := .slice x.A x.bl.length x.c) (e_load rfl (load1 Try.isAgg22 (hb4.cell (j := 1) rfl))) ?_
    refine Go.XK.s (v := .int .i64 (x.bl.length : Int)) (e_len Try.underlying22 rfl) ?_
    refine Go.XK.s (v := .int .i64 0) (e_move rfl) ?_
    refine sl_nil (nrm_k ?_)
    refine sc_block ?_
    refine sc_loop (fun m_ l_ w_ => ∃ (k : Nat) (pre2 : List (StpIn (stL ws))), m_ = x.bl.length - k ∧ l_ = [(16, .int .i64 (k : Int)), (0, .func (.yield id) #[] #[]), (4, .pointer (some ⟨b4, 0, none⟩)), (7, .slice Aw ws.length cw), (8, .int .i64 (ws.length : Int)), (9, .int .i64 (i : Int)), (14, .slice x.A x.bl.length x.c), (15, .int .i64 (x.bl.length : Int))] ∧ Blk w_ b 24 [.slice Aw ws.length cw] ∧ Blk w_ b4 49 [.int .i64 x.p, .slice x.A x.bl.length x.c, .bool x.sy, .bool x.cl] ∧ Ub w0 w_ ∧ (k ≤ x.bl.length ∧ raw pre2 = stL (ws.take i) ++ stB x.p (x.bl.take k)) ∧ J pre2 w_) _ [(16, .int .i64 (0 : Int)), (0, .func (.yield id) #[] #[]), (4, .pointer (some ⟨b4, 0, none⟩)), (7, .slice Aw ws.length cw), (8, .int .i64 (ws.length : Int)), (9, .int .i64 (i : Int)), (14, .slice x.A x.bl.length x.c), (15, .int .i64 (x.bl.length : Int))] ⟨0, pre, rfl, rfl, hb, hb4, hub, ⟨⟨by omega, by rw [hraw]; simp [stB]⟩, hJE _ _ _ hJ xw1_w4⟩⟩ (.cons rfl (.cons rfl (.cons rfl (.cons rfl (.cons rfl (.cons rfl (.cons rfl (.cons rfl (.nil))))))))) ?_
    rintro j6 _ w5 ⟨k, pre2, rfl, rfl, hb, hb4, hub, ⟨⟨hk, hraw2⟩, hJ2⟩⟩
    refine sc_seq ?_
    refine sc_reg ?_
    refine Go.XK.s (v := .bool (decide ((k : Int) < (x.bl.length : Int)))) (e_lt rfl rfl) ?_
    refine sl_nil (nrm_k ?_)
    refine sc_seq ?_
    refine sc_ifd rfl (fun c17 => ?_) (fun c17 => ?_)
    ·
      obtain ⟨y, hy⟩ : ∃ y, x.bl[k]? = some y := ⟨_, List.getElem?_eq_getElem (by omega)⟩
      have hpr : raw pre2 ++ [⟨wr64 (x.p + (k : Int)), y, false⟩] <+: stL ws := by rw [hraw2]; exact pre_snoc hx hy
      refine sc_skip (nrm_k ?_)
      refine sc_seq ?_
      refine sc_block ?_
      refine sc_seq ?_
      refine sc_reg ?_
      refine Go.XK.s (v := .int .i64 (k : Int)) (e_move rfl) ?_
      refine Go.XK.s (v := .pointer (some (el x.A 1 (k : Int) 0))) (e_idxEl (e := y) Try.underlying22 Try.sizeOf9 rfl rfl (Go.XK.Rd.ub hin_x.1 hub) hy (by omega) rfl) ?_
      refine Go.XK.s (v := .string (B y)) (e_ldEl (xs := x.bl) (enc := encS) (e := y) rfl (Go.XK.Rd.ub hin_x.1 hub) hy Try.isAgg9 rfl) ?_
      refine Go.XK.s (v := .int .i64 (k : Int)) (e_assign rfl) ?_
      refine Go.XK.s (v := .string (B y)) (e_assign rfl) ?_
      refine sl_nil (nrm_k ?_)
      refine sc_seq ?_
      refine sc_reg ?_
      refine Go.XK.s (v := .func (.yield id) #[] #[]) (e_move rfl) ?_
      refine Go.XK.s (v := .pointer (some ⟨b4, 0, none⟩)) (e_fieldB (sz := 1) Try.underlying49 rfl Try.sizeOf3 (by decide) rfl rfl) ?_
      refine Go.XK.s (v := .int .i64 x.p) (e_load rfl (load1 Try.isAgg3 (hb4.cell (j := 0) rfl))) ?_
      refine Go.XK.s (v := .int .i64 (k : Int)) (e_move rfl) ?_
      refine Go.XK.s (v := .int .i64 (IntKind.i64.wrap (x.p + (k : Int)))) (e_addw rfl rfl) ?_
      refine Go.XK.s (v := .string (B y)) (e_move rfl) ?_
      refine Go.XK.s (v := .agg #[.int .i64 (IntKind.i64.wrap (x.p + (k : Int))), .string (B y), .bool false]) (e_build (vs := [(0, .int .i64 (IntKind.i64.wrap (x.p + (k : Int)))), (1, .string (B y))]) rfl (by kernel_rfl)) ?_
      have hmem_ := mem_pre hpr
      refine sl_yield (R := fun v W' => ∃ ok : Bool, v = .bool ok ∧ (ok = true → J (pre2 ++ [⟨⟨wr64 (x.p + (k : Int)), y, false⟩, hmem_⟩]) W' ∧ KpT [24, 49] w0.heap.size w5 W') ∧ (ok = false → Jx (pre2 ++ [⟨⟨wr64 (x.p + (k : Int)), y, false⟩, hmem_⟩]) W')) rfl rfl (YieldAt.mono (hY pre2 ⟨⟨wr64 (x.p + (k : Int)), y, false⟩, hmem_⟩ w5 hJ2 (by have h_ := len_pre hpr; rw [raw_length] at h_; exact h_)) ?_) (by decide) ?_
      · rintro e W' ⟨v, rfl, (⟨rfl, h1, h2⟩ | ⟨rfl, h1⟩)⟩
        · exact ⟨_, rfl, true, rfl, fun _ => ⟨h1, h2⟩, fun h_ => by cases h_⟩
        · exact ⟨_, rfl, false, rfl, (fun h_ => by cases h_), fun _ => h1⟩
      rintro _ wY7 ⟨ok, rfl, hgo, hstop⟩
      refine Go.XK.s (v := .bool (!ok)) (e_not rfl) ?_
      refine sl_nil (nrm_k ?_)
      refine sc_if rfl (fun c29 => ?_) (fun c29 => ?_)
      ·
        have hok : ok = false := by simpa using c29
        refine sc_retf rfl (ret0 Try.results78  ?_)
        exact .inr ⟨_, by rw [raw_snoc]; exact hpr, hstop hok⟩
      ·
        have hok : ok = true := by simpa using c29
        obtain ⟨_, hK⟩ := hgo hok
        replace hb := hK.blk hb (by decide)
        replace hb4 := hK.blk hb4 (by decide)
        replace hub := Ub.kp hub hK
        refine sc_skip (nrm_k ?_)
        refine sc_reg ?_
        refine Go.XK.s (v := .int .i64 ((k : Int) + 1)) (e_add rfl rfl (by omega)) ?_
        refine Go.XK.s (v := .int .i64 ((k : Int) + 1)) (e_move rfl) ?_
        refine sl_nil ?_
        exact nrm_loopq rfl _ _ (by omega) ⟨k + 1, pre2 ++ [⟨⟨wr64 (x.p + (k : Int)), y, false⟩, hmem_⟩], rfl, rfl, hb, hb4, hub, ⟨⟨by omega, by rw [raw_snoc, hraw2, stB_take hy, List.append_assoc]⟩, (hgo hok).1⟩⟩ (.cons rfl (.cons rfl (.cons rfl (.cons rfl (.cons rfl (.cons rfl (.cons rfl (.cons rfl (.nil)))))))))
    ·
      rw [List.take_of_length_le (show x.bl.length ≤ k by omega)] at hraw2
      refine sc_exit rfl (nrm_k ?_)
      refine sc_seq ?_
      refine sc_reg ?_
      refine Go.XK.s (v := .pointer (some ⟨b4, 3, none⟩)) (e_fieldB (sz := 1) Try.underlying49 rfl Try.sizeOf4 (by decide) rfl rfl) ?_
      refine Go.XK.s (v := .bool x.cl) (e_load rfl (load1 Try.isAgg4 (hb4.cell (j := 3) rfl))) ?_
      refine Go.XK.s (v := .bool x.cl) (e_move rfl) ?_
      refine sl_case (t := 33) rfl (fun g8_2 => ?_) (fun g8_2 => ?_)
      ·
        have hpr : raw pre2 ++ [⟨0, [], true⟩] <+: stL ws := by rw [hraw2]; exact pre_close hx g8_2
        refine sl_gev (v := .func (.yield id) #[] #[]) rfl rfl g8_2 (e_move rfl) rfl (by decide) ?_
        refine sl_gev (v := .agg #[.int .i64 0, .string (B []), .bool true]) rfl rfl g8_2 (e_build (vs := [(2, .bool true)]) rfl (by kernel_rfl)) rfl (by decide) ?_
        have hmem_ := mem_pre hpr
        refine sl_gyield rfl rfl g8_2 (R := fun v W' => ∃ ok : Bool, v = .bool ok ∧ (ok = true → J (pre2 ++ [⟨⟨0, [], true⟩, hmem_⟩]) W' ∧ KpT [24, 49] w0.heap.size w5 W') ∧ (ok = false → Jx (pre2 ++ [⟨⟨0, [], true⟩, hmem_⟩]) W')) rfl rfl (YieldAt.mono (hY pre2 ⟨⟨0, [], true⟩, hmem_⟩ w5 hJ2 (by have h_ := len_pre hpr; rw [raw_length] at h_; exact h_)) ?_) (by decide) ?_
        · rintro e W' ⟨v, rfl, (⟨rfl, h1, h2⟩ | ⟨rfl, h1⟩)⟩
          · exact ⟨_, rfl, true, rfl, fun _ => ⟨h1, h2⟩, fun h_ => by cases h_⟩
          · exact ⟨_, rfl, false, rfl, (fun h_ => by cases h_), fun _ => h1⟩
        rintro _ wY8 ⟨ok, rfl, hgo, hstop⟩
        refine sl_gev (v := .bool (!ok)) rfl rfl g8_2 (e_not rfl) rfl (by decide) ?_
        refine Go.XK.s (v := .bool (!ok)) (e_pickT rfl g8_2 rfl) ?_
        refine sl_nil (nrm_k ?_)
        refine sc_if rfl (fun c38 => ?_) (fun c38 => ?_)
        ·
          have hok : ok = false := by simpa using c38
          refine sc_retf rfl (ret0 Try.results78  ?_)
          exact .inr ⟨_, by rw [raw_snoc]; exact hpr, hstop hok⟩
        ·
          have hok : ok = true := by simpa using c38
          obtain ⟨_, hK⟩ := hgo hok
          replace hb := hK.blk hb (by decide)
          replace hb4 := hK.blk hb4 (by decide)
          replace hub := Ub.kp hub hK
          refine sc_skip (nrm_k ?_)
          refine sc_reg ?_
          refine Go.XK.s (v := .int .i64 ((i : Int) + 1)) (e_add rfl rfl (by omega)) ?_
          refine Go.XK.s (v := .int .i64 ((i : Int) + 1)) (e_move rfl) ?_
          refine sl_nil ?_
          exact nrm_loopq rfl _ _ (by omega) ⟨i + 1, pre2 ++ [⟨⟨0, [], true⟩, hmem_⟩], rfl, rfl, hb, hub, ⟨⟨by omega, by simp [raw_snoc, hraw2, stL_take hx, stW, g8_2]⟩, (hgo hok).1⟩⟩ (.cons rfl (.cons rfl (.cons rfl (.cons rfl (.nil)))))
      ·
        refine sl_gskip rfl rfl g8_2 (by decide) ?_
        refine sl_gskip rfl rfl g8_2 (by decide) ?_
        refine sl_gskip rfl rfl g8_2 (by decide) ?_
        refine sl_gskip rfl rfl g8_2 (by decide) ?_
        refine Go.XK.s (v := .bool false) (e_pickF rfl g8_2 rfl) ?_
        refine sl_nil (nrm_k ?_)
        refine sc_no rfl rfl ?_
        refine sc_skip (nrm_k ?_)
        refine sc_reg ?_
        refine Go.XK.s (v := .int .i64 ((i : Int) + 1)) (e_add rfl rfl (by omega)) ?_
        refine Go.XK.s (v := .int .i64 ((i : Int) + 1)) (e_move rfl) ?_
        refine sl_nil ?_
        exact nrm_loopq rfl _ _ (by omega) ⟨i + 1, pre2, rfl, rfl, hb, hub, ⟨⟨by omega, by simp [hraw2, stL_take hx, stW, g8_2]⟩, hJ2⟩⟩ (.cons rfl (.cons rfl (.cons rfl (.cons rfl (.nil)))))
  ·
    refine sc_exit rfl ?_
    refine nrm_f rfl (ret0 Try.results78 ?_)
    exact .inl ⟨pre, by rw [hraw, List.take_of_length_le (by omega)], hJ⟩

theorem iter_c (ws : List Wr) (Aw : Option Addr) (cw b : Nat) (w0 w : World) (hw : SlR w0 Aw cw 4 encW ws) (hin : Inn w0 ws) (hx : Ext w0 w) (hb : Blk w b 24 [.slice Aw ws.length cw]) :
    Iter Try.prog 78 [.pointer (some ⟨b, 0, none⟩)] (fun x : StpIn (stL ws) => [.agg (encT x.1).toArray]) (KpT [24, 49] w0.heap.size) (fun xs => raw xs = stL ws) (fun pre => raw pre <+: stL ws) (stL ws).length w :=
  iter_of2 fun id J Jx W hW hJE hY h0 => iter_walk w0 ws Aw cw b id J Jx W hw hin (Ub.ext (Ub.ofExt hx) hW) (hb.ext hW) hJE hY h0

/-- masterdisc/packetwriter.Steps (function 19) -/
theorem steps2_c (ws : List Wr) (Aw : Option Addr) (cw : Nat) (w : World) (hw : SlR w Aw cw 4 encW ws) (hin : Inn w ws) (hs : (stL ws).length ≤ 4611686018427387904) : CallR Try.prog 19 [.slice Aw ws.length cw] w (fun v w' => v = .int .i64 ((stL ws).length : Int) ∧ Ext w w') := by
  have hmx0 := hw.lenle
  simp only [maxLen] at hmx0
  refine callR_ofM (n := 10) [(0, .slice Aw ws.length cw)] Try.func19 rfl rfl (Nat.le_of_ble_eq_true rfl) rfl ?_
  refine sc_seq ?_
  refine sc_reg ?_
  refine Go.XK.s (v := .int .i64 0) (e_assign rfl) ?_
  refine sl_nil (nrm_k ?_)
  refine sc_seq ?_
  refine sc_reg ?_
  refine s_alloc (cs := [.int .i64 0]) Try.zeroValue3 rfl ?_
  intro b3 w1 hb3 he3 hs3 hx3
  have ge_b3 : w.heap.size ≤ b3 := by have h_ := (Below.size (Ext.rfl' w)); omega
  have xw_w1 : Ext w w1 := Ext.tr (Ext.rfl' w) hx3
  refine su_blkV [.int .i64 0] [.int .i64 0] rfl rfl hb3 rfl Try.sizeOf3 (Nat.le_of_ble_eq_true rfl) rfl rfl ?_
  intro w2 hn_ hm_w2 hs_w2
  have ho_ := hb3
  replace hb3 := hn_
  clear hn_
  have xw_w2 : Ext w w2 := below_mut xw_w1 (Below.size xw_w1) hm_w2 ge_b3
  refine sl_nil (nrm_k ?_)
  refine sc_seq ?_
  refine sc_seq ?_
  refine sc_reg ?_
  refine Go.XK.s (v := .slice Aw ws.length cw) (e_move rfl) ?_
  refine sl_call ent58 rfl rfl (steps_c _ _ _ w2) (by decide) ?_
  rintro _ w3 ⟨b58, rfl, hb58, hg58, hw3⟩
  have ne_b58_b3 : b58 ≠ b3 := by have h_ := hb3.lt; omega
  have ge_b58 : w.heap.size ≤ b58 := by have h_ := Below.size xw_w2; omega
  have xw_w3 : Ext w w3 := Ext.tr xw_w2 hw3
  replace hb3 := hb3.ext hw3
  refine sl_nil (nrm_k ?_)
  refine sc_block ?_
  have hB5_ : w.heap.size ≤ w3.heap.size := Below.size xw_w3
  refine sc_rangeFx (α := StpIn (stL ws)) (β := Unit) (lb := [.pointer (some ⟨b58, 0, none⟩)]) (ps := [6]) (fun x => [.agg (encT x.1).toArray]) (KpT [24, 49] w.heap.size) (fun xs => raw xs = stL ws) (fun pre => raw pre <+: stL ws) ((stL ws).length) (fun (pre : List (StpIn (stL ws))) (W : World) => Ext w W ∧ Blk W b3 3 [.int .i64 (pre.length : Int)] ∧ Blk W b58 24 [.slice Aw ws.length cw]) 99 (fun _ _ => False) (fun _ _ => False) (fun x _ => [(2, .int .i64 0), (3, .pointer (some ⟨b3, 0, none⟩))]) (fun x _ W => True) rfl ent78 (iter_c ws Aw cw b58 w w3 hw hin xw_w3 hb58) (fun _ => rfl) (by decide) KpT.tr (KpT.put hB5_) (by rintro pre_ A_ B_ row_ ⟨xw_W, hb3, hb58⟩ hg_ hr_; exact ⟨ext_rowed xw_W hg_ hr_ hB5_, Blk.rowed hb3 hg_ hr_, Blk.rowed hb58 hg_ hr_⟩) (fun _ _ _ _ h_ _ _ => h_.elim) (fun _ _ _ _ h_ _ _ => h_.elim) (fun _ _ _ _ _ _ _ _ _ => trivial) ⟨xw_w3, hb3, hb58⟩ ?_ ?_ ?_ ?_ ?_
  · intro id pre x W hI_
    exact sc_skip (fun a_ ha_ => ⟨KeepsFrom.refl _ _, KpT.rfl' _, hI_, (), trivial, ha_.sub (.cons rfl (.cons rfl (.nil)))⟩)
  · intro id pre x u_ W hI_ hbx hlt
    obtain ⟨xw_W, hb3, hb58⟩ := hI_
    refine sc_block ?_
    refine sc_reg ?_
    refine Go.XK.s (v := .int .i64 (pre.length : Int)) (e_load rfl (load1 Try.isAgg3 (hb3.cell (j := 0) rfl))) ?_
    refine Go.XK.s (v := .int .i64 ((pre.length : Int) + 1)) (e_add rfl rfl (by have h_ := hlt; omega)) ?_
    refine su_blkV [.int .i64 ((pre.length : Int) + 1)] [.int .i64 ((pre.length : Int) + 1)] rfl rfl hb3 rfl Try.sizeOf3 (Nat.le_of_ble_eq_true rfl) rfl rfl ?_
    intro w4 hn_ hm_w4 hs_w4
    have ho_ := hb3
    replace hb3 := hn_
    clear hn_
    replace hb58 := hb58.mut hm_w4 ne_b58_b3
    have nW_w4 : NC W w4 := NC.tr (NC.rfl' W) (NC.ofMut hm_w4 ho_)
    have kW_w4 : KpT [24, 49] w.heap.size W w4 := KpT.tr (KpT.rfl' W) (KpT.ofMut hm_w4 ho_ ge_b3 (by decide))
    have xw_w4 : Ext w w4 := below_mut xw_W (Below.size xw_W) hm_w4 ge_b3
    refine sl_nil ?_
    have hlen_ : ((pre ++ [x]).length : Int) = (pre.length : Int) + 1 := by simp
    rw [← hlen_] at hb3
    exact fun a_ ha_ => ⟨NC.keeps nW_w4 _, kW_w4, ⟨xw_w4, hb3, hb58⟩⟩
  · intro D xs W hDle hS hI_ hDD
    obtain ⟨xw_W, hb3, hb58⟩ := hI_
    refine nrm_k ?_
    refine sc_seq ?_
    refine sc_reg ?_
    refine Go.XK.s (v := .int .i64 (xs.length : Int)) (e_load rfl (load1 Try.isAgg3 (hb3.cell (j := 0) rfl))) ?_
    refine Go.XK.s (v := .int .i64 (xs.length : Int)) (e_assign rfl) ?_
    refine sl_nil (nrm_k ?_)
    replace hDD := (NC.rfl' W).2 _ _ hDD rfl
    obtain ⟨wz, hwz⟩ : ∃ wz, wz = World.putObj W D (.deferred none) := ⟨_, rfl⟩
    have hmz : Mut W wz D := by rw [hwz]; exact mut_put _ _ _
    replace hb3 := hb3.mut hmz (hb3.ne_of hDD rfl)
    replace hb58 := hb58.mut hmz (hb58.ne_of hDD rfl)
    have xw_wz : Ext w wz := below_mut xw_W (Below.size xw_W) hmz (Nat.le_trans hB5_ hDle)
    refine sc_retMk rfl hDD ?_
    rw [← hwz]
    refine ret1 Try.results19 (rvt rfl) ?_
    have hle_ := raw_length xs
    rw [hS] at hle_
    exact ⟨congrArg (Value.int .i64) (by rw [hle_]), xw_wz⟩
  · intro D pre W hDle hS hI_ hDD
    exact hI_.elim
  · intro D pre W hDle hS hI_ hDD
    exact hI_.elim

/-- masterdisc/packetwriter.Cut (function 16) -/
theorem cut_c (im : Img) (A : Option Addr) (c : Nat) (ws : List Wr) (Aw : Option Addr) (cw : Nat) (z : Int) (w : World) (hl : SlR w A c 1 encS im) (hw : SlR w Aw cw 4 encW ws) (hin : Inn w ws) : CallR Try.prog 16 [.slice A im.length c, .slice Aw ws.length cw, .int .i64 z] w (fun v w' => ∃ v1, v = .tuple #[v1, .int .i64 (cutR im ws z).2] ∧ Go.XK.Own w' w.heap.size 9 1 encS v1 (cutR im ws z).1 ∧ Ext w w') := by
  have hmx0 := hl.lenle
  simp only [maxLen] at hmx0
  have hmx1 := hw.lenle
  simp only [maxLen] at hmx1
  refine callR_ofM (n := 51) [(0, .slice A im.length c), (1, .slice Aw ws.length cw), (2, .int .i64 z)] Try.func16 rfl rfl (Nat.le_of_ble_eq_true rfl) rfl ?_
  refine sc_seq ?_
  refine sc_reg ?_
  refine s_box (cs := [.int .i64 z]) rfl rfl ?_
  intro b5 w1 hb5 he5 hs5 hx5
  have ge_b5 : w.heap.size ≤ b5 := by have h_ := (Below.size (Ext.rfl' w)); omega
  have xw_w1 : Ext w w1 := Ext.tr (Ext.rfl' w) hx5
  refine Go.XK.s (v := .slice none 0 0) (e_assign rfl) ?_
  refine Go.XK.s (v := .int .i64 0) (e_assign rfl) ?_
  refine sl_nil (nrm_k ?_)
  refine sc_seq ?_
  refine sc_seq ?_
  refine sc_reg ?_
  refine Go.XK.s (v := .slice A im.length c) (e_move rfl) ?_
  refine Go.XK.s (v := .slice Aw ws.length cw) (e_move rfl) ?_
  refine sl_call ent17 rfl rfl (valid_c _ _ _ _ _ _ w1 (hl.ext xw_w1) (hw.ext xw_w1) (hin.ext xw_w1)) (by decide) ?_
  rintro _ w2 ⟨rfl, hw2⟩
  have xw_w2 : Ext w w2 := Ext.tr xw_w1 hw2
  replace hb5 := hb5.ext hw2
  refine Go.XK.s (v := .bool (!(valid im ws))) (e_not rfl) ?_
  refine sl_nil (nrm_k ?_)
  refine sc_if rfl (fun c14 => ?_) (fun c14 => ?_)
  ·
    refine sc_seq ?_
    refine sc_reg ?_
    refine Go.XK.s (v := .slice none 0 0) (e_assign rfl) ?_
    refine Go.XK.s (v := .int .i64 1) (e_assign rfl) ?_
    refine sl_nil (nrm_k ?_)
    refine sc_retM rfl (ret2 Try.results16 (rvt rfl) (rvt rfl) ?_)
    have hcR : cutR im ws z = ([], 1) := by
      rw [cutR, if_pos (by simpa using c14)]
    exact ⟨.slice none 0 0, by rw [hcR], by rw [hcR]; exact Go.XK.Own.nil _ _ _ _ _, xw_w2⟩
  ·
    have hv : valid im ws = true := by simpa using c14
    obtain ⟨hm1, hm2, hm3, hokw⟩ := valid_spec hv
    have hmL := valid_len hv
    refine sc_skip (nrm_k ?_)
    refine sc_seq ?_
    refine sc_seq ?_
    rcases Classical.em (z < 0) with g3 | g3
    ·
      refine sc_free [(14, .bool (!(valid im ws))), (13, .bool (valid im ws)), (12, .slice Aw ws.length cw), (11, .slice A im.length c), (7, .int .i64 0), (6, .slice none 0 0), (5, .pointer (some ⟨b5, 0, none⟩)), (0, .slice A im.length c), (1, .slice Aw ws.length cw), (2, .int .i64 z)] [15, 16, 17, 18, 19, 20, 21, 22] [(Is (.int .i64 z)), (Is (.bool (decide (z < 0)))), (Is (.bool (decide (z < 0)))), (Is undef), (Is undef), (Is undef), (Is undef), (Is (.bool true))] [] (by kernel_rfl) (Sub.refl _) (by kernel_rfl) (by kernel_rfl) (by kernel_rfl) rfl (by kernel_rfl) (ds_ext (Stays.spec (.is _ (.is _ (.is _ (.is _ (.is _ (.is _ (.is _ (.is _ (.nil))))))))))) ⟨?_, ?_, ?_, ?_, ?_, ?_, ?_, ?_, trivial⟩ ?_
      · intro Q act_ wI hxI ha hp
        have xw_wI : Ext w wI := Ext.tr xw_w2 hxI
        replace hb5 := hb5.ext hxI
        exact h_evA (v := .int .i64 z) ha rfl (e_load rfl (load1 Try.isAgg3 (hb5.cell (j := 0) rfl))) rfl rfl (Ext.rfl' _)
      · intro Q act_ wI hxI ha hp
        have xw_wI : Ext w wI := Ext.tr xw_w2 hxI
        replace hb5 := hb5.ext hxI
        have ha := ha.add (show act_.tmps.getD 15 undef = .int .i64 z from hp 0 (by kernel_rfl) (by decide))
        exact h_evA (v := .bool (decide (z < 0))) ha rfl (e_lt rfl rfl) rfl rfl (Ext.rfl' _)
      · intro Q act_ wI hxI ha hp
        have xw_wI : Ext w wI := Ext.tr xw_w2 hxI
        replace hb5 := hb5.ext hxI
        have ha := ha.add (show act_.tmps.getD 16 undef = .bool (decide (z < 0)) from hp 1 (by kernel_rfl) (by decide))
        exact h_evA (v := .bool (decide (z < 0))) ha rfl (e_move rfl) rfl rfl (Ext.rfl' _)
      · intro Q act_ wI hxI ha hp
        have xw_wI : Ext w wI := Ext.tr xw_w2 hxI
        replace hb5 := hb5.ext hxI
        have ha := ha.add (show act_.tmps.getD 17 undef = .bool (decide (z < 0)) from hp 2 (by kernel_rfl) (by decide))
        exact h_gskip rfl rfl rfl (decide_eq_true g3) ha rfl rfl
      · intro Q act_ wI hxI ha hp
        have xw_wI : Ext w wI := Ext.tr xw_w2 hxI
        replace hb5 := hb5.ext hxI
        have ha := ha.add (show act_.tmps.getD 17 undef = .bool (decide (z < 0)) from hp 2 (by kernel_rfl) (by decide))
        exact h_gskip rfl rfl rfl (decide_eq_true g3) ha rfl rfl
      · intro Q act_ wI hxI ha hp
        have xw_wI : Ext w wI := Ext.tr xw_w2 hxI
        replace hb5 := hb5.ext hxI
        have ha := ha.add (show act_.tmps.getD 17 undef = .bool (decide (z < 0)) from hp 2 (by kernel_rfl) (by decide))
        have ha := ha.add (show act_.tmps.getD 19 undef = undef from hp 4 (by kernel_rfl) (by decide))
        exact h_gskip rfl rfl rfl (decide_eq_true g3) ha rfl rfl
      · intro Q act_ wI hxI ha hp
        have xw_wI : Ext w wI := Ext.tr xw_w2 hxI
        replace hb5 := hb5.ext hxI
        have ha := ha.add (show act_.tmps.getD 17 undef = .bool (decide (z < 0)) from hp 2 (by kernel_rfl) (by decide))
        have ha := ha.add (show act_.tmps.getD 18 undef = undef from hp 3 (by kernel_rfl) (by decide))
        have ha := ha.add (show act_.tmps.getD 20 undef = undef from hp 5 (by kernel_rfl) (by decide))
        exact h_gskip rfl rfl rfl (decide_eq_true g3) ha rfl rfl
      · intro Q act_ wI hxI ha hp
        have xw_wI : Ext w wI := Ext.tr xw_w2 hxI
        replace hb5 := hb5.ext hxI
        have ha := ha.add (show act_.tmps.getD 17 undef = .bool (decide (z < 0)) from hp 2 (by kernel_rfl) (by decide))
        have ha := ha.add (show act_.tmps.getD 21 undef = undef from hp 6 (by kernel_rfl) (by decide))
        exact h_evA (v := .bool true) ha rfl (e_pickT rfl (decide_eq_true g3) rfl) rfl rfl (Ext.rfl' _)
      intro vs_ w4 hx_w4 hvs act_ ha hv
      have xw_w4 : Ext w w4 := Ext.tr xw_w2 hx_w4
      replace hb5 := hb5.ext hx_w4
      have ha := ha.add ((hv 7 (by decide)).trans (show vs_ 7 = .bool true from hvs 7 (by decide)))
      refine st_go ha ?_
      clear ha hv hvs
      refine st_nil (nrm_k ?_)
      refine sc_yes rfl rfl ?_
      refine sc_seq ?_
      refine sc_reg ?_
      refine Go.XK.s (v := .slice none 0 0) (e_assign rfl) ?_
      refine Go.XK.s (v := .int .i64 2) (e_assign rfl) ?_
      refine sl_nil (nrm_k ?_)
      refine sc_retM rfl (ret2 Try.results16 (rvt rfl) (rvt rfl) ?_)
      have hcR : cutR im ws z = ([], 2) := by
        rw [cutR, if_neg (by simp [hv]), if_pos (by omega)]
      exact ⟨.slice none 0 0, by rw [hcR], by rw [hcR]; exact Go.XK.Own.nil _ _ _ _ _, xw_w4⟩
    ·
      refine sc_free [(14, .bool (!(valid im ws))), (13, .bool (valid im ws)), (12, .slice Aw ws.length cw), (11, .slice A im.length c), (7, .int .i64 0), (6, .slice none 0 0), (5, .pointer (some ⟨b5, 0, none⟩)), (0, .slice A im.length c), (1, .slice Aw ws.length cw), (2, .int .i64 z)] [15, 16, 17, 18, 19, 20, 21, 22] [(Is (.int .i64 z)), (Is (.bool (decide (z < 0)))), (Is (.bool (decide (z < 0)))), (Is (.int .i64 z)), (Is (.slice Aw ws.length cw)), (Is (.int .i64 ((stL ws).length : Int))), (Is (.bool (decide (((stL ws).length : Int) < z)))), (Is (.bool (decide (((stL ws).length : Int) < z))))] [] (by kernel_rfl) (Sub.refl _) (by kernel_rfl) (by kernel_rfl) (by kernel_rfl) rfl (by kernel_rfl) (ds_ext (Stays.spec (.is _ (.is _ (.is _ (.is _ (.is _ (.is _ (.is _ (.is _ (.nil))))))))))) ⟨?_, ?_, ?_, ?_, ?_, ?_, ?_, ?_, trivial⟩ ?_
      · intro Q act_ wI hxI ha hp
        have xw_wI : Ext w wI := Ext.tr xw_w2 hxI
        replace hb5 := hb5.ext hxI
        exact h_evA (v := .int .i64 z) ha rfl (e_load rfl (load1 Try.isAgg3 (hb5.cell (j := 0) rfl))) rfl rfl (Ext.rfl' _)
      · intro Q act_ wI hxI ha hp
        have xw_wI : Ext w wI := Ext.tr xw_w2 hxI
        replace hb5 := hb5.ext hxI
        have ha := ha.add (show act_.tmps.getD 15 undef = .int .i64 z from hp 0 (by kernel_rfl) (by decide))
        exact h_evA (v := .bool (decide (z < 0))) ha rfl (e_lt rfl rfl) rfl rfl (Ext.rfl' _)
      · intro Q act_ wI hxI ha hp
        have xw_wI : Ext w wI := Ext.tr xw_w2 hxI
        replace hb5 := hb5.ext hxI
        have ha := ha.add (show act_.tmps.getD 16 undef = .bool (decide (z < 0)) from hp 1 (by kernel_rfl) (by decide))
        exact h_evA (v := .bool (decide (z < 0))) ha rfl (e_move rfl) rfl rfl (Ext.rfl' _)
      · intro Q act_ wI hxI ha hp
        have xw_wI : Ext w wI := Ext.tr xw_w2 hxI
        replace hb5 := hb5.ext hxI
        have ha := ha.add (show act_.tmps.getD 17 undef = .bool (decide (z < 0)) from hp 2 (by kernel_rfl) (by decide))
        exact h_gevA (v := .int .i64 z) ha rfl rfl rfl (decide_eq_false g3) (e_load rfl (load1 Try.isAgg3 (hb5.cell (j := 0) rfl))) rfl rfl (Ext.rfl' _)
      · intro Q act_ wI hxI ha hp
        have xw_wI : Ext w wI := Ext.tr xw_w2 hxI
        replace hb5 := hb5.ext hxI
        have ha := ha.add (show act_.tmps.getD 17 undef = .bool (decide (z < 0)) from hp 2 (by kernel_rfl) (by decide))
        exact h_gevA (v := .slice Aw ws.length cw) ha rfl rfl rfl (decide_eq_false g3) (e_move rfl) rfl rfl (Ext.rfl' _)
      · intro Q act_ wI hxI ha hp
        have xw_wI : Ext w wI := Ext.tr xw_w2 hxI
        replace hb5 := hb5.ext hxI
        have ha := ha.add (show act_.tmps.getD 17 undef = .bool (decide (z < 0)) from hp 2 (by kernel_rfl) (by decide))
        have ha := ha.add (show act_.tmps.getD 19 undef = .slice Aw ws.length cw from hp 4 (by kernel_rfl) (by decide))
        exact h_gcallA ha ent19 rfl rfl rfl (decide_eq_false g3) rfl rfl (steps2_c _ _ _ wI (hw.ext xw_wI) (hin.ext xw_wI) (by omega)) rfl (by rintro _ w1 ⟨rfl, hR⟩; exact ⟨rfl, hR⟩)
      · intro Q act_ wI hxI ha hp
        have xw_wI : Ext w wI := Ext.tr xw_w2 hxI
        replace hb5 := hb5.ext hxI
        have ha := ha.add (show act_.tmps.getD 17 undef = .bool (decide (z < 0)) from hp 2 (by kernel_rfl) (by decide))
        have ha := ha.add (show act_.tmps.getD 18 undef = .int .i64 z from hp 3 (by kernel_rfl) (by decide))
        have ha := ha.add (show act_.tmps.getD 20 undef = .int .i64 ((stL ws).length : Int) from hp 5 (by kernel_rfl) (by decide))
        exact h_gevA (v := .bool (decide (((stL ws).length : Int) < z))) ha rfl rfl rfl (decide_eq_false g3) (e_gt rfl rfl) rfl rfl (Ext.rfl' _)
      · intro Q act_ wI hxI ha hp
        have xw_wI : Ext w wI := Ext.tr xw_w2 hxI
        replace hb5 := hb5.ext hxI
        have ha := ha.add (show act_.tmps.getD 17 undef = .bool (decide (z < 0)) from hp 2 (by kernel_rfl) (by decide))
        have ha := ha.add (show act_.tmps.getD 21 undef = .bool (decide (((stL ws).length : Int) < z)) from hp 6 (by kernel_rfl) (by decide))
        exact h_evA (v := .bool (decide (((stL ws).length : Int) < z))) ha rfl (e_pickF rfl (decide_eq_false g3) rfl) rfl rfl (Ext.rfl' _)
      intro vs_ w5 hx_w5 hvs act_ ha hv
      have xw_w5 : Ext w w5 := Ext.tr xw_w2 hx_w5
      replace hb5 := hb5.ext hx_w5
      have ha := ha.add ((hv 7 (by decide)).trans (show vs_ 7 = .bool (decide (((stL ws).length : Int) < z)) from hvs 7 (by decide)))
      refine st_go ha ?_
      clear ha hv hvs
      refine st_nil (nrm_k ?_)
      refine sc_ifd rfl (fun c22 => ?_) (fun c22 => ?_)
      ·
        refine sc_seq ?_
        refine sc_reg ?_
        refine Go.XK.s (v := .slice none 0 0) (e_assign rfl) ?_
        refine Go.XK.s (v := .int .i64 2) (e_assign rfl) ?_
        refine sl_nil (nrm_k ?_)
        refine sc_retM rfl (ret2 Try.results16 (rvt rfl) (rvt rfl) ?_)
        have hcR : cutR im ws z = ([], 2) := by
          rw [cutR, if_neg (by simp [hv]), if_pos (by omega)]
        exact ⟨.slice none 0 0, by rw [hcR], by rw [hcR]; exact Go.XK.Own.nil _ _ _ _ _, xw_w5⟩
      ·
        have hcR : cutR im ws z = (cutL (stL ws) z.toNat im, 0) := by
          rw [cutR, if_neg (by simp [hv]), if_neg (by omega)]
        refine sc_skip (nrm_k ?_)
        refine sc_seq ?_
        refine sc_reg ?_
        refine Go.XK.s (v := .slice A im.length c) (e_move rfl) ?_
        refine sl_call ent57 rfl rfl (clone_c _ _ _ w5 (hl.ext xw_w5) (by omega)) (by decide) ?_
        rintro vC w6 ⟨hoC, hw6⟩
        replace hoC := Own.low hoC (Below.size xw_w5)
        have xw_w6 : Ext w w6 := Ext.tr xw_w5 hw6
        replace hb5 := hb5.ext hw6
        refine s_alloc (cs := [.slice none 0 0]) Try.zeroValue23 rfl ?_
        intro b8 w7 hb8 he8 hs8 hx8
        have ne_b8_b5 : b8 ≠ b5 := by have h_ := hb5.lt; omega
        have no_b8_hoC : Value.ownBlock vC ≠ some b8 := fun h_ => by have h2_ := (Go.XK.Own.lt hoC _ h_).2; omega
        have ge_b8 : w.heap.size ≤ b8 := by have h_ := (Below.size xw_w6); omega
        have xw_w7 : Ext w w7 := Ext.tr xw_w6 hx8
        replace hb5 := hb5.ext hx8
        replace hoC := hoC.ext hx8
        refine su_blkV [vC] [vC] rfl rfl hb8 (own_cells hoC).1 Try.sizeOf23 (Nat.le_of_ble_eq_true rfl) (own_cells hoC).2 rfl ?_
        intro w8 hn_ hm_w8 hs_w8
        have ho_ := hb8
        replace hb8 := hn_
        clear hn_
        replace hb5 := hb5.mut hm_w8 (Ne.symm ne_b8_b5)
        replace hoC := hoC.mut hm_w8 no_b8_hoC
        have xw_w8 : Ext w w8 := below_mut xw_w7 (Below.size xw_w7) hm_w8 ge_b8
        refine sl_nil (nrm_k ?_)
        refine sc_seq ?_
        refine sc_reg ?_
        refine s_alloc (cs := [.int .i64 0]) Try.zeroValue3 rfl ?_
        intro b9 w9 hb9 he9 hs9 hx9
        have ne_b9_b5 : b9 ≠ b5 := by have h_ := hb5.lt; omega
        have ne_b9_b8 : b9 ≠ b8 := by have h_ := hb8.lt; omega
        have no_b9_hoC : Value.ownBlock vC ≠ some b9 := fun h_ => by have h2_ := (Go.XK.Own.lt hoC _ h_).2; omega
        have ge_b9 : w.heap.size ≤ b9 := by have h_ := (Below.size xw_w8); omega
        have xw_w9 : Ext w w9 := Ext.tr xw_w8 hx9
        replace hb5 := hb5.ext hx9
        replace hb8 := hb8.ext hx9
        replace hoC := hoC.ext hx9
        refine su_blkV [.int .i64 0] [.int .i64 0] rfl rfl hb9 rfl Try.sizeOf3 (Nat.le_of_ble_eq_true rfl) rfl rfl ?_
        intro w10 hn_ hm_w10 hs_w10
        have ho_ := hb9
        replace hb9 := hn_
        clear hn_
        replace hb5 := hb5.mut hm_w10 (Ne.symm ne_b9_b5)
        replace hb8 := hb8.mut hm_w10 (Ne.symm ne_b9_b8)
        replace hoC := hoC.mut hm_w10 no_b9_hoC
        have xw_w10 : Ext w w10 := below_mut xw_w9 (Below.size xw_w9) hm_w10 ge_b9
        refine sl_nil (nrm_k ?_)
        refine sc_seq ?_
        refine sc_seq ?_
        refine sc_reg ?_
        refine Go.XK.s (v := .slice Aw ws.length cw) (e_move rfl) ?_
        refine sl_call ent58 rfl rfl (steps_c _ _ _ w10) (by decide) ?_
        rintro _ w11 ⟨b58, rfl, hb58, hg58, hw11⟩
        have ne_b58_b5 : b58 ≠ b5 := by have h_ := hb5.lt; omega
        have ne_b58_b8 : b58 ≠ b8 := by have h_ := hb8.lt; omega
        have ne_b58_b9 : b58 ≠ b9 := by have h_ := hb9.lt; omega
        have ge_b58 : w.heap.size ≤ b58 := by have h_ := Below.size xw_w10; omega
        have xw_w11 : Ext w w11 := Ext.tr xw_w10 hw11
        replace hb5 := hb5.ext hw11
        replace hb8 := hb8.ext hw11
        replace hb9 := hb9.ext hw11
        replace hoC := hoC.ext hw11
        refine sl_nil (nrm_k ?_)
        refine sc_block ?_
        have hB5_ : w.heap.size ≤ w11.heap.size := Below.size xw_w11
        refine sc_rangeFx (α := StpIn (stL ws)) (β := Nat) (lb := [.pointer (some ⟨b58, 0, none⟩)]) (ps := [27]) (fun x => [.agg (encT x.1).toArray]) (KpT [24, 49] w.heap.size) (fun xs => raw xs = stL ws) (fun pre => raw pre <+: stL ws) ((stL ws).length) (fun (pre : List (StpIn (stL ws))) (W : World) => ∃ v : Value, Ext w W ∧ Go.XK.Own W w.heap.size 9 1 encS v (cutL (raw pre) z.toNat im) ∧ Blk W b5 3 [.int .i64 z] ∧ Blk W b8 23 [v] ∧ Blk W b9 3 [.int .i64 (pre.length : Int)] ∧ Blk W b58 24 [.slice Aw ws.length cw]) 0 (fun _ _ => False) (fun (pre : List (StpIn (stL ws))) (W : World) => ∃ v : Value, Ext w W ∧ Go.XK.Own W w.heap.size 9 1 encS v (cutL (raw pre) z.toNat im) ∧ Blk W b8 23 [v] ∧ z.toNat < pre.length) (fun x bx => [(10, .pointer (some ⟨bx, 0, none⟩)), (5, .pointer (some ⟨b5, 0, none⟩)), (6, .slice none 0 0), (7, .int .i64 0), (8, .pointer (some ⟨b8, 0, none⟩)), (9, .pointer (some ⟨b9, 0, none⟩))]) (fun x bx W => Blk W bx 101 [.int .i64 x.1.p, .string (B x.1.b), .bool x.1.cl] ∧ w.heap.size ≤ bx) rfl ent78 (iter_c ws Aw cw b58 w w11 hw hin xw_w11 hb58) (fun _ => rfl) (by decide) KpT.tr (KpT.put hB5_) (by rintro pre_ A_ B_ row_ ⟨v, xw_W, ho, hb5, hb8, hb9, hb58⟩ hg_ hr_; exact ⟨v, ext_rowed xw_W hg_ hr_ hB5_, Go.XK.Own.rowed ho hg_ hr_, Blk.rowed hb5 hg_ hr_, Blk.rowed hb8 hg_ hr_, Blk.rowed hb9 hg_ hr_, Blk.rowed hb58 hg_ hr_⟩) (fun _ _ _ _ h_ _ _ => h_.elim) (by rintro pre_ A_ B_ row_ ⟨v, xw_W, ho, hb8, hgt⟩ hg_ hr_; exact ⟨v, ext_rowed xw_W hg_ hr_ hB5_, Go.XK.Own.rowed ho hg_ hr_, Blk.rowed hb8 hg_ hr_, hgt⟩) (fun x b_ _ A_ B_ row_ h_ hg_ hr_ => ⟨h_.1.rowed hg_ hr_, h_.2⟩) ⟨vC, xw_w11, hoC, hb5, hb8, hb9, hb58⟩ ?_ ?_ ?_ ?_ ?_
        · intro id pre x W hI_
          obtain ⟨v, xw_W, ho, hb5, hb8, hb9, hb58⟩ := hI_
          refine sc_reg ?_
          refine s_alloc (cs := [.int .i64 0, .string (B []), .bool false]) Try.zeroValue101 rfl ?_
          intro b10 w12 hb10 he10 hs10 hx10
          have ne_b10_b5 : b10 ≠ b5 := by have h_ := hb5.lt; omega
          have ne_b10_b8 : b10 ≠ b8 := by have h_ := hb8.lt; omega
          have ne_b10_b9 : b10 ≠ b9 := by have h_ := hb9.lt; omega
          have ne_b10_b58 : b10 ≠ b58 := by have h_ := hb58.lt; omega
          have no_b10_ho : Value.ownBlock v ≠ some b10 := fun h_ => by have h2_ := (Go.XK.Own.lt ho _ h_).2; omega
          have ge_b10 : w.heap.size ≤ b10 := by have h_ := (Below.size xw_W); omega
          have geW_b10 : W.heap.size ≤ b10 := by have h_ := (Below.size (Ext.rfl' W)); omega
          have xw_w12 : Ext w w12 := Ext.tr xw_W hx10
          have xW_w12 : Ext W w12 := Ext.tr (Ext.rfl' W) hx10
          have nW_w12 : NC W w12 := NC.tr (NC.rfl' W) (NC.ofExt hx10)
          replace hb5 := hb5.ext hx10
          replace hb8 := hb8.ext hx10
          replace hb9 := hb9.ext hx10
          replace hb58 := hb58.ext hx10
          replace ho := ho.ext hx10
          refine su_blkV [.int .i64 x.1.p, .string (B x.1.b), .bool x.1.cl] [.int .i64 x.1.p, .string (B x.1.b), .bool x.1.cl] rfl rfl hb10 rfl Try.sizeOf101 (Nat.le_of_ble_eq_true rfl) rfl rfl ?_
          intro w13 hn_ hm_w13 hs_w13
          have ho_ := hb10
          replace hb10 := hn_
          clear hn_
          replace hb5 := hb5.mut hm_w13 (Ne.symm ne_b10_b5)
          replace hb8 := hb8.mut hm_w13 (Ne.symm ne_b10_b8)
          replace hb9 := hb9.mut hm_w13 (Ne.symm ne_b10_b9)
          replace hb58 := hb58.mut hm_w13 (Ne.symm ne_b10_b58)
          replace ho := ho.mut hm_w13 no_b10_ho
          have nW_w13 : NC W w13 := NC.tr nW_w12 (NC.ofMut hm_w13 ho_)
          have xw_w13 : Ext w w13 := below_mut xw_w12 (Below.size xw_w12) hm_w13 ge_b10
          have xW_w13 : Ext W w13 := below_mut xW_w12 (Below.size xW_w12) hm_w13 geW_b10
          exact sl_nil (fun a_ ha_ => ⟨NC.keeps nW_w13 _, KpT.ofExt xW_w13, ⟨v, xw_w13, ho, hb5, hb8, hb9, hb58⟩, b10, ⟨hb10, ge_b10⟩, ha_.sub (.cons rfl (.cons rfl (.cons rfl (.cons rfl (.cons rfl (.cons rfl (.nil)))))))⟩)
        · intro id pre x bx W hI_ hbx hlt
          obtain ⟨v, xw_W, ho, hb5, hb8, hb9, hb58⟩ := hI_
          obtain ⟨hbx, ge_bx⟩ := hbx
          have ne_bx_b5 : bx ≠ b5 := by exact Blk.ne hbx hb5 (by decide)
          have ne_bx_b8 : bx ≠ b8 := by exact Blk.ne hbx hb8 (by decide)
          have ne_bx_b9 : bx ≠ b9 := by exact Blk.ne hbx hb9 (by decide)
          have ne_bx_b58 : bx ≠ b58 := by exact Blk.ne hbx hb58 (by decide)
          have hm4 := cutL_length (raw pre) z.toNat im (fun s_ hs_ hc_ => (okL_mem hokw (by obtain ⟨y_, _, rfl⟩ := List.mem_map.1 hs_; exact y_.2) hc_).2.1) hm1
          have hokx := okL_mem hokw x.2
          refine sc_block ?_
          refine sc_seq ?_
          refine sc_seq ?_
          refine sc_reg ?_
          refine Go.XK.s (v := .int .i64 (pre.length : Int)) (e_load rfl (load1 Try.isAgg3 (hb9.cell (j := 0) rfl))) ?_
          refine Go.XK.s (v := .int .i64 z) (e_load rfl (load1 Try.isAgg3 (hb5.cell (j := 0) rfl))) ?_
          refine Go.XK.s (v := .bool (decide (z < (pre.length : Int)))) (e_gt rfl rfl) ?_
          refine sl_nil (nrm_k ?_)
          refine sc_ifd rfl (fun c30 => ?_) (fun c30 => ?_)
          ·
            refine sc_exit rfl ?_
            have he_ : cutL (raw (pre ++ [x])) z.toNat im = cutL (raw pre) z.toNat im := by rw [raw_snoc]; exact cutL_gt _ _ _ _ (by rw [raw_length]; omega)
            rw [← he_] at ho
            exact fun a_ ha_ => ⟨NC.keeps (NC.rfl' W) _, ⟨v, xw_W, ho, hb8, (by simp; omega)⟩⟩
          ·
            refine sc_skip (nrm_k ?_)
            refine sc_seq ?_
            refine sc_block ?_
            refine sc_seq ?_
            refine sc_reg ?_
            refine Go.XK.s (v := .pointer (some ⟨bx, 2, none⟩)) (e_fieldB (sz := 1) Try.underlying101 rfl Try.sizeOf4 (by decide) rfl rfl) ?_
            refine Go.XK.s (v := .bool x.1.cl) (e_load rfl (load1 Try.isAgg4 (hbx.cell (j := 2) rfl))) ?_
            refine Go.XK.s (v := .bool x.1.cl) (e_assign rfl) ?_
            refine sl_nil (nrm_k ?_)
            refine sc_if rfl (fun c35 => ?_) (fun c35 => ?_)
            ·
              refine sc_skip (nrm_k ?_)
              refine sc_reg ?_
              refine Go.XK.s (v := .int .i64 (pre.length : Int)) (e_load rfl (load1 Try.isAgg3 (hb9.cell (j := 0) rfl))) ?_
              refine Go.XK.s (v := .int .i64 ((pre.length : Int) + 1)) (e_add rfl rfl (by omega)) ?_
              refine su_blkV [.int .i64 ((pre.length : Int) + 1)] [.int .i64 ((pre.length : Int) + 1)] rfl rfl hb9 rfl Try.sizeOf3 (Nat.le_of_ble_eq_true rfl) rfl rfl ?_
              intro w14 hn_ hm_w14 hs_w14
              have ho_ := hb9
              replace hb9 := hn_
              clear hn_
              replace hb5 := hb5.mut hm_w14 (Ne.symm ne_b9_b5)
              replace hb8 := hb8.mut hm_w14 (Ne.symm ne_b9_b8)
              replace hb58 := hb58.mut hm_w14 ne_b58_b9
              replace hbx := hbx.mut hm_w14 ne_bx_b9
              replace ho := ho.mut hm_w14 (Own.ne ho ho_ (by decide))
              have nW_w14 : NC W w14 := NC.tr (NC.rfl' W) (NC.ofMut hm_w14 ho_)
              have kW_w14 : KpT [24, 49] w.heap.size W w14 := KpT.tr (KpT.rfl' W) (KpT.ofMut hm_w14 ho_ ge_b9 (by decide))
              have xw_w14 : Ext w w14 := below_mut xw_W (Below.size xw_W) hm_w14 ge_b9
              refine sl_nil ?_
              have hlen_ : ((pre ++ [x]).length : Int) = (pre.length : Int) + 1 := by simp
              rw [← hlen_] at hb9
              have he_ : cutL (raw (pre ++ [x])) z.toNat im = cutL (raw pre) z.toNat im := by rw [raw_snoc]; exact cut_close (by rw [raw_length]; omega) c35
              rw [← he_] at ho
              exact fun a_ ha_ => ⟨NC.keeps nW_w14 _, kW_w14, ⟨v, xw_w14, ho, hb5, hb8, hb9, hb58⟩⟩
            ·
              refine sc_seq ?_
              refine sc_reg ?_
              refine Go.XK.s (v := .int .i64 (pre.length : Int)) (e_load rfl (load1 Try.isAgg3 (hb9.cell (j := 0) rfl))) ?_
              refine Go.XK.s (v := .int .i64 z) (e_load rfl (load1 Try.isAgg3 (hb5.cell (j := 0) rfl))) ?_
              refine Go.XK.s (v := .bool (decide ((pre.length : Int) < z))) (e_lt rfl rfl) ?_
              refine Go.XK.s (v := .bool (decide ((pre.length : Int) < z))) (e_assign rfl) ?_
              refine sl_nil (nrm_k ?_)
              refine sc_ifd rfl (fun c38 => ?_) (fun c38 => ?_)
              ·
                refine sc_reg ?_
                refine Go.XK.s (v := v) (e_load rfl (load1 Try.isAgg23 (hb8.cell (j := 0) rfl))) ?_
                refine Go.XK.s (v := .pointer (some ⟨bx, 0, none⟩)) (e_fieldB (sz := 1) Try.underlying101 rfl Try.sizeOf3 (by decide) rfl rfl) ?_
                refine Go.XK.s (v := .int .i64 x.1.p) (e_load rfl (load1 Try.isAgg3 (hbx.cell (j := 0) rfl))) ?_
                refine Go.XK.s (v := .pointer (some ⟨bx, 1, none⟩)) (e_fieldB (sz := 1) Try.underlying101 rfl Try.sizeOf9 (by decide) rfl rfl) ?_
                refine Go.XK.s (v := .string (B x.1.b)) (e_load rfl (load1 Try.isAgg9 (hbx.cell (j := 1) rfl))) ?_
                refine sl_call ent59 rfl rfl (put_c w _ _ _ _ W xw_W ho (by have h_ := hokx c35; omega) (by omega)) (by decide) ?_
                rintro vP w15 ⟨hoP, hgrP, hw15⟩
                have xw_w15 := hw15
                replace hb5 := hb5.grown hgrP.1 (Own.ne ho hb5 (by decide))
                replace hb8 := hb8.grown hgrP.1 (Own.ne ho hb8 (by decide))
                replace hb9 := hb9.grown hgrP.1 (Own.ne ho hb9 (by decide))
                replace hb58 := hb58.grown hgrP.1 (Own.ne ho hb58 (by decide))
                replace hbx := hbx.grown hgrP.1 (Own.ne ho hbx (by decide))
                have nW_w15 : NC W w15 := NC.tr (NC.rfl' W) (NC.ofOwn ho hgrP.1)
                have kW_w15 : KpT [24, 49] w.heap.size W w15 := KpT.tr (KpT.rfl' W) (KpT.ofGrown ho hgrP.1 (Nat.le_refl _) (by decide))
                refine su_blkV [vP] [vP] rfl rfl hb8 (own_cells hoP).1 Try.sizeOf23 (Nat.le_of_ble_eq_true rfl) (own_cells hoP).2 rfl ?_
                intro w16 hn_ hm_w16 hs_w16
                have ho_ := hb8
                replace hb8 := hn_
                clear hn_
                replace hb5 := hb5.mut hm_w16 (Ne.symm ne_b8_b5)
                replace hb9 := hb9.mut hm_w16 ne_b9_b8
                replace hb58 := hb58.mut hm_w16 ne_b58_b8
                replace hbx := hbx.mut hm_w16 ne_bx_b8
                replace hoP := hoP.mut hm_w16 (Own.ne hoP ho_ (by decide))
                have nW_w16 : NC W w16 := NC.tr nW_w15 (NC.ofMut hm_w16 ho_)
                have kW_w16 : KpT [24, 49] w.heap.size W w16 := KpT.tr kW_w15 (KpT.ofMut hm_w16 ho_ ge_b8 (by decide))
                have xw_w16 : Ext w w16 := below_mut xw_w15 (Below.size xw_w15) hm_w16 ge_b8
                refine sl_nil (nrm_k ?_)
                refine sc_reg ?_
                refine Go.XK.s (v := .int .i64 (pre.length : Int)) (e_load rfl (load1 Try.isAgg3 (hb9.cell (j := 0) rfl))) ?_
                refine Go.XK.s (v := .int .i64 ((pre.length : Int) + 1)) (e_add rfl rfl (by omega)) ?_
                refine su_blkV [.int .i64 ((pre.length : Int) + 1)] [.int .i64 ((pre.length : Int) + 1)] rfl rfl hb9 rfl Try.sizeOf3 (Nat.le_of_ble_eq_true rfl) rfl rfl ?_
                intro w17 hn_ hm_w17 hs_w17
                have ho_ := hb9
                replace hb9 := hn_
                clear hn_
                replace hb5 := hb5.mut hm_w17 (Ne.symm ne_b9_b5)
                replace hb8 := hb8.mut hm_w17 (Ne.symm ne_b9_b8)
                replace hb58 := hb58.mut hm_w17 ne_b58_b9
                replace hbx := hbx.mut hm_w17 ne_bx_b9
                replace hoP := hoP.mut hm_w17 (Own.ne hoP ho_ (by decide))
                have nW_w17 : NC W w17 := NC.tr nW_w16 (NC.ofMut hm_w17 ho_)
                have kW_w17 : KpT [24, 49] w.heap.size W w17 := KpT.tr kW_w16 (KpT.ofMut hm_w17 ho_ ge_b9 (by decide))
                have xw_w17 : Ext w w17 := below_mut xw_w16 (Below.size xw_w16) hm_w17 ge_b9
                refine sl_nil ?_
                have hlen_ : ((pre ++ [x]).length : Int) = (pre.length : Int) + 1 := by simp
                rw [← hlen_] at hb9
                have he_ : cutL (raw (pre ++ [x])) z.toNat im = putI (cutL (raw pre) z.toNat im) x.1.p x.1.b := by rw [raw_snoc]; exact cut_put (by rw [raw_length]; omega) c35
                rw [← he_] at hoP
                exact fun a_ ha_ => ⟨NC.keeps nW_w17 _, kW_w17, ⟨vP, xw_w17, hoP, hb5, hb8, hb9, hb58⟩⟩
              ·
                refine sc_reg ?_
                refine Go.XK.s (v := v) (e_load rfl (load1 Try.isAgg23 (hb8.cell (j := 0) rfl))) ?_
                refine Go.XK.s (v := .pointer (some ⟨bx, 0, none⟩)) (e_fieldB (sz := 1) Try.underlying101 rfl Try.sizeOf3 (by decide) rfl rfl) ?_
                refine Go.XK.s (v := .int .i64 x.1.p) (e_load rfl (load1 Try.isAgg3 (hbx.cell (j := 0) rfl))) ?_
                refine sl_call ent59 rfl rfl (put_c w _ _ _ _ W xw_W ho (by have h_ := hokx c35; omega) (by omega)) (by decide) ?_
                rintro vP w18 ⟨hoP, hgrP, hw18⟩
                have xw_w18 := hw18
                replace hb5 := hb5.grown hgrP.1 (Own.ne ho hb5 (by decide))
                replace hb8 := hb8.grown hgrP.1 (Own.ne ho hb8 (by decide))
                replace hb9 := hb9.grown hgrP.1 (Own.ne ho hb9 (by decide))
                replace hb58 := hb58.grown hgrP.1 (Own.ne ho hb58 (by decide))
                replace hbx := hbx.grown hgrP.1 (Own.ne ho hbx (by decide))
                have nW_w18 : NC W w18 := NC.tr (NC.rfl' W) (NC.ofOwn ho hgrP.1)
                have kW_w18 : KpT [24, 49] w.heap.size W w18 := KpT.tr (KpT.rfl' W) (KpT.ofGrown ho hgrP.1 (Nat.le_refl _) (by decide))
                refine su_blkV [vP] [vP] rfl rfl hb8 (own_cells hoP).1 Try.sizeOf23 (Nat.le_of_ble_eq_true rfl) (own_cells hoP).2 rfl ?_
                intro w19 hn_ hm_w19 hs_w19
                have ho_ := hb8
                replace hb8 := hn_
                clear hn_
                replace hb5 := hb5.mut hm_w19 (Ne.symm ne_b8_b5)
                replace hb9 := hb9.mut hm_w19 ne_b9_b8
                replace hb58 := hb58.mut hm_w19 ne_b58_b8
                replace hbx := hbx.mut hm_w19 ne_bx_b8
                replace hoP := hoP.mut hm_w19 (Own.ne hoP ho_ (by decide))
                have nW_w19 : NC W w19 := NC.tr nW_w18 (NC.ofMut hm_w19 ho_)
                have kW_w19 : KpT [24, 49] w.heap.size W w19 := KpT.tr kW_w18 (KpT.ofMut hm_w19 ho_ ge_b8 (by decide))
                have xw_w19 : Ext w w19 := below_mut xw_w18 (Below.size xw_w18) hm_w19 ge_b8
                refine sl_nil (nrm_k ?_)
                refine sc_reg ?_
                refine Go.XK.s (v := .int .i64 (pre.length : Int)) (e_load rfl (load1 Try.isAgg3 (hb9.cell (j := 0) rfl))) ?_
                refine Go.XK.s (v := .int .i64 ((pre.length : Int) + 1)) (e_add rfl rfl (by omega)) ?_
                refine su_blkV [.int .i64 ((pre.length : Int) + 1)] [.int .i64 ((pre.length : Int) + 1)] rfl rfl hb9 rfl Try.sizeOf3 (Nat.le_of_ble_eq_true rfl) rfl rfl ?_
                intro w20 hn_ hm_w20 hs_w20
                have ho_ := hb9
                replace hb9 := hn_
                clear hn_
                replace hb5 := hb5.mut hm_w20 (Ne.symm ne_b9_b5)
                replace hb8 := hb8.mut hm_w20 (Ne.symm ne_b9_b8)
                replace hb58 := hb58.mut hm_w20 ne_b58_b9
                replace hbx := hbx.mut hm_w20 ne_bx_b9
                replace hoP := hoP.mut hm_w20 (Own.ne hoP ho_ (by decide))
                have nW_w20 : NC W w20 := NC.tr nW_w19 (NC.ofMut hm_w20 ho_)
                have kW_w20 : KpT [24, 49] w.heap.size W w20 := KpT.tr kW_w19 (KpT.ofMut hm_w20 ho_ ge_b9 (by decide))
                have xw_w20 : Ext w w20 := below_mut xw_w19 (Below.size xw_w19) hm_w20 ge_b9
                refine sl_nil ?_
                have hlen_ : ((pre ++ [x]).length : Int) = (pre.length : Int) + 1 := by simp
                rw [← hlen_] at hb9
                have he_ : cutL (raw (pre ++ [x])) z.toNat im = putI (cutL (raw pre) z.toNat im) x.1.p [33] := by rw [raw_snoc]; exact cut_tear (by rw [raw_length]; omega) c35
                rw [← he_] at hoP
                exact fun a_ ha_ => ⟨NC.keeps nW_w20 _, kW_w20, ⟨vP, xw_w20, hoP, hb5, hb8, hb9, hb58⟩⟩
        · intro D xs W hDle hS hI_ hDD
          obtain ⟨v, xw_W, ho, hb5, hb8, hb9, hb58⟩ := hI_
          have hcut : cutL (raw xs) z.toNat im = cutL (stL ws) z.toNat im := by rw [hS]
          rw [hcut] at ho
          refine nrm_k ?_
          refine sc_seq ?_
          refine sc_reg ?_
          refine Go.XK.s (v := v) (e_load rfl (load1 Try.isAgg23 (hb8.cell (j := 0) rfl))) ?_
          refine Go.XK.s (v := v) (e_assign rfl) ?_
          refine Go.XK.s (v := .int .i64 0) (e_assign rfl) ?_
          refine sl_nil (nrm_k ?_)
          replace hDD := (NC.rfl' W).2 _ _ hDD rfl
          obtain ⟨wz, hwz⟩ : ∃ wz, wz = World.putObj W D (.deferred none) := ⟨_, rfl⟩
          have hmz : Mut W wz D := by rw [hwz]; exact mut_put _ _ _
          replace hb5 := hb5.mut hmz (hb5.ne_of hDD rfl)
          replace hb8 := hb8.mut hmz (hb8.ne_of hDD rfl)
          replace hb9 := hb9.mut hmz (hb9.ne_of hDD rfl)
          replace hb58 := hb58.mut hmz (hb58.ne_of hDD rfl)
          replace ho := Go.XK.Own.mut ho hmz (own_ne_of ho hDD rfl)
          have xw_wz : Ext w wz := below_mut xw_W (Below.size xw_W) hmz (Nat.le_trans hB5_ hDle)
          refine sc_retMk rfl hDD ?_
          rw [← hwz]
          refine ret2 Try.results16 (rvt rfl) (rvt rfl) ?_
          exact ⟨v, by rw [hcR], by rw [hcR]; exact ho, xw_wz⟩
        · intro D pre W hDle hS hI_ hDD
          exact hI_.elim
        · intro D pre W hDle hS hI_ hDD
          obtain ⟨v, xw_W, ho, hb8, hgt⟩ := hI_
          have hcut : cutL (raw pre) z.toNat im = cutL (stL ws) z.toNat im := (cutL_pre hS (by rw [raw_length]; omega)).symm
          rw [hcut] at ho
          refine exit_k rfl (nrm_k ?_)
          refine sc_seq ?_
          refine sc_reg ?_
          refine Go.XK.s (v := v) (e_load rfl (load1 Try.isAgg23 (hb8.cell (j := 0) rfl))) ?_
          refine Go.XK.s (v := v) (e_assign rfl) ?_
          refine Go.XK.s (v := .int .i64 0) (e_assign rfl) ?_
          refine sl_nil (nrm_k ?_)
          replace hDD := (NC.rfl' W).2 _ _ hDD rfl
          obtain ⟨wz, hwz⟩ : ∃ wz, wz = World.putObj W D (.deferred none) := ⟨_, rfl⟩
          have hmz : Mut W wz D := by rw [hwz]; exact mut_put _ _ _
          replace hb8 := hb8.mut hmz (hb8.ne_of hDD rfl)
          replace ho := Go.XK.Own.mut ho hmz (own_ne_of ho hDD rfl)
          have xw_wz : Ext w wz := below_mut xw_W (Below.size xw_W) hmz (Nat.le_trans hB5_ hDle)
          refine sc_retMk rfl hDD ?_
          rw [← hwz]
          refine ret2 Try.results16 (rvt rfl) (rvt rfl) ?_
          exact ⟨v, by rw [hcR], by rw [hcR]; exact ho, xw_wz⟩

end Go.Proofs.Ytfcjianiodiejaa
