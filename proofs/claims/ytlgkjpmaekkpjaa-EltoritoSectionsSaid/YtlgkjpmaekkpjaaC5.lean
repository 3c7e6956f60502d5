/- Chapter 27: C5. Printed by my program wip/tools/wk.py. -/
import Derived.Test.YtlgkjpmaekkpjaaC4
set_option linter.unusedVariables false
set_option linter.unusedSimpArgs false
set_option maxRecDepth 4000
set_option maxHeartbeats 1000000
namespace Go.Proofs.Ytlgkjpmaekkpjaa
open Go.XK Go.RowKit
/-- masterdisc/masterdiscref27.Encode (function 12) -/
theorem rencode_c (l : List Img) (A : Option Addr) (c : Nat) (w : World) (hl : Rd w A 6 Img.enc l) (hlc : l.length ≤ c) : CallR Try.prog 12 [.slice A l.length c] w (fun v w' => v = .tuple #[.string (B ((encR l).1)), .int .i64 ((encR l).2)] ∧ Ext w w') := by
  refine callR_of (n := 91) [(0, .slice A l.length c)] Try.func12 rfl rfl (Nat.le_of_ble_eq_true rfl) rfl ?_
  refine sc_seq ?_
  refine sc_reg ?_
  refine Go.XK.s (v := .string (B [])) (e_assign rfl) ?_
  refine Go.XK.s (v := .int .i64 0) (e_assign rfl) ?_
  refine sl_nil (nrm_k ?_)
  refine sc_seq ?_
  refine sc_seq ?_
  refine sc_reg ?_
  refine Go.XK.s (v := .slice A l.length c) (e_move rfl) ?_
  refine Go.XK.s (v := .int .i64 (l.length : Int)) (e_len Try.underlying22 rfl) ?_
  refine Go.XK.s (v := .bool (decide ((l.length : Int) = 0))) (e_eq rfl rfl) ?_
  refine sl_nil (nrm_k ?_)
  refine sc_ifd rfl (fun c12 => ?_) (fun c12 => ?_)
  ·
    skip
    refine sc_seq ?_
    refine sc_reg ?_
    refine Go.XK.s (v := .string (B [])) (e_assign rfl) ?_
    refine Go.XK.s (v := .int .i64 1) (e_assign rfl) ?_
    refine sl_nil (nrm_k ?_)
    refine sc_retf rfl (ret2 Try.results12 (rvt rfl) (rvt rfl) ?_)
    exact ⟨by rw [encR_nil (by omega)], (Ext.rfl' w)⟩
  ·
    obtain ⟨x0, hx0⟩ := pos_get (l := l) (by omega)
    refine sc_skip (nrm_k ?_)
    refine sc_seq ?_
    refine sc_seq ?_
    refine sc_reg ?_
    refine Go.XK.s (v := .slice A l.length c) (e_move rfl) ?_
    refine Go.XK.s (v := .int .i64 (l.length : Int)) (e_len Try.underlying22 rfl) ?_
    refine Go.XK.s (v := .bool (decide ((32 : Int) < (l.length : Int)))) (e_gt rfl rfl) ?_
    refine sl_nil (nrm_k ?_)
    refine sc_ifd rfl (fun c15 => ?_) (fun c15 => ?_)
    ·
      refine sc_seq ?_
      refine sc_reg ?_
      refine Go.XK.s (v := .string (B [])) (e_assign rfl) ?_
      refine Go.XK.s (v := .int .i64 7) (e_assign rfl) ?_
      refine sl_nil (nrm_k ?_)
      refine sc_retf rfl (ret2 Try.results12 (rvt rfl) (rvt rfl) ?_)
      exact ⟨by rw [encR_many (by omega)], (Ext.rfl' w)⟩
    ·
      refine sc_skip (nrm_k ?_)
      refine sc_seq ?_
      refine sc_seq ?_
      refine sc_reg ?_
      refine Go.XK.s (v := .int .i64 0) (e_assign rfl) ?_
      refine sl_nil (nrm_k ?_)
      refine sc_block ?_
      refine sc_loop (fun m_ l_ w_ => ∃ (k : Nat), m_ = l.length - k ∧ l_ = [(4, .int .i64 (k : Int)), (0, .slice A l.length c)] ∧ Ext w w_ ∧ k ≤ l.length ∧ ∀ (j : Nat) (y : Img), j < k → l[j]? = some y → y.valid = true) _ [(4, .int .i64 (0 : Int)), (0, .slice A l.length c)] ⟨0, rfl, rfl, (Ext.rfl' w), ⟨Nat.zero_le _, fun j _ hj => by omega⟩⟩ (.cons rfl (.cons rfl (.nil))) ?_
      rintro j2 _ w1 ⟨k, rfl, rfl, xw_w1, ⟨hk, hno⟩⟩
      refine sc_seq ?_
      refine sc_seq ?_
      refine sc_reg ?_
      refine Go.XK.s (v := .int .i64 (k : Int)) (e_move rfl) ?_
      refine Go.XK.s (v := .slice A l.length c) (e_move rfl) ?_
      refine Go.XK.s (v := .int .i64 (l.length : Int)) (e_len Try.underlying22 rfl) ?_
      refine Go.XK.s (v := .bool (decide ((k : Int) < (l.length : Int)))) (e_lt rfl rfl) ?_
      refine sl_nil (nrm_k ?_)
      refine sc_ifd rfl (fun c19 => ?_) (fun c19 => ?_)
      ·
        obtain ⟨x, hx⟩ : ∃ x, l[k]? = some x := ⟨_, List.getElem?_eq_getElem (by omega)⟩
        refine sc_skip (nrm_k ?_)
        refine sc_seq ?_
        refine sc_block ?_
        refine sc_seq ?_
        refine sc_reg ?_
        refine Go.XK.s (v := .slice A l.length c) (e_move rfl) ?_
        refine Go.XK.s (v := .int .i64 (k : Int)) (e_move rfl) ?_
        refine Go.XK.s (v := .pointer (some (el A 6 (k : Int) 0))) (e_idxEl (e := x) Try.underlying22 Try.sizeOf34 rfl rfl (hl.ext xw_w1) hx (by omega) rfl) ?_
        refine Go.XK.s (v := .agg #[.int .i64 x.P, .int .i64 x.M, .int .i64 x.S, .int .i64 x.C, .int .i64 x.L, .bool x.b]) (e_ldElA (xs := l) (enc := Img.enc) (e := x) rfl (hl.ext xw_w1) hx Try.isAgg34 Try.sizeOf34 rfl) ?_
        refine sl_call ent29 rfl rfl (rvalid_c x w1) (by decide) ?_
        rintro _ w3 ⟨rfl, hw3⟩
        have xw_w3 : Ext w w3 := Ext.tr xw_w1 hw3
        refine Go.XK.s (v := .bool (!x.valid)) (e_not rfl) ?_
        refine sl_nil (nrm_k ?_)
        refine sc_if rfl (fun c27 => ?_) (fun c27 => ?_)
        ·
          refine sc_seq ?_
          refine sc_reg ?_
          refine Go.XK.s (v := .string (B [])) (e_assign rfl) ?_
          refine Go.XK.s (v := .int .i64 2) (e_assign rfl) ?_
          refine sl_nil (nrm_k ?_)
          refine sc_retf rfl (ret2 Try.results12 (rvt rfl) (rvt rfl) ?_)
          exact ⟨by rw [encR_bad (by omega) (by omega) (List.all_eq_false.2 ⟨x, List.mem_of_getElem? hx, by simpa using c27⟩)], xw_w3⟩
        ·
          refine sc_skip (nrm_k ?_)
          refine sc_reg ?_
          refine Go.XK.s (v := .int .i64 (k : Int)) (e_move rfl) ?_
          refine Go.XK.s (v := .int .i64 ((k : Int) + 1)) (e_add rfl rfl (by omega)) ?_
          refine Go.XK.s (v := .int .i64 ((k : Int) + 1)) (e_assign rfl) ?_
          refine sl_nil ?_
          exact nrm_loopq rfl _ _ (by omega) ⟨k + 1, rfl, rfl, xw_w3, ⟨by omega, fun j y hj he => by
            rcases Nat.lt_or_ge j k with h_ | h_
            · exact hno j y h_ he
            · rw [show j = k from by omega, hx] at he; cases he; simpa using c27⟩⟩ (.cons rfl (.cons rfl (.nil)))
      ·
        have hall : l.all Img.valid = true := List.all_eq_true.2 fun y hm => by
          obtain ⟨j, hj⟩ := List.getElem?_of_mem hm
          exact hno j y (by have := (List.getElem?_eq_some_iff.1 hj).1; omega) hj
        have hvx0 := all_at hall hx0
        have hP0 := (Img.okv hvx0).P
        refine sc_exit rfl (nrm_k ?_)
        refine sc_seq ?_
        refine sc_free [(19, .bool (decide ((k : Int) < (l.length : Int)))), (18, .int .i64 (l.length : Int)), (17, .slice A l.length c), (16, .int .i64 (k : Int)), (4, .int .i64 (k : Int)), (0, .slice A l.length c)] [28, 29, 30, 31, 32, 33, 34, 35, 36, 37] [(Is (.slice A l.length c)), (Is (.pointer (some (el A 6 0 0)))), (Is (.pointer (some (el A 6 0 0)))), (Is (.int .i64 x0.P)), (Is (.int .u8 ((u8of x0.P).toNat))), (fun VV WV => ∃ b_, VV = Value.slice (some ⟨b_, 0, none⟩) 4 4 ∧ Blk WV b_ 5 [.int .u8 1, .int .u8 ((u8of x0.P).toNat), .int .u8 0, .int .u8 0]), (Is (.string (B [1, u8of x0.P, 0, 0]))), (Is (.string (B ([1, u8of x0.P, 0, 0] ++ [77, 65, 83, 84, 69, 82, 68, 73, 83, 67])))), (Is (.string (B (zeros 14)))), (Is (.string (B (([1, u8of x0.P, 0, 0] ++ [77, 65, 83, 84, 69, 82, 68, 73, 83, 67]) ++ (zeros 14)))))] [10] (by kernel_rfl) (Sub.refl _) (by kernel_rfl) (by kernel_rfl) (by kernel_rfl) rfl (by kernel_rfl) (ds_ext (Stays.spec (.is _ (.is _ (.is _ (.is _ (.is _ (.any (fun _ _ _ ⟨b_, e_, h_⟩ hx_ => ⟨b_, e_, h_.ext hx_⟩) (.is _ (.is _ (.is _ (.is _ (.nil))))))))))))) ⟨?_, ?_, ?_, ?_, ?_, ?_, ?_, ?_, ?_, ?_, trivial⟩ ?_
        · intro Q act_ wI hxI ha hp
          have xw_wI : Ext w wI := Ext.tr xw_w1 hxI
          exact h_evA (v := .slice A l.length c) ha rfl (e_move rfl) rfl rfl (Ext.rfl' _)
        · intro Q act_ wI hxI ha hp
          have xw_wI : Ext w wI := Ext.tr xw_w1 hxI
          have ha := ha.add (show act_.tmps.getD 28 undef = .slice A l.length c from hp 0 (by kernel_rfl) (by decide))
          exact h_evA (v := .pointer (some (el A 6 0 0))) ha rfl (e_idxEl (e := x0) Try.underlying22 Try.sizeOf34 rfl rfl (hl.ext xw_wI) hx0 (by omega) rfl) rfl rfl (Ext.rfl' _)
        · intro Q act_ wI hxI ha hp
          have xw_wI : Ext w wI := Ext.tr xw_w1 hxI
          have ha := ha.add (show act_.tmps.getD 29 undef = .pointer (some (el A 6 0 0)) from hp 1 (by kernel_rfl) (by decide))
          exact h_evA (v := .pointer (some (el A 6 0 0))) ha rfl (e_fieldEl (fsz := 1) Try.underlying34 rfl Try.sizeOf3 (by decide) rfl rfl) rfl rfl (Ext.rfl' _)
        · intro Q act_ wI hxI ha hp
          have xw_wI : Ext w wI := Ext.tr xw_w1 hxI
          have ha := ha.add (show act_.tmps.getD 30 undef = .pointer (some (el A 6 0 0)) from hp 2 (by kernel_rfl) (by decide))
          exact h_evA (v := .int .i64 x0.P) ha rfl (e_ldEl (xs := l) (enc := Img.enc) (e := x0) rfl (hl.ext xw_wI) hx0 Try.isAgg3 rfl) rfl rfl (Ext.rfl' _)
        · intro Q act_ wI hxI ha hp
          have xw_wI : Ext w wI := Ext.tr xw_w1 hxI
          have ha := ha.add (show act_.tmps.getD 31 undef = .int .i64 x0.P from hp 3 (by kernel_rfl) (by decide))
          exact h_evA (v := .int .u8 ((u8of x0.P).toNat)) ha rfl (e_intu8 Try.underlying3 Try.underlying5 rfl) rfl rfl (Ext.rfl' _)
        · intro Q act_ wI hxI ha hp
          have xw_wI : Ext w wI := Ext.tr xw_w1 hxI
          have ha := ha.add (show act_.tmps.getD 32 undef = .int .u8 ((u8of x0.P).toNat) from hp 4 (by kernel_rfl) (by decide))
          exact h_evA ha rfl (e_buildSlice (vs := [(0, .int .u8 1), (1, .int .u8 ((u8of x0.P).toNat)), (2, .int .u8 0), (3, .int .u8 0)]) (v := .slice (some ⟨wI.heap.size, 0, none⟩) 4 4) (w1 := wI.alloc (.cells ([.int .u8 1, .int .u8 ((u8of x0.P).toNat), .int .u8 0, .int .u8 0] : List Value).toArray 5)) rfl (by kernel_rfl)) rfl ⟨_, rfl, Blk.new wI 5 [.int .u8 1, .int .u8 ((u8of x0.P).toNat), .int .u8 0, .int .u8 0]⟩ (Ext.alloc _ _)
        · intro Q act_ wI hxI ha hp
          have xw_wI : Ext w wI := Ext.tr xw_w1 hxI
          obtain ⟨b33, e33, hb33⟩ := (show ∃ b_, act_.tmps.getD 33 undef = Value.slice (some ⟨b_, 0, none⟩) 4 4 ∧ Blk wI b_ 5 [.int .u8 1, .int .u8 ((u8of x0.P).toNat), .int .u8 0, .int .u8 0] from hp 5 (by kernel_rfl) (by decide))
          have ha := ha.add e33
          exact h_evA (v := .string (B [1, u8of x0.P, 0, 0])) ha rfl (e_convr (l := _) rfl (conv_blk (s := [1, u8of x0.P, 0, 0]) Try.underlying35 Try.underlying5 Try.underlying9 hb33 rfl)) rfl rfl (Ext.rfl' _)
        · intro Q act_ wI hxI ha hp
          have xw_wI : Ext w wI := Ext.tr xw_w1 hxI
          have ha := ha.add (show act_.tmps.getD 34 undef = .string (B [1, u8of x0.P, 0, 0]) from hp 6 (by kernel_rfl) (by decide))
          exact h_evA (v := .string (B ([1, u8of x0.P, 0, 0] ++ [77, 65, 83, 84, 69, 82, 68, 73, 83, 67]))) ha rfl (e_sadd rfl rfl (by simp)) rfl rfl (Ext.rfl' _)
        · intro Q act_ wI hxI ha hp
          have xw_wI : Ext w wI := Ext.tr xw_w1 hxI
          exact h_callA ha ent30 rfl rfl rfl (rrep_c (0 : UInt8) 14 wI (by omega)) rfl (by rintro _ w1 ⟨rfl, hR⟩; exact ⟨rfl, hR⟩)
        · intro Q act_ wI hxI ha hp
          have xw_wI : Ext w wI := Ext.tr xw_w1 hxI
          have ha := ha.add (show act_.tmps.getD 35 undef = .string (B ([1, u8of x0.P, 0, 0] ++ [77, 65, 83, 84, 69, 82, 68, 73, 83, 67])) from hp 7 (by kernel_rfl) (by decide))
          have ha := ha.add (show act_.tmps.getD 36 undef = .string (B (zeros 14)) from hp 8 (by kernel_rfl) (by decide))
          exact h_evA (v := .string (B (([1, u8of x0.P, 0, 0] ++ [77, 65, 83, 84, 69, 82, 68, 73, 83, 67]) ++ (zeros 14)))) ha rfl (e_sadd rfl rfl (by simp)) rfl rfl (Ext.rfl' _)
        intro vs_ w4 hx_w4 hvs act_ ha hv
        have xw_w4 : Ext w w4 := Ext.tr xw_w1 hx_w4
        have ha := ha.add ((hv 9 (by decide)).trans (show vs_ 9 = .string (B (([1, u8of x0.P, 0, 0] ++ [77, 65, 83, 84, 69, 82, 68, 73, 83, 67]) ++ (zeros 14))) from hvs 9 (by decide)))
        refine st_go ha ?_
        clear ha hv hvs
        refine st_ev (v := .string (B (([1, u8of x0.P, 0, 0] ++ [77, 65, 83, 84, 69, 82, 68, 73, 83, 67]) ++ (zeros 14)))) rfl (e_assign rfl) ?_
        refine st_nil (nrm_k ?_)
        refine sc_seq ?_
        refine sc_reg ?_
        refine Go.XK.s (v := .string (B [85, 170])) (e_assign rfl) ?_
        refine sl_nil (nrm_k ?_)
        refine sc_seq ?_
        refine sc_free [(6, .string (B [85, 170])), (5, .string (B (([1, u8of x0.P, 0, 0] ++ [77, 65, 83, 84, 69, 82, 68, 73, 83, 67]) ++ (zeros 14)))), (37, .string (B (([1, u8of x0.P, 0, 0] ++ [77, 65, 83, 84, 69, 82, 68, 73, 83, 67]) ++ (zeros 14)))), (19, .bool (decide ((k : Int) < (l.length : Int)))), (18, .int .i64 (l.length : Int)), (17, .slice A l.length c), (16, .int .i64 (k : Int)), (4, .int .i64 (k : Int)), (0, .slice A l.length c)] [38, 39, 40, 41, 42, 43, 44, 45, 46, 47, 48, 49, 50, 51, 52, 53, 54] [(Is (.string (B (([1, u8of x0.P, 0, 0] ++ [77, 65, 83, 84, 69, 82, 68, 73, 83, 67]) ++ (zeros 14))))), (Is (.string (B (([1, u8of x0.P, 0, 0] ++ [77, 65, 83, 84, 69, 82, 68, 73, 83, 67]) ++ (zeros 14))))), (Is (.string (B ((([1, u8of x0.P, 0, 0] ++ [77, 65, 83, 84, 69, 82, 68, 73, 83, 67]) ++ (zeros 14)) ++ [0, 0])))), (Is (.string (B [85, 170]))), (Is (.string (B (((([1, u8of x0.P, 0, 0] ++ [77, 65, 83, 84, 69, 82, 68, 73, 83, 67]) ++ (zeros 14)) ++ [0, 0]) ++ [85, 170])))), (Is (.int .i64 (wsum 0 (((([1, u8of x0.P, 0, 0] ++ [77, 65, 83, 84, 69, 82, 68, 73, 83, 67]) ++ (zeros 14)) ++ [0, 0]) ++ [85, 170])))), (Is (.int .i64 ((65536 : Int) - (wsum 0 (((([1, u8of x0.P, 0, 0] ++ [77, 65, 83, 84, 69, 82, 68, 73, 83, 67]) ++ (zeros 14)) ++ [0, 0]) ++ [85, 170]))))), (Is (.int .i64 (((65536 : Int) - (wsum 0 (((([1, u8of x0.P, 0, 0] ++ [77, 65, 83, 84, 69, 82, 68, 73, 83, 67]) ++ (zeros 14)) ++ [0, 0]) ++ [85, 170]))) % 65536))), (Is (.string (B (le 2 (((65536 : Int) - (wsum 0 (((([1, u8of x0.P, 0, 0] ++ [77, 65, 83, 84, 69, 82, 68, 73, 83, 67]) ++ (zeros 14)) ++ [0, 0]) ++ [85, 170]))) % 65536))))), (Is (.string (B ((([1, u8of x0.P, 0, 0] ++ [77, 65, 83, 84, 69, 82, 68, 73, 83, 67]) ++ (zeros 14)) ++ (le 2 (((65536 : Int) - (wsum 0 (((([1, u8of x0.P, 0, 0] ++ [77, 65, 83, 84, 69, 82, 68, 73, 83, 67]) ++ (zeros 14)) ++ [0, 0]) ++ [85, 170]))) % 65536)))))), (Is (.string (B [85, 170]))), (Is (.string (B (((([1, u8of x0.P, 0, 0] ++ [77, 65, 83, 84, 69, 82, 68, 73, 83, 67]) ++ (zeros 14)) ++ (le 2 (((65536 : Int) - (wsum 0 (((([1, u8of x0.P, 0, 0] ++ [77, 65, 83, 84, 69, 82, 68, 73, 83, 67]) ++ (zeros 14)) ++ [0, 0]) ++ [85, 170]))) % 65536))) ++ [85, 170])))), (Is (.slice A l.length c)), (Is (.pointer (some (el A 6 0 0)))), (Is (.agg #[.int .i64 x0.P, .int .i64 x0.M, .int .i64 x0.S, .int .i64 x0.C, .int .i64 x0.L, .bool x0.b])), (Is (.string (B (imgB x0)))), (Is (.string (B ((((([1, u8of x0.P, 0, 0] ++ [77, 65, 83, 84, 69, 82, 68, 73, 83, 67]) ++ (zeros 14)) ++ (le 2 (((65536 : Int) - (wsum 0 (((([1, u8of x0.P, 0, 0] ++ [77, 65, 83, 84, 69, 82, 68, 73, 83, 67]) ++ (zeros 14)) ++ [0, 0]) ++ [85, 170]))) % 65536))) ++ [85, 170]) ++ (imgB x0)))))] [17] (by kernel_rfl) (Sub.refl _) (by kernel_rfl) (by kernel_rfl) (by kernel_rfl) rfl (by kernel_rfl) (ds_ext (Stays.spec (.is _ (.is _ (.is _ (.is _ (.is _ (.is _ (.is _ (.is _ (.is _ (.is _ (.is _ (.is _ (.is _ (.is _ (.is _ (.is _ (.is _ (.nil)))))))))))))))))))) ⟨?_, ?_, ?_, ?_, ?_, ?_, ?_, ?_, ?_, ?_, ?_, ?_, ?_, ?_, ?_, ?_, ?_, trivial⟩ ?_
        · intro Q act_ wI hxI ha hp
          have xw_wI : Ext w wI := Ext.tr xw_w4 hxI
          exact h_evA (v := .string (B (([1, u8of x0.P, 0, 0] ++ [77, 65, 83, 84, 69, 82, 68, 73, 83, 67]) ++ (zeros 14)))) ha rfl (e_move rfl) rfl rfl (Ext.rfl' _)
        · intro Q act_ wI hxI ha hp
          have xw_wI : Ext w wI := Ext.tr xw_w4 hxI
          exact h_evA (v := .string (B (([1, u8of x0.P, 0, 0] ++ [77, 65, 83, 84, 69, 82, 68, 73, 83, 67]) ++ (zeros 14)))) ha rfl (e_move rfl) rfl rfl (Ext.rfl' _)
        · intro Q act_ wI hxI ha hp
          have xw_wI : Ext w wI := Ext.tr xw_w4 hxI
          have ha := ha.add (show act_.tmps.getD 39 undef = .string (B (([1, u8of x0.P, 0, 0] ++ [77, 65, 83, 84, 69, 82, 68, 73, 83, 67]) ++ (zeros 14))) from hp 1 (by kernel_rfl) (by decide))
          exact h_evA (v := .string (B ((([1, u8of x0.P, 0, 0] ++ [77, 65, 83, 84, 69, 82, 68, 73, 83, 67]) ++ (zeros 14)) ++ [0, 0]))) ha rfl (e_sadd rfl rfl (by simp [valHead])) rfl rfl (Ext.rfl' _)
        · intro Q act_ wI hxI ha hp
          have xw_wI : Ext w wI := Ext.tr xw_w4 hxI
          exact h_evA (v := .string (B [85, 170])) ha rfl (e_move rfl) rfl rfl (Ext.rfl' _)
        · intro Q act_ wI hxI ha hp
          have xw_wI : Ext w wI := Ext.tr xw_w4 hxI
          have ha := ha.add (show act_.tmps.getD 40 undef = .string (B ((([1, u8of x0.P, 0, 0] ++ [77, 65, 83, 84, 69, 82, 68, 73, 83, 67]) ++ (zeros 14)) ++ [0, 0])) from hp 2 (by kernel_rfl) (by decide))
          have ha := ha.add (show act_.tmps.getD 41 undef = .string (B [85, 170]) from hp 3 (by kernel_rfl) (by decide))
          exact h_evA (v := .string (B (((([1, u8of x0.P, 0, 0] ++ [77, 65, 83, 84, 69, 82, 68, 73, 83, 67]) ++ (zeros 14)) ++ [0, 0]) ++ [85, 170]))) ha rfl (e_sadd rfl rfl (by simp [valHead])) rfl rfl (Ext.rfl' _)
        · intro Q act_ wI hxI ha hp
          have xw_wI : Ext w wI := Ext.tr xw_w4 hxI
          have ha := ha.add (show act_.tmps.getD 42 undef = .string (B (((([1, u8of x0.P, 0, 0] ++ [77, 65, 83, 84, 69, 82, 68, 73, 83, 67]) ++ (zeros 14)) ++ [0, 0]) ++ [85, 170])) from hp 4 (by kernel_rfl) (by decide))
          exact h_callA ha ent17 rfl rfl rfl (rsum_c _ wI (by simp [valHead, le_length])) rfl (by rintro _ w1 ⟨rfl, hR⟩; exact ⟨rfl, hR⟩)
        · intro Q act_ wI hxI ha hp
          have xw_wI : Ext w wI := Ext.tr xw_w4 hxI
          have ha := ha.add (show act_.tmps.getD 43 undef = .int .i64 (wsum 0 (((([1, u8of x0.P, 0, 0] ++ [77, 65, 83, 84, 69, 82, 68, 73, 83, 67]) ++ (zeros 14)) ++ [0, 0]) ++ [85, 170])) from hp 5 (by kernel_rfl) (by decide))
          exact h_evA (v := .int .i64 ((65536 : Int) - (wsum 0 (((([1, u8of x0.P, 0, 0] ++ [77, 65, 83, 84, 69, 82, 68, 73, 83, 67]) ++ (zeros 14)) ++ [0, 0]) ++ [85, 170])))) ha rfl (e_sub rfl rfl (by have hw_ := wsum_bound (((([1, u8of x0.P, 0, 0] ++ [77, 65, 83, 84, 69, 82, 68, 73, 83, 67]) ++ zeros 14) ++ [0, 0]) ++ [85, 170]) 0 (by decide) (by decide); omega)) rfl rfl (Ext.rfl' _)
        · intro Q act_ wI hxI ha hp
          have xw_wI : Ext w wI := Ext.tr xw_w4 hxI
          have ha := ha.add (show act_.tmps.getD 44 undef = .int .i64 ((65536 : Int) - (wsum 0 (((([1, u8of x0.P, 0, 0] ++ [77, 65, 83, 84, 69, 82, 68, 73, 83, 67]) ++ (zeros 14)) ++ [0, 0]) ++ [85, 170]))) from hp 6 (by kernel_rfl) (by decide))
          exact h_evA (v := .int .i64 (((65536 : Int) - (wsum 0 (((([1, u8of x0.P, 0, 0] ++ [77, 65, 83, 84, 69, 82, 68, 73, 83, 67]) ++ (zeros 14)) ++ [0, 0]) ++ [85, 170]))) % 65536)) ha rfl (e_rem rfl rfl (by have hw_ := wsum_bound (((([1, u8of x0.P, 0, 0] ++ [77, 65, 83, 84, 69, 82, 68, 73, 83, 67]) ++ zeros 14) ++ [0, 0]) ++ [85, 170]) 0 (by decide) (by decide); omega) (by omega)) rfl rfl (Ext.rfl' _)
        · intro Q act_ wI hxI ha hp
          have xw_wI : Ext w wI := Ext.tr xw_w4 hxI
          have ha := ha.add (show act_.tmps.getD 45 undef = .int .i64 (((65536 : Int) - (wsum 0 (((([1, u8of x0.P, 0, 0] ++ [77, 65, 83, 84, 69, 82, 68, 73, 83, 67]) ++ (zeros 14)) ++ [0, 0]) ++ [85, 170]))) % 65536) from hp 7 (by kernel_rfl) (by decide))
          exact h_callA ha ent31 rfl rfl rfl (rnumberF_c _ 2 wI (fits_of (by omega) (by omega)) (by decide) (by decide) (by omega)) rfl (by rintro _ w1 ⟨rfl, hR⟩; exact ⟨rfl, hR⟩)
        · intro Q act_ wI hxI ha hp
          have xw_wI : Ext w wI := Ext.tr xw_w4 hxI
          have ha := ha.add (show act_.tmps.getD 38 undef = .string (B (([1, u8of x0.P, 0, 0] ++ [77, 65, 83, 84, 69, 82, 68, 73, 83, 67]) ++ (zeros 14))) from hp 0 (by kernel_rfl) (by decide))
          have ha := ha.add (show act_.tmps.getD 46 undef = .string (B (le 2 (((65536 : Int) - (wsum 0 (((([1, u8of x0.P, 0, 0] ++ [77, 65, 83, 84, 69, 82, 68, 73, 83, 67]) ++ (zeros 14)) ++ [0, 0]) ++ [85, 170]))) % 65536))) from hp 8 (by kernel_rfl) (by decide))
          exact h_evA (v := .string (B ((([1, u8of x0.P, 0, 0] ++ [77, 65, 83, 84, 69, 82, 68, 73, 83, 67]) ++ (zeros 14)) ++ (le 2 (((65536 : Int) - (wsum 0 (((([1, u8of x0.P, 0, 0] ++ [77, 65, 83, 84, 69, 82, 68, 73, 83, 67]) ++ (zeros 14)) ++ [0, 0]) ++ [85, 170]))) % 65536))))) ha rfl (e_sadd rfl rfl (by simp [valHead, le_length])) rfl rfl (Ext.rfl' _)
        · intro Q act_ wI hxI ha hp
          have xw_wI : Ext w wI := Ext.tr xw_w4 hxI
          exact h_evA (v := .string (B [85, 170])) ha rfl (e_move rfl) rfl rfl (Ext.rfl' _)
        · intro Q act_ wI hxI ha hp
          have xw_wI : Ext w wI := Ext.tr xw_w4 hxI
          have ha := ha.add (show act_.tmps.getD 47 undef = .string (B ((([1, u8of x0.P, 0, 0] ++ [77, 65, 83, 84, 69, 82, 68, 73, 83, 67]) ++ (zeros 14)) ++ (le 2 (((65536 : Int) - (wsum 0 (((([1, u8of x0.P, 0, 0] ++ [77, 65, 83, 84, 69, 82, 68, 73, 83, 67]) ++ (zeros 14)) ++ [0, 0]) ++ [85, 170]))) % 65536)))) from hp 9 (by kernel_rfl) (by decide))
          have ha := ha.add (show act_.tmps.getD 48 undef = .string (B [85, 170]) from hp 10 (by kernel_rfl) (by decide))
          exact h_evA (v := .string (B (((([1, u8of x0.P, 0, 0] ++ [77, 65, 83, 84, 69, 82, 68, 73, 83, 67]) ++ (zeros 14)) ++ (le 2 (((65536 : Int) - (wsum 0 (((([1, u8of x0.P, 0, 0] ++ [77, 65, 83, 84, 69, 82, 68, 73, 83, 67]) ++ (zeros 14)) ++ [0, 0]) ++ [85, 170]))) % 65536))) ++ [85, 170]))) ha rfl (e_sadd rfl rfl (by simp [valHead, le_length])) rfl rfl (Ext.rfl' _)
        · intro Q act_ wI hxI ha hp
          have xw_wI : Ext w wI := Ext.tr xw_w4 hxI
          exact h_evA (v := .slice A l.length c) ha rfl (e_move rfl) rfl rfl (Ext.rfl' _)
        · intro Q act_ wI hxI ha hp
          have xw_wI : Ext w wI := Ext.tr xw_w4 hxI
          have ha := ha.add (show act_.tmps.getD 50 undef = .slice A l.length c from hp 12 (by kernel_rfl) (by decide))
          exact h_evA (v := .pointer (some (el A 6 0 0))) ha rfl (e_idxEl (e := x0) Try.underlying22 Try.sizeOf34 rfl rfl (hl.ext xw_wI) hx0 (by omega) rfl) rfl rfl (Ext.rfl' _)
        · intro Q act_ wI hxI ha hp
          have xw_wI : Ext w wI := Ext.tr xw_w4 hxI
          have ha := ha.add (show act_.tmps.getD 51 undef = .pointer (some (el A 6 0 0)) from hp 13 (by kernel_rfl) (by decide))
          exact h_evA (v := .agg #[.int .i64 x0.P, .int .i64 x0.M, .int .i64 x0.S, .int .i64 x0.C, .int .i64 x0.L, .bool x0.b]) ha rfl (e_ldElA (xs := l) (enc := Img.enc) (e := x0) rfl (hl.ext xw_wI) hx0 Try.isAgg34 Try.sizeOf34 rfl) rfl rfl (Ext.rfl' _)
        · intro Q act_ wI hxI ha hp
          have xw_wI : Ext w wI := Ext.tr xw_w4 hxI
          have ha := ha.add (show act_.tmps.getD 52 undef = .agg #[.int .i64 x0.P, .int .i64 x0.M, .int .i64 x0.S, .int .i64 x0.C, .int .i64 x0.L, .bool x0.b] from hp 14 (by kernel_rfl) (by decide))
          exact h_callA ha ent32 rfl rfl rfl (rimage_c x0 wI (hvx0)) rfl (by rintro _ w1 ⟨rfl, hR⟩; exact ⟨rfl, hR⟩)
        · intro Q act_ wI hxI ha hp
          have xw_wI : Ext w wI := Ext.tr xw_w4 hxI
          have ha := ha.add (show act_.tmps.getD 49 undef = .string (B (((([1, u8of x0.P, 0, 0] ++ [77, 65, 83, 84, 69, 82, 68, 73, 83, 67]) ++ (zeros 14)) ++ (le 2 (((65536 : Int) - (wsum 0 (((([1, u8of x0.P, 0, 0] ++ [77, 65, 83, 84, 69, 82, 68, 73, 83, 67]) ++ (zeros 14)) ++ [0, 0]) ++ [85, 170]))) % 65536))) ++ [85, 170])) from hp 11 (by kernel_rfl) (by decide))
          have ha := ha.add (show act_.tmps.getD 53 undef = .string (B (imgB x0)) from hp 15 (by kernel_rfl) (by decide))
          exact h_evA (v := .string (B ((((([1, u8of x0.P, 0, 0] ++ [77, 65, 83, 84, 69, 82, 68, 73, 83, 67]) ++ (zeros 14)) ++ (le 2 (((65536 : Int) - (wsum 0 (((([1, u8of x0.P, 0, 0] ++ [77, 65, 83, 84, 69, 82, 68, 73, 83, 67]) ++ (zeros 14)) ++ [0, 0]) ++ [85, 170]))) % 65536))) ++ [85, 170]) ++ (imgB x0)))) ha rfl (e_sadd rfl rfl (by simp [valHead, le_length, imgB_length])) rfl rfl (Ext.rfl' _)
        intro vs_ w5 hx_w5 hvs act_ ha hv
        have xw_w5 : Ext w w5 := Ext.tr xw_w4 hx_w5
        have ha := ha.add ((hv 16 (by decide)).trans (show vs_ 16 = .string (B ((((([1, u8of x0.P, 0, 0] ++ [77, 65, 83, 84, 69, 82, 68, 73, 83, 67]) ++ (zeros 14)) ++ (le 2 (((65536 : Int) - (wsum 0 (((([1, u8of x0.P, 0, 0] ++ [77, 65, 83, 84, 69, 82, 68, 73, 83, 67]) ++ (zeros 14)) ++ [0, 0]) ++ [85, 170]))) % 65536))) ++ [85, 170]) ++ (imgB x0))) from hvs 16 (by decide)))
        refine st_go ha ?_
        clear ha hv hvs
        refine st_ev (v := .string (B ((((([1, u8of x0.P, 0, 0] ++ [77, 65, 83, 84, 69, 82, 68, 73, 83, 67]) ++ (zeros 14)) ++ (le 2 (((65536 : Int) - (wsum 0 (((([1, u8of x0.P, 0, 0] ++ [77, 65, 83, 84, 69, 82, 68, 73, 83, 67]) ++ (zeros 14)) ++ [0, 0]) ++ [85, 170]))) % 65536))) ++ [85, 170]) ++ (imgB x0)))) rfl (e_assign rfl) ?_
        refine st_nil (nrm_k ?_)
        refine sc_seq ?_
        refine sc_seq ?_
        refine sc_reg ?_
        refine Go.XK.s (v := .int .i64 1) (e_assign rfl) ?_
        refine sl_nil (nrm_k ?_)
        refine sc_block ?_
        refine sc_loop (fun m_ l_ w_ => ∃ (i : Nat) (acc : List UInt8), m_ = l.length - i ∧ l_ = [(8, .int .i64 (i : Int)), (7, .string (B acc)), (0, .slice A l.length c)] ∧ Ext w w_ ∧ (1 ≤ i ∧ i ≤ l.length) ∧ acc ++ tailB (l.drop i) = encB l ∧ acc.length = 64 * i) _ [(8, .int .i64 (1 : Int)), (7, .string (B (valHead x0.P ++ le 2 ((65536 - wsum 0 ((valHead x0.P ++ [0, 0]) ++ [85, 170])) % 65536) ++ [85, 170] ++ imgB x0))), (0, .slice A l.length c)] ⟨1, valHead x0.P ++ le 2 ((65536 - wsum 0 ((valHead x0.P ++ [0, 0]) ++ [85, 170])) % 65536) ++ [85, 170] ++ imgB x0, rfl, rfl, xw_w5, ⟨⟨by omega, by omega⟩, by rw [encB_first hx0]; simp only [valB, valKey, List.append_assoc], by simp [valHead, le_length, imgB_length]⟩⟩ (.cons rfl (.cons rfl (.cons rfl (.nil)))) ?_
        rintro j7 _ w6 ⟨i, acc, rfl, rfl, xw_w6, ⟨hi, hacc, hal⟩⟩
        refine sc_seq ?_
        refine sc_seq ?_
        refine sc_reg ?_
        refine Go.XK.s (v := .int .i64 (i : Int)) (e_move rfl) ?_
        refine Go.XK.s (v := .slice A l.length c) (e_move rfl) ?_
        refine Go.XK.s (v := .int .i64 (l.length : Int)) (e_len Try.underlying22 rfl) ?_
        refine Go.XK.s (v := .bool (decide ((i : Int) < (l.length : Int)))) (e_lt rfl rfl) ?_
        refine sl_nil (nrm_k ?_)
        refine sc_ifd rfl (fun c58 => ?_) (fun c58 => ?_)
        ·
          obtain ⟨y, hy⟩ : ∃ y, l[i]? = some y := ⟨_, List.getElem?_eq_getElem (by omega)⟩
          have hvy := all_at hall hy
          have hPy := (Img.okv hvy).P
          refine sc_skip (nrm_k ?_)
          refine sc_seq ?_
          refine sc_block ?_
          refine sc_seq ?_
          refine sc_reg ?_
          refine Go.XK.s (v := .int .u8 144) (e_assign rfl) ?_
          refine sl_nil (nrm_k ?_)
          refine sc_seq ?_
          refine sc_seq ?_
          refine sc_reg ?_
          refine Go.XK.s (v := .int .i64 (i : Int)) (e_move rfl) ?_
          refine Go.XK.s (v := .slice A l.length c) (e_move rfl) ?_
          refine Go.XK.s (v := .int .i64 (l.length : Int)) (e_len Try.underlying22 rfl) ?_
          refine Go.XK.s (v := .int .i64 ((l.length : Int) - 1)) (e_sub rfl rfl (by omega)) ?_
          refine Go.XK.s (v := .bool (decide ((i : Int) = (l.length : Int) - 1))) (e_eq rfl rfl) ?_
          refine sl_nil (nrm_k ?_)
          refine sc_ifd rfl (fun c65 => ?_) (fun c65 => ?_)
          ·
            have hlast : (if l.drop (i + 1) = [] then (145 : UInt8) else 144) = 145 := if_pos (List.drop_eq_nil_of_le (by omega))
            refine sc_reg ?_
            refine Go.XK.s (v := .int .u8 145) (e_assign rfl) ?_
            refine sl_nil (nrm_k ?_)
            refine sc_free [(9, .int .u8 145), (65, .bool (decide ((i : Int) = (l.length : Int) - 1))), (64, .int .i64 ((l.length : Int) - 1)), (63, .int .i64 (l.length : Int)), (62, .slice A l.length c), (61, .int .i64 (i : Int)), (58, .bool (decide ((i : Int) < (l.length : Int)))), (57, .int .i64 (l.length : Int)), (56, .slice A l.length c), (55, .int .i64 (i : Int)), (8, .int .i64 (i : Int)), (7, .string (B acc)), (0, .slice A l.length c)] [66, 67, 68, 69, 70, 71, 72, 73, 74, 75, 76, 77, 78, 79, 80, 81, 82, 83, 84] [(Is (.string (B acc))), (Is (.int .u8 145)), (Is (.slice A l.length c)), (Is (.int .i64 (i : Int))), (Is (.pointer (some (el A 6 (i : Int) 0)))), (Is (.pointer (some (el A 6 (i : Int) 0)))), (Is (.int .i64 y.P)), (Is (.int .u8 ((u8of y.P).toNat))), (fun VV WV => ∃ b_, VV = Value.slice (some ⟨b_, 0, none⟩) 4 4 ∧ Blk WV b_ 5 [.int .u8 145, .int .u8 ((u8of y.P).toNat), .int .u8 1, .int .u8 0]), (Is (.string (B [145, u8of y.P, 1, 0]))), (Is (.string (B (acc ++ [145, u8of y.P, 1, 0])))), (Is (.string (B (zeros 28)))), (Is (.string (B ((acc ++ [145, u8of y.P, 1, 0]) ++ (zeros 28))))), (Is (.slice A l.length c)), (Is (.int .i64 (i : Int))), (Is (.pointer (some (el A 6 (i : Int) 0)))), (Is (.agg #[.int .i64 y.P, .int .i64 y.M, .int .i64 y.S, .int .i64 y.C, .int .i64 y.L, .bool y.b])), (Is (.string (B (imgB y)))), (Is (.string (B (((acc ++ [145, u8of y.P, 1, 0]) ++ (zeros 28)) ++ (imgB y)))))] [19] (by kernel_rfl) ((.cons rfl (.cons rfl (.cons rfl (.cons rfl (.cons rfl (.cons rfl (.cons rfl (.cons rfl (.cons rfl (.cons rfl (.cons rfl (.cons rfl (.cons rfl .nil)))))))))))))) (by kernel_rfl) (by kernel_rfl) (by kernel_rfl) rfl (by kernel_rfl) (ds_ext (Stays.spec (.is _ (.is _ (.is _ (.is _ (.is _ (.is _ (.is _ (.is _ (.any (fun _ _ _ ⟨b_, e_, h_⟩ hx_ => ⟨b_, e_, h_.ext hx_⟩) (.is _ (.is _ (.is _ (.is _ (.is _ (.is _ (.is _ (.is _ (.is _ (.is _ (.nil)))))))))))))))))))))) ⟨?_, ?_, ?_, ?_, ?_, ?_, ?_, ?_, ?_, ?_, ?_, ?_, ?_, ?_, ?_, ?_, ?_, ?_, ?_, trivial⟩ ?_
            · intro Q act_ wI hxI ha hp
              have xw_wI : Ext w wI := Ext.tr xw_w6 hxI
              exact h_evA (v := .string (B acc)) ha rfl (e_move rfl) rfl rfl (Ext.rfl' _)
            · intro Q act_ wI hxI ha hp
              have xw_wI : Ext w wI := Ext.tr xw_w6 hxI
              exact h_evA (v := .int .u8 145) ha rfl (e_move rfl) rfl rfl (Ext.rfl' _)
            · intro Q act_ wI hxI ha hp
              have xw_wI : Ext w wI := Ext.tr xw_w6 hxI
              exact h_evA (v := .slice A l.length c) ha rfl (e_move rfl) rfl rfl (Ext.rfl' _)
            · intro Q act_ wI hxI ha hp
              have xw_wI : Ext w wI := Ext.tr xw_w6 hxI
              exact h_evA (v := .int .i64 (i : Int)) ha rfl (e_move rfl) rfl rfl (Ext.rfl' _)
            · intro Q act_ wI hxI ha hp
              have xw_wI : Ext w wI := Ext.tr xw_w6 hxI
              have ha := ha.add (show act_.tmps.getD 68 undef = .slice A l.length c from hp 2 (by kernel_rfl) (by decide))
              have ha := ha.add (show act_.tmps.getD 69 undef = .int .i64 (i : Int) from hp 3 (by kernel_rfl) (by decide))
              exact h_evA (v := .pointer (some (el A 6 (i : Int) 0))) ha rfl (e_idxEl (e := y) Try.underlying22 Try.sizeOf34 rfl rfl (hl.ext xw_wI) hy (by omega) rfl) rfl rfl (Ext.rfl' _)
            · intro Q act_ wI hxI ha hp
              have xw_wI : Ext w wI := Ext.tr xw_w6 hxI
              have ha := ha.add (show act_.tmps.getD 70 undef = .pointer (some (el A 6 (i : Int) 0)) from hp 4 (by kernel_rfl) (by decide))
              exact h_evA (v := .pointer (some (el A 6 (i : Int) 0))) ha rfl (e_fieldEl (fsz := 1) Try.underlying34 rfl Try.sizeOf3 (by decide) rfl rfl) rfl rfl (Ext.rfl' _)
            · intro Q act_ wI hxI ha hp
              have xw_wI : Ext w wI := Ext.tr xw_w6 hxI
              have ha := ha.add (show act_.tmps.getD 71 undef = .pointer (some (el A 6 (i : Int) 0)) from hp 5 (by kernel_rfl) (by decide))
              exact h_evA (v := .int .i64 y.P) ha rfl (e_ldEl (xs := l) (enc := Img.enc) (e := y) rfl (hl.ext xw_wI) hy Try.isAgg3 rfl) rfl rfl (Ext.rfl' _)
            · intro Q act_ wI hxI ha hp
              have xw_wI : Ext w wI := Ext.tr xw_w6 hxI
              have ha := ha.add (show act_.tmps.getD 72 undef = .int .i64 y.P from hp 6 (by kernel_rfl) (by decide))
              exact h_evA (v := .int .u8 ((u8of y.P).toNat)) ha rfl (e_intu8 Try.underlying3 Try.underlying5 rfl) rfl rfl (Ext.rfl' _)
            · intro Q act_ wI hxI ha hp
              have xw_wI : Ext w wI := Ext.tr xw_w6 hxI
              have ha := ha.add (show act_.tmps.getD 67 undef = .int .u8 145 from hp 1 (by kernel_rfl) (by decide))
              have ha := ha.add (show act_.tmps.getD 73 undef = .int .u8 ((u8of y.P).toNat) from hp 7 (by kernel_rfl) (by decide))
              exact h_evA ha rfl (e_buildSlice (vs := [(0, .int .u8 145), (1, .int .u8 ((u8of y.P).toNat)), (2, .int .u8 1), (3, .int .u8 0)]) (v := .slice (some ⟨wI.heap.size, 0, none⟩) 4 4) (w1 := wI.alloc (.cells ([.int .u8 145, .int .u8 ((u8of y.P).toNat), .int .u8 1, .int .u8 0] : List Value).toArray 5)) rfl (by kernel_rfl)) rfl ⟨_, rfl, Blk.new wI 5 [.int .u8 145, .int .u8 ((u8of y.P).toNat), .int .u8 1, .int .u8 0]⟩ (Ext.alloc _ _)
            · intro Q act_ wI hxI ha hp
              have xw_wI : Ext w wI := Ext.tr xw_w6 hxI
              obtain ⟨b74, e74, hb74⟩ := (show ∃ b_, act_.tmps.getD 74 undef = Value.slice (some ⟨b_, 0, none⟩) 4 4 ∧ Blk wI b_ 5 [.int .u8 145, .int .u8 ((u8of y.P).toNat), .int .u8 1, .int .u8 0] from hp 8 (by kernel_rfl) (by decide))
              have ha := ha.add e74
              exact h_evA (v := .string (B [145, u8of y.P, 1, 0])) ha rfl (e_convr (l := _) rfl (conv_blk (s := [145, u8of y.P, 1, 0]) Try.underlying35 Try.underlying5 Try.underlying9 hb74 rfl)) rfl rfl (Ext.rfl' _)
            · intro Q act_ wI hxI ha hp
              have xw_wI : Ext w wI := Ext.tr xw_w6 hxI
              have ha := ha.add (show act_.tmps.getD 66 undef = .string (B acc) from hp 0 (by kernel_rfl) (by decide))
              have ha := ha.add (show act_.tmps.getD 75 undef = .string (B [145, u8of y.P, 1, 0]) from hp 9 (by kernel_rfl) (by decide))
              exact h_evA (v := .string (B (acc ++ [145, u8of y.P, 1, 0]))) ha rfl (e_sadd rfl rfl (by simp [hal]; omega)) rfl rfl (Ext.rfl' _)
            · intro Q act_ wI hxI ha hp
              have xw_wI : Ext w wI := Ext.tr xw_w6 hxI
              exact h_callA ha ent30 rfl rfl rfl (rrep_c (0 : UInt8) 28 wI (by decide)) rfl (by rintro _ w1 ⟨rfl, hR⟩; exact ⟨rfl, hR⟩)
            · intro Q act_ wI hxI ha hp
              have xw_wI : Ext w wI := Ext.tr xw_w6 hxI
              have ha := ha.add (show act_.tmps.getD 76 undef = .string (B (acc ++ [145, u8of y.P, 1, 0])) from hp 10 (by kernel_rfl) (by decide))
              have ha := ha.add (show act_.tmps.getD 77 undef = .string (B (zeros 28)) from hp 11 (by kernel_rfl) (by decide))
              exact h_evA (v := .string (B ((acc ++ [145, u8of y.P, 1, 0]) ++ (zeros 28)))) ha rfl (e_sadd rfl rfl (by simp [hal, zeros]; omega)) rfl rfl (Ext.rfl' _)
            · intro Q act_ wI hxI ha hp
              have xw_wI : Ext w wI := Ext.tr xw_w6 hxI
              exact h_evA (v := .slice A l.length c) ha rfl (e_move rfl) rfl rfl (Ext.rfl' _)
            · intro Q act_ wI hxI ha hp
              have xw_wI : Ext w wI := Ext.tr xw_w6 hxI
              exact h_evA (v := .int .i64 (i : Int)) ha rfl (e_move rfl) rfl rfl (Ext.rfl' _)
            · intro Q act_ wI hxI ha hp
              have xw_wI : Ext w wI := Ext.tr xw_w6 hxI
              have ha := ha.add (show act_.tmps.getD 79 undef = .slice A l.length c from hp 13 (by kernel_rfl) (by decide))
              have ha := ha.add (show act_.tmps.getD 80 undef = .int .i64 (i : Int) from hp 14 (by kernel_rfl) (by decide))
              exact h_evA (v := .pointer (some (el A 6 (i : Int) 0))) ha rfl (e_idxEl (e := y) Try.underlying22 Try.sizeOf34 rfl rfl (hl.ext xw_wI) hy (by omega) rfl) rfl rfl (Ext.rfl' _)
            · intro Q act_ wI hxI ha hp
              have xw_wI : Ext w wI := Ext.tr xw_w6 hxI
              have ha := ha.add (show act_.tmps.getD 81 undef = .pointer (some (el A 6 (i : Int) 0)) from hp 15 (by kernel_rfl) (by decide))
              exact h_evA (v := .agg #[.int .i64 y.P, .int .i64 y.M, .int .i64 y.S, .int .i64 y.C, .int .i64 y.L, .bool y.b]) ha rfl (e_ldElA (xs := l) (enc := Img.enc) (e := y) rfl (hl.ext xw_wI) hy Try.isAgg34 Try.sizeOf34 rfl) rfl rfl (Ext.rfl' _)
            · intro Q act_ wI hxI ha hp
              have xw_wI : Ext w wI := Ext.tr xw_w6 hxI
              have ha := ha.add (show act_.tmps.getD 82 undef = .agg #[.int .i64 y.P, .int .i64 y.M, .int .i64 y.S, .int .i64 y.C, .int .i64 y.L, .bool y.b] from hp 16 (by kernel_rfl) (by decide))
              exact h_callA ha ent32 rfl rfl rfl (rimage_c y wI (hvy)) rfl (by rintro _ w1 ⟨rfl, hR⟩; exact ⟨rfl, hR⟩)
            · intro Q act_ wI hxI ha hp
              have xw_wI : Ext w wI := Ext.tr xw_w6 hxI
              have ha := ha.add (show act_.tmps.getD 78 undef = .string (B ((acc ++ [145, u8of y.P, 1, 0]) ++ (zeros 28))) from hp 12 (by kernel_rfl) (by decide))
              have ha := ha.add (show act_.tmps.getD 83 undef = .string (B (imgB y)) from hp 17 (by kernel_rfl) (by decide))
              exact h_evA (v := .string (B (((acc ++ [145, u8of y.P, 1, 0]) ++ (zeros 28)) ++ (imgB y)))) ha rfl (e_sadd rfl rfl (by simp [hal, zeros, imgB_length]; omega)) rfl rfl (Ext.rfl' _)
            intro vs_ w8 hx_w8 hvs act_ ha hv
            have xw_w8 : Ext w w8 := Ext.tr xw_w6 hx_w8
            have ha := ha.add ((hv 18 (by decide)).trans (show vs_ 18 = .string (B (((acc ++ [145, u8of y.P, 1, 0]) ++ (zeros 28)) ++ (imgB y))) from hvs 18 (by decide)))
            refine st_go ha ?_
            clear ha hv hvs
            refine st_ev (v := .string (B (((acc ++ [145, u8of y.P, 1, 0]) ++ (zeros 28)) ++ (imgB y)))) rfl (e_assign rfl) ?_
            refine st_nil (nrm_k ?_)
            refine sc_reg ?_
            refine Go.XK.s (v := .int .i64 (i : Int)) (e_move rfl) ?_
            refine Go.XK.s (v := .int .i64 ((i : Int) + 1)) (e_add rfl rfl (by omega)) ?_
            refine Go.XK.s (v := .int .i64 ((i : Int) + 1)) (e_assign rfl) ?_
            refine sl_nil ?_
            exact nrm_loopq rfl _ _ (by omega) ⟨i + 1, _, rfl, rfl, xw_w8, ⟨⟨by omega, by omega⟩, by
              rw [← hacc, drop_get hy, tailB_cons]
              simp only [hdrB, hlast, List.append_assoc, List.cons_append, List.nil_append, zeros], by simp [le_length, imgB_length, zeros]; omega⟩⟩ (.cons rfl (.cons rfl (.cons rfl (.nil))))
          ·
            have hlast : (if l.drop (i + 1) = [] then (145 : UInt8) else 144) = 144 := if_neg (fun h_ => by have := List.drop_eq_nil_iff.1 h_; omega)
            refine sc_skip (nrm_k ?_)
            refine sc_free [(65, .bool (decide ((i : Int) = (l.length : Int) - 1))), (64, .int .i64 ((l.length : Int) - 1)), (63, .int .i64 (l.length : Int)), (62, .slice A l.length c), (61, .int .i64 (i : Int)), (9, .int .u8 144), (58, .bool (decide ((i : Int) < (l.length : Int)))), (57, .int .i64 (l.length : Int)), (56, .slice A l.length c), (55, .int .i64 (i : Int)), (8, .int .i64 (i : Int)), (7, .string (B acc)), (0, .slice A l.length c)] [66, 67, 68, 69, 70, 71, 72, 73, 74, 75, 76, 77, 78, 79, 80, 81, 82, 83, 84] [(Is (.string (B acc))), (Is (.int .u8 144)), (Is (.slice A l.length c)), (Is (.int .i64 (i : Int))), (Is (.pointer (some (el A 6 (i : Int) 0)))), (Is (.pointer (some (el A 6 (i : Int) 0)))), (Is (.int .i64 y.P)), (Is (.int .u8 ((u8of y.P).toNat))), (fun VV WV => ∃ b_, VV = Value.slice (some ⟨b_, 0, none⟩) 4 4 ∧ Blk WV b_ 5 [.int .u8 144, .int .u8 ((u8of y.P).toNat), .int .u8 1, .int .u8 0]), (Is (.string (B [144, u8of y.P, 1, 0]))), (Is (.string (B (acc ++ [144, u8of y.P, 1, 0])))), (Is (.string (B (zeros 28)))), (Is (.string (B ((acc ++ [144, u8of y.P, 1, 0]) ++ (zeros 28))))), (Is (.slice A l.length c)), (Is (.int .i64 (i : Int))), (Is (.pointer (some (el A 6 (i : Int) 0)))), (Is (.agg #[.int .i64 y.P, .int .i64 y.M, .int .i64 y.S, .int .i64 y.C, .int .i64 y.L, .bool y.b])), (Is (.string (B (imgB y)))), (Is (.string (B (((acc ++ [144, u8of y.P, 1, 0]) ++ (zeros 28)) ++ (imgB y)))))] [19] (by kernel_rfl) (Sub.refl _) (by kernel_rfl) (by kernel_rfl) (by kernel_rfl) rfl (by kernel_rfl) (ds_ext (Stays.spec (.is _ (.is _ (.is _ (.is _ (.is _ (.is _ (.is _ (.is _ (.any (fun _ _ _ ⟨b_, e_, h_⟩ hx_ => ⟨b_, e_, h_.ext hx_⟩) (.is _ (.is _ (.is _ (.is _ (.is _ (.is _ (.is _ (.is _ (.is _ (.is _ (.nil)))))))))))))))))))))) ⟨?_, ?_, ?_, ?_, ?_, ?_, ?_, ?_, ?_, ?_, ?_, ?_, ?_, ?_, ?_, ?_, ?_, ?_, ?_, trivial⟩ ?_
            · intro Q act_ wI hxI ha hp
              have xw_wI : Ext w wI := Ext.tr xw_w6 hxI
              exact h_evA (v := .string (B acc)) ha rfl (e_move rfl) rfl rfl (Ext.rfl' _)
            · intro Q act_ wI hxI ha hp
              have xw_wI : Ext w wI := Ext.tr xw_w6 hxI
              exact h_evA (v := .int .u8 144) ha rfl (e_move rfl) rfl rfl (Ext.rfl' _)
            · intro Q act_ wI hxI ha hp
              have xw_wI : Ext w wI := Ext.tr xw_w6 hxI
              exact h_evA (v := .slice A l.length c) ha rfl (e_move rfl) rfl rfl (Ext.rfl' _)
            · intro Q act_ wI hxI ha hp
              have xw_wI : Ext w wI := Ext.tr xw_w6 hxI
              exact h_evA (v := .int .i64 (i : Int)) ha rfl (e_move rfl) rfl rfl (Ext.rfl' _)
            · intro Q act_ wI hxI ha hp
              have xw_wI : Ext w wI := Ext.tr xw_w6 hxI
              have ha := ha.add (show act_.tmps.getD 68 undef = .slice A l.length c from hp 2 (by kernel_rfl) (by decide))
              have ha := ha.add (show act_.tmps.getD 69 undef = .int .i64 (i : Int) from hp 3 (by kernel_rfl) (by decide))
              exact h_evA (v := .pointer (some (el A 6 (i : Int) 0))) ha rfl (e_idxEl (e := y) Try.underlying22 Try.sizeOf34 rfl rfl (hl.ext xw_wI) hy (by omega) rfl) rfl rfl (Ext.rfl' _)
            · intro Q act_ wI hxI ha hp
              have xw_wI : Ext w wI := Ext.tr xw_w6 hxI
              have ha := ha.add (show act_.tmps.getD 70 undef = .pointer (some (el A 6 (i : Int) 0)) from hp 4 (by kernel_rfl) (by decide))
              exact h_evA (v := .pointer (some (el A 6 (i : Int) 0))) ha rfl (e_fieldEl (fsz := 1) Try.underlying34 rfl Try.sizeOf3 (by decide) rfl rfl) rfl rfl (Ext.rfl' _)
            · intro Q act_ wI hxI ha hp
              have xw_wI : Ext w wI := Ext.tr xw_w6 hxI
              have ha := ha.add (show act_.tmps.getD 71 undef = .pointer (some (el A 6 (i : Int) 0)) from hp 5 (by kernel_rfl) (by decide))
              exact h_evA (v := .int .i64 y.P) ha rfl (e_ldEl (xs := l) (enc := Img.enc) (e := y) rfl (hl.ext xw_wI) hy Try.isAgg3 rfl) rfl rfl (Ext.rfl' _)
            · intro Q act_ wI hxI ha hp
              have xw_wI : Ext w wI := Ext.tr xw_w6 hxI
              have ha := ha.add (show act_.tmps.getD 72 undef = .int .i64 y.P from hp 6 (by kernel_rfl) (by decide))
              exact h_evA (v := .int .u8 ((u8of y.P).toNat)) ha rfl (e_intu8 Try.underlying3 Try.underlying5 rfl) rfl rfl (Ext.rfl' _)
            · intro Q act_ wI hxI ha hp
              have xw_wI : Ext w wI := Ext.tr xw_w6 hxI
              have ha := ha.add (show act_.tmps.getD 67 undef = .int .u8 144 from hp 1 (by kernel_rfl) (by decide))
              have ha := ha.add (show act_.tmps.getD 73 undef = .int .u8 ((u8of y.P).toNat) from hp 7 (by kernel_rfl) (by decide))
              exact h_evA ha rfl (e_buildSlice (vs := [(0, .int .u8 144), (1, .int .u8 ((u8of y.P).toNat)), (2, .int .u8 1), (3, .int .u8 0)]) (v := .slice (some ⟨wI.heap.size, 0, none⟩) 4 4) (w1 := wI.alloc (.cells ([.int .u8 144, .int .u8 ((u8of y.P).toNat), .int .u8 1, .int .u8 0] : List Value).toArray 5)) rfl (by kernel_rfl)) rfl ⟨_, rfl, Blk.new wI 5 [.int .u8 144, .int .u8 ((u8of y.P).toNat), .int .u8 1, .int .u8 0]⟩ (Ext.alloc _ _)
            · intro Q act_ wI hxI ha hp
              have xw_wI : Ext w wI := Ext.tr xw_w6 hxI
              obtain ⟨b74, e74, hb74⟩ := (show ∃ b_, act_.tmps.getD 74 undef = Value.slice (some ⟨b_, 0, none⟩) 4 4 ∧ Blk wI b_ 5 [.int .u8 144, .int .u8 ((u8of y.P).toNat), .int .u8 1, .int .u8 0] from hp 8 (by kernel_rfl) (by decide))
              have ha := ha.add e74
              exact h_evA (v := .string (B [144, u8of y.P, 1, 0])) ha rfl (e_convr (l := _) rfl (conv_blk (s := [144, u8of y.P, 1, 0]) Try.underlying35 Try.underlying5 Try.underlying9 hb74 rfl)) rfl rfl (Ext.rfl' _)
            · intro Q act_ wI hxI ha hp
              have xw_wI : Ext w wI := Ext.tr xw_w6 hxI
              have ha := ha.add (show act_.tmps.getD 66 undef = .string (B acc) from hp 0 (by kernel_rfl) (by decide))
              have ha := ha.add (show act_.tmps.getD 75 undef = .string (B [144, u8of y.P, 1, 0]) from hp 9 (by kernel_rfl) (by decide))
              exact h_evA (v := .string (B (acc ++ [144, u8of y.P, 1, 0]))) ha rfl (e_sadd rfl rfl (by simp [hal]; omega)) rfl rfl (Ext.rfl' _)
            · intro Q act_ wI hxI ha hp
              have xw_wI : Ext w wI := Ext.tr xw_w6 hxI
              exact h_callA ha ent30 rfl rfl rfl (rrep_c (0 : UInt8) 28 wI (by decide)) rfl (by rintro _ w1 ⟨rfl, hR⟩; exact ⟨rfl, hR⟩)
            · intro Q act_ wI hxI ha hp
              have xw_wI : Ext w wI := Ext.tr xw_w6 hxI
              have ha := ha.add (show act_.tmps.getD 76 undef = .string (B (acc ++ [144, u8of y.P, 1, 0])) from hp 10 (by kernel_rfl) (by decide))
              have ha := ha.add (show act_.tmps.getD 77 undef = .string (B (zeros 28)) from hp 11 (by kernel_rfl) (by decide))
              exact h_evA (v := .string (B ((acc ++ [144, u8of y.P, 1, 0]) ++ (zeros 28)))) ha rfl (e_sadd rfl rfl (by simp [hal, zeros]; omega)) rfl rfl (Ext.rfl' _)
            · intro Q act_ wI hxI ha hp
              have xw_wI : Ext w wI := Ext.tr xw_w6 hxI
              exact h_evA (v := .slice A l.length c) ha rfl (e_move rfl) rfl rfl (Ext.rfl' _)
            · intro Q act_ wI hxI ha hp
              have xw_wI : Ext w wI := Ext.tr xw_w6 hxI
              exact h_evA (v := .int .i64 (i : Int)) ha rfl (e_move rfl) rfl rfl (Ext.rfl' _)
            · intro Q act_ wI hxI ha hp
              have xw_wI : Ext w wI := Ext.tr xw_w6 hxI
              have ha := ha.add (show act_.tmps.getD 79 undef = .slice A l.length c from hp 13 (by kernel_rfl) (by decide))
              have ha := ha.add (show act_.tmps.getD 80 undef = .int .i64 (i : Int) from hp 14 (by kernel_rfl) (by decide))
              exact h_evA (v := .pointer (some (el A 6 (i : Int) 0))) ha rfl (e_idxEl (e := y) Try.underlying22 Try.sizeOf34 rfl rfl (hl.ext xw_wI) hy (by omega) rfl) rfl rfl (Ext.rfl' _)
            · intro Q act_ wI hxI ha hp
              have xw_wI : Ext w wI := Ext.tr xw_w6 hxI
              have ha := ha.add (show act_.tmps.getD 81 undef = .pointer (some (el A 6 (i : Int) 0)) from hp 15 (by kernel_rfl) (by decide))
              exact h_evA (v := .agg #[.int .i64 y.P, .int .i64 y.M, .int .i64 y.S, .int .i64 y.C, .int .i64 y.L, .bool y.b]) ha rfl (e_ldElA (xs := l) (enc := Img.enc) (e := y) rfl (hl.ext xw_wI) hy Try.isAgg34 Try.sizeOf34 rfl) rfl rfl (Ext.rfl' _)
            · intro Q act_ wI hxI ha hp
              have xw_wI : Ext w wI := Ext.tr xw_w6 hxI
              have ha := ha.add (show act_.tmps.getD 82 undef = .agg #[.int .i64 y.P, .int .i64 y.M, .int .i64 y.S, .int .i64 y.C, .int .i64 y.L, .bool y.b] from hp 16 (by kernel_rfl) (by decide))
              exact h_callA ha ent32 rfl rfl rfl (rimage_c y wI (hvy)) rfl (by rintro _ w1 ⟨rfl, hR⟩; exact ⟨rfl, hR⟩)
            · intro Q act_ wI hxI ha hp
              have xw_wI : Ext w wI := Ext.tr xw_w6 hxI
              have ha := ha.add (show act_.tmps.getD 78 undef = .string (B ((acc ++ [144, u8of y.P, 1, 0]) ++ (zeros 28))) from hp 12 (by kernel_rfl) (by decide))
              have ha := ha.add (show act_.tmps.getD 83 undef = .string (B (imgB y)) from hp 17 (by kernel_rfl) (by decide))
              exact h_evA (v := .string (B (((acc ++ [144, u8of y.P, 1, 0]) ++ (zeros 28)) ++ (imgB y)))) ha rfl (e_sadd rfl rfl (by simp [hal, zeros, imgB_length]; omega)) rfl rfl (Ext.rfl' _)
            intro vs_ w9 hx_w9 hvs act_ ha hv
            have xw_w9 : Ext w w9 := Ext.tr xw_w6 hx_w9
            have ha := ha.add ((hv 18 (by decide)).trans (show vs_ 18 = .string (B (((acc ++ [144, u8of y.P, 1, 0]) ++ (zeros 28)) ++ (imgB y))) from hvs 18 (by decide)))
            refine st_go ha ?_
            clear ha hv hvs
            refine st_ev (v := .string (B (((acc ++ [144, u8of y.P, 1, 0]) ++ (zeros 28)) ++ (imgB y)))) rfl (e_assign rfl) ?_
            refine st_nil (nrm_k ?_)
            refine sc_reg ?_
            refine Go.XK.s (v := .int .i64 (i : Int)) (e_move rfl) ?_
            refine Go.XK.s (v := .int .i64 ((i : Int) + 1)) (e_add rfl rfl (by omega)) ?_
            refine Go.XK.s (v := .int .i64 ((i : Int) + 1)) (e_assign rfl) ?_
            refine sl_nil ?_
            exact nrm_loopq rfl _ _ (by omega) ⟨i + 1, _, rfl, rfl, xw_w9, ⟨⟨by omega, by omega⟩, by
              rw [← hacc, drop_get hy, tailB_cons]
              simp only [hdrB, hlast, List.append_assoc, List.cons_append, List.nil_append, zeros], by simp [le_length, imgB_length, zeros]; omega⟩⟩ (.cons rfl (.cons rfl (.cons rfl (.nil))))
        ·
          have hend : acc = encB l := by rw [← hacc, List.drop_eq_nil_of_le (by omega)]; simp [tailB]
          have hil : i = l.length := by omega
          refine sc_exit rfl (nrm_k ?_)
          refine sc_seq ?_
          refine sc_reg ?_
          refine Go.XK.s (v := .string (B acc)) (e_move rfl) ?_
          refine Go.XK.s (v := .string (B acc)) (e_move rfl) ?_
          refine Go.XK.s (v := .int .i64 (acc.length : Int)) (e_slen Try.underlying9 rfl) ?_
          refine Go.XK.s (v := .int .i64 ((2048 : Int) - (acc.length : Int))) (e_sub rfl rfl (by omega)) ?_
          refine sl_call ent30 rfl rfl (rrep_c (0 : UInt8) ((2048 : Int) - (acc.length : Int)) w6 (by omega)) (by decide) ?_
          rintro _ w10 ⟨rfl, hw10⟩
          have xw_w10 : Ext w w10 := Ext.tr xw_w6 hw10
          refine Go.XK.s (v := .string (B (acc ++ (List.replicate ((2048 : Int) - (acc.length : Int)).toNat 0)))) (e_sadd rfl rfl (by simp [hal]; omega)) ?_
          refine Go.XK.s (v := .string (B (acc ++ (List.replicate ((2048 : Int) - (acc.length : Int)).toNat 0)))) (e_assign rfl) ?_
          refine Go.XK.s (v := .int .i64 0) (e_assign rfl) ?_
          refine sl_nil (nrm_k ?_)
          refine sc_retf rfl (ret2 Try.results12 (rvt rfl) (rvt rfl) ?_)
          exact ⟨by
            rw [encR_good (by omega) (by omega) hall, hend]
            rw [show ((2048 : Int) - ((encB l).length : Int)).toNat = 2048 - 64 * l.length from by rw [encB_length]; omega]
            rfl, xw_w10⟩

/-- masterdisc/eltorito.Encode (function 11) -/
theorem encode_c (l : List Img) (A : Option Addr) (c : Nat) (w : World) (hl : Rd w A 6 Img.enc l) (hlc : l.length ≤ c) : CallR Try.prog 11 [.slice A l.length c] w (fun v w' => v = .tuple #[.string (B ((encR l).1)), .int .i64 ((encR l).2)] ∧ Ext w w') := by
  refine callR_of (n := 61) [(0, .slice A l.length c)] Try.func11 rfl rfl (Nat.le_of_ble_eq_true rfl) rfl ?_
  refine sc_seq ?_
  refine sc_reg ?_
  refine Go.XK.s (v := .string (B [])) (e_assign rfl) ?_
  refine Go.XK.s (v := .int .i64 0) (e_assign rfl) ?_
  refine sl_nil (nrm_k ?_)
  refine sc_seq ?_
  refine sc_block ?_
  refine sc_seq ?_
  refine sc_reg ?_
  refine Go.XK.s (v := .slice A l.length c) (e_move rfl) ?_
  refine Go.XK.s (v := .int .i64 (l.length : Int)) (e_len Try.underlying22 rfl) ?_
  refine Go.XK.s (v := .bool (decide ((l.length : Int) = 0))) (e_eq rfl rfl) ?_
  refine Go.XK.s (v := .bool (decide ((l.length : Int) = 0))) (e_assign rfl) ?_
  refine sl_nil (nrm_k ?_)
  refine sc_ifd rfl (fun c8 => ?_) (fun c8 => ?_)
  ·
    refine sc_seq ?_
    refine sc_reg ?_
    refine Go.XK.s (v := .string (B [])) (e_assign rfl) ?_
    refine Go.XK.s (v := .int .i64 1) (e_assign rfl) ?_
    refine sl_nil (nrm_k ?_)
    refine sc_retf rfl (ret2 Try.results11 (rvt rfl) (rvt rfl) ?_)
    exact ⟨by rw [encR_nil (by omega)], (Ext.rfl' w)⟩
  ·
    obtain ⟨x0, hx0⟩ := pos_get (l := l) (by omega)
    refine sc_seq ?_
    refine sc_reg ?_
    refine Go.XK.s (v := .slice A l.length c) (e_move rfl) ?_
    refine Go.XK.s (v := .int .i64 (l.length : Int)) (e_len Try.underlying22 rfl) ?_
    refine Go.XK.s (v := .bool (decide ((32 : Int) < (l.length : Int)))) (e_gt rfl rfl) ?_
    refine Go.XK.s (v := .bool (decide ((32 : Int) < (l.length : Int)))) (e_assign rfl) ?_
    refine sl_nil (nrm_k ?_)
    refine sc_ifd rfl (fun c12 => ?_) (fun c12 => ?_)
    ·
      refine sc_seq ?_
      refine sc_reg ?_
      refine Go.XK.s (v := .string (B [])) (e_assign rfl) ?_
      refine Go.XK.s (v := .int .i64 7) (e_assign rfl) ?_
      refine sl_nil (nrm_k ?_)
      refine sc_retf rfl (ret2 Try.results11 (rvt rfl) (rvt rfl) ?_)
      exact ⟨by rw [encR_many (by omega)], (Ext.rfl' w)⟩
    ·
      refine sc_seq ?_
      refine sc_reg ?_
      refine Go.XK.s (v := .slice A l.length c) (e_move rfl) ?_
      refine sl_call ent19 rfl rfl (containsF_c _ _ _ w (hl.ext (Ext.rfl' w)) (by omega)) (by decide) ?_
      rintro _ w1 ⟨rfl, hw1⟩
      have xw_w1 : Ext w w1 := Ext.tr (Ext.rfl' w) hw1
      refine Go.XK.s (v := .bool (!l.all Img.valid)) (e_assign rfl) ?_
      refine sl_nil (nrm_k ?_)
      refine sc_if rfl (fun c16 => ?_) (fun c16 => ?_)
      ·
        refine sc_seq ?_
        refine sc_reg ?_
        refine Go.XK.s (v := .string (B [])) (e_assign rfl) ?_
        refine Go.XK.s (v := .int .i64 2) (e_assign rfl) ?_
        refine sl_nil (nrm_k ?_)
        refine sc_retf rfl (ret2 Try.results11 (rvt rfl) (rvt rfl) ?_)
        exact ⟨by rw [encR_bad (by omega) (by omega) (by simpa using c16)], xw_w1⟩
      ·
        have hall : l.all Img.valid = true := by simpa using c16
        have hvx0 := all_at hall hx0
        have hP0 := (Img.okv hvx0).P
        have hln : (l.drop 1).length = l.length - 1 := List.length_drop
        refine sc_skip (nrm_k ?_)
        refine sc_seq ?_
        refine sc_reg ?_
        refine s_alloc (cs := [.pointer none, .slice none 0 0]) Try.zeroValue46 rfl ?_
        intro b4 w2 hb4 he4 hs4 hx4
        have ge_b4 : w.heap.size ≤ b4 := by have h_ := (Below.size xw_w1); omega
        have xw_w2 : Ext w w2 := Ext.tr xw_w1 hx4
        have HB := Bld.new (w0 := w) hb4 ge_b4
        refine sl_nil (nrm_k ?_)
        refine sc_seq ?_
        refine sc_free [(4, .pointer (some ⟨b4, 0, none⟩)), (16, .bool (!l.all Img.valid)), (18, .bool (!l.all Img.valid)), (17, .slice A l.length c), (12, .bool (decide ((32 : Int) < (l.length : Int)))), (15, .bool (decide ((32 : Int) < (l.length : Int)))), (14, .int .i64 (l.length : Int)), (13, .slice A l.length c), (8, .bool (decide ((l.length : Int) = 0))), (11, .bool (decide ((l.length : Int) = 0))), (10, .int .i64 (l.length : Int)), (9, .slice A l.length c), (3, .int .i64 0), (2, .string (B [])), (0, .slice A l.length c)] [19, 20, 21, 22, 23, 24, 25, 26, 27, 28] [(Is (.slice A l.length c)), (Is (.pointer (some (el A 6 0 0)))), (Is (.pointer (some (el A 6 0 0)))), (Is (.int .i64 x0.P)), (Is (.string (B (valB x0.P)))), (Is (.slice A l.length c)), (Is (.pointer (some (el A 6 0 0)))), (Is (.agg #[.int .i64 x0.P, .int .i64 x0.M, .int .i64 x0.S, .int .i64 x0.C, .int .i64 x0.L, .bool x0.b])), (Is (.string (B (imgB x0)))), (Is (.string (B ((valB x0.P) ++ (imgB x0)))))] [10] (by kernel_rfl) (Sub.refl _) (by kernel_rfl) (by kernel_rfl) (by kernel_rfl) rfl (by kernel_rfl) (ds_ext (Stays.spec (.is _ (.is _ (.is _ (.is _ (.is _ (.is _ (.is _ (.is _ (.is _ (.is _ (.nil))))))))))))) ⟨?_, ?_, ?_, ?_, ?_, ?_, ?_, ?_, ?_, ?_, trivial⟩ ?_
        · intro Q act_ wI hxI ha hp
          have xw_wI : Ext w wI := Ext.tr xw_w2 hxI
          replace HB := HB.ext hxI
          exact h_evA (v := .slice A l.length c) ha rfl (e_move rfl) rfl rfl (Ext.rfl' _)
        · intro Q act_ wI hxI ha hp
          have xw_wI : Ext w wI := Ext.tr xw_w2 hxI
          replace HB := HB.ext hxI
          have ha := ha.add (show act_.tmps.getD 19 undef = .slice A l.length c from hp 0 (by kernel_rfl) (by decide))
          exact h_evA (v := .pointer (some (el A 6 0 0))) ha rfl (e_idxEl (e := x0) Try.underlying22 Try.sizeOf34 rfl rfl (hl.ext xw_wI) hx0 (by omega) rfl) rfl rfl (Ext.rfl' _)
        · intro Q act_ wI hxI ha hp
          have xw_wI : Ext w wI := Ext.tr xw_w2 hxI
          replace HB := HB.ext hxI
          have ha := ha.add (show act_.tmps.getD 20 undef = .pointer (some (el A 6 0 0)) from hp 1 (by kernel_rfl) (by decide))
          exact h_evA (v := .pointer (some (el A 6 0 0))) ha rfl (e_fieldEl (fsz := 1) Try.underlying34 rfl Try.sizeOf3 (by decide) rfl rfl) rfl rfl (Ext.rfl' _)
        · intro Q act_ wI hxI ha hp
          have xw_wI : Ext w wI := Ext.tr xw_w2 hxI
          replace HB := HB.ext hxI
          have ha := ha.add (show act_.tmps.getD 21 undef = .pointer (some (el A 6 0 0)) from hp 2 (by kernel_rfl) (by decide))
          exact h_evA (v := .int .i64 x0.P) ha rfl (e_ldEl (xs := l) (enc := Img.enc) (e := x0) rfl (hl.ext xw_wI) hx0 Try.isAgg3 rfl) rfl rfl (Ext.rfl' _)
        · intro Q act_ wI hxI ha hp
          have xw_wI : Ext w wI := Ext.tr xw_w2 hxI
          replace HB := HB.ext hxI
          have ha := ha.add (show act_.tmps.getD 22 undef = .int .i64 x0.P from hp 3 (by kernel_rfl) (by decide))
          exact h_callA ha ent23 rfl rfl rfl (validation_c _ wI (by omega)) rfl (by rintro _ w1 ⟨rfl, hR⟩; exact ⟨rfl, hR⟩)
        · intro Q act_ wI hxI ha hp
          have xw_wI : Ext w wI := Ext.tr xw_w2 hxI
          replace HB := HB.ext hxI
          exact h_evA (v := .slice A l.length c) ha rfl (e_move rfl) rfl rfl (Ext.rfl' _)
        · intro Q act_ wI hxI ha hp
          have xw_wI : Ext w wI := Ext.tr xw_w2 hxI
          replace HB := HB.ext hxI
          have ha := ha.add (show act_.tmps.getD 24 undef = .slice A l.length c from hp 5 (by kernel_rfl) (by decide))
          exact h_evA (v := .pointer (some (el A 6 0 0))) ha rfl (e_idxEl (e := x0) Try.underlying22 Try.sizeOf34 rfl rfl (hl.ext xw_wI) hx0 (by omega) rfl) rfl rfl (Ext.rfl' _)
        · intro Q act_ wI hxI ha hp
          have xw_wI : Ext w wI := Ext.tr xw_w2 hxI
          replace HB := HB.ext hxI
          have ha := ha.add (show act_.tmps.getD 25 undef = .pointer (some (el A 6 0 0)) from hp 6 (by kernel_rfl) (by decide))
          exact h_evA (v := .agg #[.int .i64 x0.P, .int .i64 x0.M, .int .i64 x0.S, .int .i64 x0.C, .int .i64 x0.L, .bool x0.b]) ha rfl (e_ldElA (xs := l) (enc := Img.enc) (e := x0) rfl (hl.ext xw_wI) hx0 Try.isAgg34 Try.sizeOf34 rfl) rfl rfl (Ext.rfl' _)
        · intro Q act_ wI hxI ha hp
          have xw_wI : Ext w wI := Ext.tr xw_w2 hxI
          replace HB := HB.ext hxI
          have ha := ha.add (show act_.tmps.getD 26 undef = .agg #[.int .i64 x0.P, .int .i64 x0.M, .int .i64 x0.S, .int .i64 x0.C, .int .i64 x0.L, .bool x0.b] from hp 7 (by kernel_rfl) (by decide))
          exact h_callA ha ent24 rfl rfl rfl (image_c x0 wI (hvx0)) rfl (by rintro _ w1 ⟨rfl, hR⟩; exact ⟨rfl, hR⟩)
        · intro Q act_ wI hxI ha hp
          have xw_wI : Ext w wI := Ext.tr xw_w2 hxI
          replace HB := HB.ext hxI
          have ha := ha.add (show act_.tmps.getD 23 undef = .string (B (valB x0.P)) from hp 4 (by kernel_rfl) (by decide))
          have ha := ha.add (show act_.tmps.getD 27 undef = .string (B (imgB x0)) from hp 8 (by kernel_rfl) (by decide))
          exact h_evA (v := .string (B ((valB x0.P) ++ (imgB x0)))) ha rfl (e_sadd rfl rfl (by simp [valB_length, imgB_length])) rfl rfl (Ext.rfl' _)
        intro vs_ w3 hx_w3 hvs act_ ha hv
        have xw_w3 : Ext w w3 := Ext.tr xw_w2 hx_w3
        replace HB := HB.ext hx_w3
        have ha := ha.add ((hv 9 (by decide)).trans (show vs_ 9 = .string (B ((valB x0.P) ++ (imgB x0))) from hvs 9 (by decide)))
        refine st_go ha ?_
        clear ha hv hvs
        refine st_call rfl ent22 rfl rfl (wstr_c w b4 [] ((valB x0.P) ++ (imgB x0)) w3 HB xw_w3 (by simp [valB_length, imgB_length])) (by decide) ?_
        rintro _ w4 ⟨rfl, HB, hw4, Khw4⟩
        refine st_nil (nrm_k ?_)
        refine sc_seq ?_
        refine sc_seq ?_
        refine sc_reg ?_
        refine Go.XK.s (v := .slice A l.length c) (e_move rfl) ?_
        refine s_slRd (l.drop 1) (hi := l.length) Try.underlying22 Try.sizeOf34 rfl hl rfl hlc (Bd.at_ (m := 1) rfl rfl) Bd.no (by omega) (by omega) (by rw [List.take_of_length_le (Nat.le_refl _)]) ?_
        intro A1 c1 hl1 hc1
        refine Go.XK.s (v := .int .i64 ((l.drop 1).length : Int)) (e_len Try.underlying22 rfl) ?_
        refine Go.XK.s (v := .int .i64 0) (e_move rfl) ?_
        refine sl_nil (nrm_k ?_)
        refine sc_block ?_
        refine sc_loop (fun m_ l_ w_ => ∃ (i : Nat) (acc : List UInt8), m_ = (l.drop 1).length - i ∧ l_ = [(33, .int .i64 (i : Int)), (0, .slice A l.length c), (31, .slice A1 (l.drop 1).length c1), (32, .int .i64 ((l.drop 1).length : Int)), (4, .pointer (some ⟨b4, 0, none⟩))] ∧ Ext w w_ ∧ Bld w b4 acc w_ ∧ i ≤ (l.drop 1).length ∧ acc ++ tailB ((l.drop 1).drop i) = encB l ∧ acc.length = 64 * (i + 1)) _ [(33, .int .i64 (0 : Int)), (0, .slice A l.length c), (31, .slice A1 (l.drop 1).length c1), (32, .int .i64 ((l.drop 1).length : Int)), (4, .pointer (some ⟨b4, 0, none⟩))] ⟨0, [] ++ (valB x0.P ++ imgB x0), rfl, rfl, hw4, HB, ⟨Nat.zero_le _, by rw [encB_first hx0]; rfl, by simp [valB_length, imgB_length]⟩⟩ (.cons rfl (.cons rfl (.cons rfl (.cons rfl (.cons rfl (.nil)))))) ?_
        rintro j6 _ w5 ⟨i, acc, rfl, rfl, xw_w5, HB, ⟨hi, hacc, hal⟩⟩
        refine sc_seq ?_
        refine sc_reg ?_
        refine Go.XK.s (v := .bool (decide ((i : Int) < ((l.drop 1).length : Int)))) (e_lt rfl rfl) ?_
        refine sl_nil (nrm_k ?_)
        refine sc_seq ?_
        refine sc_ifd rfl (fun c34 => ?_) (fun c34 => ?_)
        ·
          obtain ⟨y, hy⟩ : ∃ y, (l.drop 1)[i]? = some y := ⟨_, List.getElem?_eq_getElem (by omega)⟩
          have hvy := List.all_eq_true.1 hall y (List.mem_of_mem_drop (List.mem_of_getElem? hy))
          have hPy := (Img.okv hvy).P
          refine sc_skip (nrm_k ?_)
          refine sc_seq ?_
          refine sc_block ?_
          refine sc_seq ?_
          refine sc_reg ?_
          refine Go.XK.s (v := .int .i64 (i : Int)) (e_move rfl) ?_
          refine Go.XK.s (v := .pointer (some (el A1 6 (i : Int) 0))) (e_idxEl (e := y) Try.underlying22 Try.sizeOf34 rfl rfl (hl1.ext xw_w5) hy (by omega) rfl) ?_
          refine Go.XK.s (v := .agg #[.int .i64 y.P, .int .i64 y.M, .int .i64 y.S, .int .i64 y.C, .int .i64 y.L, .bool y.b]) (e_ldElA (xs := (l.drop 1)) (enc := Img.enc) (e := y) rfl (hl1.ext xw_w5) hy Try.isAgg34 Try.sizeOf34 rfl) ?_
          refine s_alloc (cs := [.int .i64 0, .int .i64 0, .int .i64 0, .int .i64 0, .int .i64 0, .bool false]) Try.zeroValue34 rfl ?_
          intro b6 w7 hb6 he6 hs6 hx6
          have ne_b6_b4 : b6 ≠ b4 := by have h_ := HB.lt; omega
          have ge_b6 : w.heap.size ≤ b6 := by have h_ := (Below.size xw_w5); omega
          have xw_w7 : Ext w w7 := Ext.tr xw_w5 hx6
          replace HB := HB.ext hx6
          refine Go.XK.s (v := .int .i64 (i : Int)) (e_assign rfl) ?_
          refine su_blkV [.int .i64 y.P, .int .i64 y.M, .int .i64 y.S, .int .i64 y.C, .int .i64 y.L, .bool y.b] [.int .i64 y.P, .int .i64 y.M, .int .i64 y.S, .int .i64 y.C, .int .i64 y.L, .bool y.b] rfl rfl hb6 rfl Try.sizeOf34 (Nat.le_of_ble_eq_true rfl) rfl rfl ?_
          intro w8 hn_ hm_w8 hs_w8
          have ho_ := hb6
          replace hb6 := hn_
          clear hn_
          replace HB := HB.mut hm_w8 ho_ ne_b6_b4 (by decide)
          have xw_w8 : Ext w w8 := below_mut xw_w7 (Below.size xw_w7) hm_w8 ge_b6
          refine sl_nil (nrm_k ?_)
          refine sc_seq ?_
          refine sc_reg ?_
          refine Go.XK.s (v := .int .i64 144) (e_assign rfl) ?_
          refine sl_nil (nrm_k ?_)
          refine sc_seq ?_
          refine sc_seq ?_
          refine sc_reg ?_
          refine Go.XK.s (v := .int .i64 (i : Int)) (e_move rfl) ?_
          refine Go.XK.s (v := .int .i64 ((i : Int) + 2)) (e_add rfl rfl (by omega)) ?_
          refine Go.XK.s (v := .slice A l.length c) (e_move rfl) ?_
          refine Go.XK.s (v := .int .i64 (l.length : Int)) (e_len Try.underlying22 rfl) ?_
          refine Go.XK.s (v := .bool (decide ((i : Int) + 2 = (l.length : Int)))) (e_eq rfl rfl) ?_
          refine sl_nil (nrm_k ?_)
          refine sc_ifd rfl (fun c42 => ?_) (fun c42 => ?_)
          ·
            have hlast : (if (l.drop 1).drop (i + 1) = [] then (145 : UInt8) else 144) = u8of 145 := if_pos (List.drop_eq_nil_of_le (by omega))
            refine sc_reg ?_
            refine Go.XK.s (v := .int .i64 145) (e_assign rfl) ?_
            refine sl_nil (nrm_k ?_)
            refine sc_seq ?_
            refine sc_free [(7, .int .i64 145), (42, .bool (decide ((i : Int) + 2 = (l.length : Int)))), (41, .int .i64 (l.length : Int)), (40, .slice A l.length c), (39, .int .i64 ((i : Int) + 2)), (38, .int .i64 (i : Int)), (5, .int .i64 (i : Int)), (6, .pointer (some ⟨b6, 0, none⟩)), (37, .agg #[.int .i64 y.P, .int .i64 y.M, .int .i64 y.S, .int .i64 y.C, .int .i64 y.L, .bool y.b]), (36, .pointer (some (el A1 6 (i : Int) 0))), (35, .int .i64 (i : Int)), (34, .bool (decide ((i : Int) < ((l.drop 1).length : Int)))), (33, .int .i64 (i : Int)), (0, .slice A l.length c), (31, .slice A1 (l.drop 1).length c1), (32, .int .i64 ((l.drop 1).length : Int)), (4, .pointer (some ⟨b4, 0, none⟩))] [43, 44, 45, 46, 47, 48, 49, 50] [(Is (.int .i64 145)), (Is (.string (B (le 1 145)))), (Is (.pointer (some ⟨b6, 0, none⟩))), (Is (.int .i64 y.P)), (Is (.string (B (le 1 y.P)))), (Is (.string (B (le 2 1)))), (fun VV WV => ∃ b_, VV = Value.slice (some ⟨b_, 0, none⟩) 3 3 ∧ Blk WV b_ 9 [.string (B (le 1 145)), .string (B (le 1 y.P)), .string (B (le 2 1))]), (Is (.string (B ([le 1 145, le 1 y.P, le 2 1].flatten ++ zeros ((32 : Int) - ([le 1 145, le 1 y.P, le 2 1].flatten.length : Int)).toNat))))] [8] (by kernel_rfl) ((.cons rfl (.cons rfl (.cons rfl (.cons rfl (.cons rfl (.cons rfl (.cons rfl (.cons rfl (.cons rfl (.cons rfl (.cons rfl (.cons rfl (.cons rfl (.cons rfl (.cons rfl (.cons rfl (.cons rfl .nil)))))))))))))))))) (by kernel_rfl) (by kernel_rfl) (by kernel_rfl) rfl (by kernel_rfl) (ds_ext (Stays.spec (.is _ (.is _ (.is _ (.is _ (.is _ (.is _ (.any (fun _ _ _ ⟨b_, e_, h_⟩ hx_ => ⟨b_, e_, h_.ext hx_⟩) (.is _ (.nil))))))))))) ⟨?_, ?_, ?_, ?_, ?_, ?_, ?_, ?_, trivial⟩ ?_
            · intro Q act_ wI hxI ha hp
              have xw_wI : Ext w wI := Ext.tr xw_w8 hxI
              replace hb6 := hb6.ext hxI
              replace HB := HB.ext hxI
              exact h_evA (v := .int .i64 145) ha rfl (e_move rfl) rfl rfl (Ext.rfl' _)
            · intro Q act_ wI hxI ha hp
              have xw_wI : Ext w wI := Ext.tr xw_w8 hxI
              replace hb6 := hb6.ext hxI
              replace HB := HB.ext hxI
              have ha := ha.add (show act_.tmps.getD 43 undef = .int .i64 145 from hp 0 (by kernel_rfl) (by decide))
              exact h_callA ha ent26 rfl rfl rfl (numberF_c _ 1 wI (fits_of (by omega) (by omega)) (by decide) (by decide)) rfl (by rintro _ w1 ⟨rfl, hR⟩; exact ⟨rfl, hR⟩)
            · intro Q act_ wI hxI ha hp
              have xw_wI : Ext w wI := Ext.tr xw_w8 hxI
              replace hb6 := hb6.ext hxI
              replace HB := HB.ext hxI
              exact h_evA (v := .pointer (some ⟨b6, 0, none⟩)) ha rfl (e_fieldB (sz := 1) Try.underlying34 rfl Try.sizeOf3 (by decide) rfl rfl) rfl rfl (Ext.rfl' _)
            · intro Q act_ wI hxI ha hp
              have xw_wI : Ext w wI := Ext.tr xw_w8 hxI
              replace hb6 := hb6.ext hxI
              replace HB := HB.ext hxI
              have ha := ha.add (show act_.tmps.getD 45 undef = .pointer (some ⟨b6, 0, none⟩) from hp 2 (by kernel_rfl) (by decide))
              exact h_evA (v := .int .i64 y.P) ha rfl (e_load rfl (load1 Try.isAgg3 (hb6.cell (j := 0) rfl))) rfl rfl (Ext.rfl' _)
            · intro Q act_ wI hxI ha hp
              have xw_wI : Ext w wI := Ext.tr xw_w8 hxI
              replace hb6 := hb6.ext hxI
              replace HB := HB.ext hxI
              have ha := ha.add (show act_.tmps.getD 46 undef = .int .i64 y.P from hp 3 (by kernel_rfl) (by decide))
              exact h_callA ha ent26 rfl rfl rfl (numberF_c _ 1 wI (fits_of (by omega) (by omega)) (by decide) (by decide)) rfl (by rintro _ w1 ⟨rfl, hR⟩; exact ⟨rfl, hR⟩)
            · intro Q act_ wI hxI ha hp
              have xw_wI : Ext w wI := Ext.tr xw_w8 hxI
              replace hb6 := hb6.ext hxI
              replace HB := HB.ext hxI
              exact h_callA ha ent26 rfl rfl rfl (numberF_c _ 2 wI (fits_of (by omega) (by omega)) (by decide) (by decide)) rfl (by rintro _ w1 ⟨rfl, hR⟩; exact ⟨rfl, hR⟩)
            · intro Q act_ wI hxI ha hp
              have xw_wI : Ext w wI := Ext.tr xw_w8 hxI
              replace hb6 := hb6.ext hxI
              replace HB := HB.ext hxI
              have ha := ha.add (show act_.tmps.getD 44 undef = .string (B (le 1 145)) from hp 1 (by kernel_rfl) (by decide))
              have ha := ha.add (show act_.tmps.getD 47 undef = .string (B (le 1 y.P)) from hp 4 (by kernel_rfl) (by decide))
              have ha := ha.add (show act_.tmps.getD 48 undef = .string (B (le 2 1)) from hp 5 (by kernel_rfl) (by decide))
              exact h_evA ha rfl (e_buildSlice (vs := [(0, .string (B (le 1 145))), (1, .string (B (le 1 y.P))), (2, .string (B (le 2 1)))]) (v := .slice (some ⟨wI.heap.size, 0, none⟩) 3 3) (w1 := wI.alloc (.cells ([.string (B (le 1 145)), .string (B (le 1 y.P)), .string (B (le 2 1))] : List Value).toArray 9)) rfl (by kernel_rfl)) rfl ⟨_, rfl, Blk.new wI 9 [.string (B (le 1 145)), .string (B (le 1 y.P)), .string (B (le 2 1))]⟩ (Ext.alloc _ _)
            · intro Q act_ wI hxI ha hp
              have xw_wI : Ext w wI := Ext.tr xw_w8 hxI
              replace hb6 := hb6.ext hxI
              replace HB := HB.ext hxI
              obtain ⟨b49, e49, hb49⟩ := (show ∃ b_, act_.tmps.getD 49 undef = Value.slice (some ⟨b_, 0, none⟩) 3 3 ∧ Blk wI b_ 9 [.string (B (le 1 145)), .string (B (le 1 y.P)), .string (B (le 2 1))] from hp 6 (by kernel_rfl) (by decide))
              have ha := ha.add e49
              exact h_callA ha ent25 rfl rfl rfl (entry_c _ _ [le 1 145, le 1 y.P, le 2 1] wI hb49 rfl (by decide) (by simp [le_length])) rfl (by rintro _ w1 ⟨rfl, hR⟩; exact ⟨rfl, hR⟩)
            intro vs_ w9 hx_w9 hvs act_ ha hv
            have xw_w9 : Ext w w9 := Ext.tr xw_w8 hx_w9
            replace hb6 := hb6.ext hx_w9
            replace HB := HB.ext hx_w9
            have ha := ha.add ((hv 7 (by decide)).trans (show vs_ 7 = .string (B ([le 1 145, le 1 y.P, le 2 1].flatten ++ zeros ((32 : Int) - ([le 1 145, le 1 y.P, le 2 1].flatten.length : Int)).toNat)) from hvs 7 (by decide)))
            refine st_go ha ?_
            clear ha hv hvs
            refine st_call rfl ent22 rfl rfl (wstr_c w b4 acc ([le 1 145, le 1 y.P, le 2 1].flatten ++ zeros ((32 : Int) - ([le 1 145, le 1 y.P, le 2 1].flatten.length : Int)).toNat) w9 HB xw_w9 (by simp [hal, le_length]; omega)) (by decide) ?_
            rintro _ w10 ⟨rfl, HB, hw10, Khw10⟩
            replace hb6 := Blk.others hb6 Khw10 ne_b6_b4 (by decide)
            refine st_nil (nrm_k ?_)
            refine sc_reg ?_
            refine Go.XK.s (v := .agg #[.int .i64 y.P, .int .i64 y.M, .int .i64 y.S, .int .i64 y.C, .int .i64 y.L, .bool y.b]) (e_load rfl (hb6.loadA Try.isAgg34 Try.sizeOf34 rfl)) ?_
            refine sl_call ent24 rfl rfl (image_c y w10 (hvy)) (by decide) ?_
            rintro _ w11 ⟨rfl, hw11⟩
            have xw_w11 : Ext w w11 := Ext.tr hw10 hw11
            replace hb6 := hb6.ext hw11
            replace HB := HB.ext hw11
            refine sl_call ent22 rfl rfl (wstr_c w b4 (acc ++ ([le 1 145, le 1 y.P, le 2 1].flatten ++ zeros ((32 : Int) - ([le 1 145, le 1 y.P, le 2 1].flatten.length : Int)).toNat)) (imgB y) w11 HB xw_w11 (by simp [hal, le_length, imgB_length]; omega)) (by decide) ?_
            rintro _ w12 ⟨rfl, HB, hw12, Khw12⟩
            replace hb6 := Blk.others hb6 Khw12 ne_b6_b4 (by decide)
            refine sl_nil (nrm_k ?_)
            refine sc_reg ?_
            refine Go.XK.s (v := .int .i64 ((i : Int) + 1)) (e_add rfl rfl (by omega)) ?_
            refine Go.XK.s (v := .int .i64 ((i : Int) + 1)) (e_move rfl) ?_
            refine sl_nil ?_
            exact nrm_loopq rfl _ _ (by omega) ⟨i + 1, _, rfl, rfl, hw12, HB, ⟨by omega, by
              rw [← hacc, drop_get hy, tailB_cons, hlast, ← hdr_code]
              simp [le_length], by simp [le_length, imgB_length]; omega⟩⟩ (.cons rfl (.cons rfl (.cons rfl (.cons rfl (.cons rfl (.nil))))))
          ·
            have hlast : (if (l.drop 1).drop (i + 1) = [] then (145 : UInt8) else 144) = u8of 144 := if_neg (fun h_ => by have := List.drop_eq_nil_iff.1 h_; omega)
            refine sc_skip (nrm_k ?_)
            refine sc_seq ?_
            refine sc_free [(42, .bool (decide ((i : Int) + 2 = (l.length : Int)))), (41, .int .i64 (l.length : Int)), (40, .slice A l.length c), (39, .int .i64 ((i : Int) + 2)), (38, .int .i64 (i : Int)), (7, .int .i64 144), (5, .int .i64 (i : Int)), (6, .pointer (some ⟨b6, 0, none⟩)), (37, .agg #[.int .i64 y.P, .int .i64 y.M, .int .i64 y.S, .int .i64 y.C, .int .i64 y.L, .bool y.b]), (36, .pointer (some (el A1 6 (i : Int) 0))), (35, .int .i64 (i : Int)), (34, .bool (decide ((i : Int) < ((l.drop 1).length : Int)))), (33, .int .i64 (i : Int)), (0, .slice A l.length c), (31, .slice A1 (l.drop 1).length c1), (32, .int .i64 ((l.drop 1).length : Int)), (4, .pointer (some ⟨b4, 0, none⟩))] [43, 44, 45, 46, 47, 48, 49, 50] [(Is (.int .i64 144)), (Is (.string (B (le 1 144)))), (Is (.pointer (some ⟨b6, 0, none⟩))), (Is (.int .i64 y.P)), (Is (.string (B (le 1 y.P)))), (Is (.string (B (le 2 1)))), (fun VV WV => ∃ b_, VV = Value.slice (some ⟨b_, 0, none⟩) 3 3 ∧ Blk WV b_ 9 [.string (B (le 1 144)), .string (B (le 1 y.P)), .string (B (le 2 1))]), (Is (.string (B ([le 1 144, le 1 y.P, le 2 1].flatten ++ zeros ((32 : Int) - ([le 1 144, le 1 y.P, le 2 1].flatten.length : Int)).toNat))))] [8] (by kernel_rfl) (Sub.refl _) (by kernel_rfl) (by kernel_rfl) (by kernel_rfl) rfl (by kernel_rfl) (ds_ext (Stays.spec (.is _ (.is _ (.is _ (.is _ (.is _ (.is _ (.any (fun _ _ _ ⟨b_, e_, h_⟩ hx_ => ⟨b_, e_, h_.ext hx_⟩) (.is _ (.nil))))))))))) ⟨?_, ?_, ?_, ?_, ?_, ?_, ?_, ?_, trivial⟩ ?_
            · intro Q act_ wI hxI ha hp
              have xw_wI : Ext w wI := Ext.tr xw_w8 hxI
              replace hb6 := hb6.ext hxI
              replace HB := HB.ext hxI
              exact h_evA (v := .int .i64 144) ha rfl (e_move rfl) rfl rfl (Ext.rfl' _)
            · intro Q act_ wI hxI ha hp
              have xw_wI : Ext w wI := Ext.tr xw_w8 hxI
              replace hb6 := hb6.ext hxI
              replace HB := HB.ext hxI
              have ha := ha.add (show act_.tmps.getD 43 undef = .int .i64 144 from hp 0 (by kernel_rfl) (by decide))
              exact h_callA ha ent26 rfl rfl rfl (numberF_c _ 1 wI (fits_of (by omega) (by omega)) (by decide) (by decide)) rfl (by rintro _ w1 ⟨rfl, hR⟩; exact ⟨rfl, hR⟩)
            · intro Q act_ wI hxI ha hp
              have xw_wI : Ext w wI := Ext.tr xw_w8 hxI
              replace hb6 := hb6.ext hxI
              replace HB := HB.ext hxI
              exact h_evA (v := .pointer (some ⟨b6, 0, none⟩)) ha rfl (e_fieldB (sz := 1) Try.underlying34 rfl Try.sizeOf3 (by decide) rfl rfl) rfl rfl (Ext.rfl' _)
            · intro Q act_ wI hxI ha hp
              have xw_wI : Ext w wI := Ext.tr xw_w8 hxI
              replace hb6 := hb6.ext hxI
              replace HB := HB.ext hxI
              have ha := ha.add (show act_.tmps.getD 45 undef = .pointer (some ⟨b6, 0, none⟩) from hp 2 (by kernel_rfl) (by decide))
              exact h_evA (v := .int .i64 y.P) ha rfl (e_load rfl (load1 Try.isAgg3 (hb6.cell (j := 0) rfl))) rfl rfl (Ext.rfl' _)
            · intro Q act_ wI hxI ha hp
              have xw_wI : Ext w wI := Ext.tr xw_w8 hxI
              replace hb6 := hb6.ext hxI
              replace HB := HB.ext hxI
              have ha := ha.add (show act_.tmps.getD 46 undef = .int .i64 y.P from hp 3 (by kernel_rfl) (by decide))
              exact h_callA ha ent26 rfl rfl rfl (numberF_c _ 1 wI (fits_of (by omega) (by omega)) (by decide) (by decide)) rfl (by rintro _ w1 ⟨rfl, hR⟩; exact ⟨rfl, hR⟩)
            · intro Q act_ wI hxI ha hp
              have xw_wI : Ext w wI := Ext.tr xw_w8 hxI
              replace hb6 := hb6.ext hxI
              replace HB := HB.ext hxI
              exact h_callA ha ent26 rfl rfl rfl (numberF_c _ 2 wI (fits_of (by omega) (by omega)) (by decide) (by decide)) rfl (by rintro _ w1 ⟨rfl, hR⟩; exact ⟨rfl, hR⟩)
            · intro Q act_ wI hxI ha hp
              have xw_wI : Ext w wI := Ext.tr xw_w8 hxI
              replace hb6 := hb6.ext hxI
              replace HB := HB.ext hxI
              have ha := ha.add (show act_.tmps.getD 44 undef = .string (B (le 1 144)) from hp 1 (by kernel_rfl) (by decide))
              have ha := ha.add (show act_.tmps.getD 47 undef = .string (B (le 1 y.P)) from hp 4 (by kernel_rfl) (by decide))
              have ha := ha.add (show act_.tmps.getD 48 undef = .string (B (le 2 1)) from hp 5 (by kernel_rfl) (by decide))
              exact h_evA ha rfl (e_buildSlice (vs := [(0, .string (B (le 1 144))), (1, .string (B (le 1 y.P))), (2, .string (B (le 2 1)))]) (v := .slice (some ⟨wI.heap.size, 0, none⟩) 3 3) (w1 := wI.alloc (.cells ([.string (B (le 1 144)), .string (B (le 1 y.P)), .string (B (le 2 1))] : List Value).toArray 9)) rfl (by kernel_rfl)) rfl ⟨_, rfl, Blk.new wI 9 [.string (B (le 1 144)), .string (B (le 1 y.P)), .string (B (le 2 1))]⟩ (Ext.alloc _ _)
            · intro Q act_ wI hxI ha hp
              have xw_wI : Ext w wI := Ext.tr xw_w8 hxI
              replace hb6 := hb6.ext hxI
              replace HB := HB.ext hxI
              obtain ⟨b49, e49, hb49⟩ := (show ∃ b_, act_.tmps.getD 49 undef = Value.slice (some ⟨b_, 0, none⟩) 3 3 ∧ Blk wI b_ 9 [.string (B (le 1 144)), .string (B (le 1 y.P)), .string (B (le 2 1))] from hp 6 (by kernel_rfl) (by decide))
              have ha := ha.add e49
              exact h_callA ha ent25 rfl rfl rfl (entry_c _ _ [le 1 144, le 1 y.P, le 2 1] wI hb49 rfl (by decide) (by simp [le_length])) rfl (by rintro _ w1 ⟨rfl, hR⟩; exact ⟨rfl, hR⟩)
            intro vs_ w13 hx_w13 hvs act_ ha hv
            have xw_w13 : Ext w w13 := Ext.tr xw_w8 hx_w13
            replace hb6 := hb6.ext hx_w13
            replace HB := HB.ext hx_w13
            have ha := ha.add ((hv 7 (by decide)).trans (show vs_ 7 = .string (B ([le 1 144, le 1 y.P, le 2 1].flatten ++ zeros ((32 : Int) - ([le 1 144, le 1 y.P, le 2 1].flatten.length : Int)).toNat)) from hvs 7 (by decide)))
            refine st_go ha ?_
            clear ha hv hvs
            refine st_call rfl ent22 rfl rfl (wstr_c w b4 acc ([le 1 144, le 1 y.P, le 2 1].flatten ++ zeros ((32 : Int) - ([le 1 144, le 1 y.P, le 2 1].flatten.length : Int)).toNat) w13 HB xw_w13 (by simp [hal, le_length]; omega)) (by decide) ?_
            rintro _ w14 ⟨rfl, HB, hw14, Khw14⟩
            replace hb6 := Blk.others hb6 Khw14 ne_b6_b4 (by decide)
            refine st_nil (nrm_k ?_)
            refine sc_reg ?_
            refine Go.XK.s (v := .agg #[.int .i64 y.P, .int .i64 y.M, .int .i64 y.S, .int .i64 y.C, .int .i64 y.L, .bool y.b]) (e_load rfl (hb6.loadA Try.isAgg34 Try.sizeOf34 rfl)) ?_
            refine sl_call ent24 rfl rfl (image_c y w14 (hvy)) (by decide) ?_
            rintro _ w15 ⟨rfl, hw15⟩
            have xw_w15 : Ext w w15 := Ext.tr hw14 hw15
            replace hb6 := hb6.ext hw15
            replace HB := HB.ext hw15
            refine sl_call ent22 rfl rfl (wstr_c w b4 (acc ++ ([le 1 144, le 1 y.P, le 2 1].flatten ++ zeros ((32 : Int) - ([le 1 144, le 1 y.P, le 2 1].flatten.length : Int)).toNat)) (imgB y) w15 HB xw_w15 (by simp [hal, le_length, imgB_length]; omega)) (by decide) ?_
            rintro _ w16 ⟨rfl, HB, hw16, Khw16⟩
            replace hb6 := Blk.others hb6 Khw16 ne_b6_b4 (by decide)
            refine sl_nil (nrm_k ?_)
            refine sc_reg ?_
            refine Go.XK.s (v := .int .i64 ((i : Int) + 1)) (e_add rfl rfl (by omega)) ?_
            refine Go.XK.s (v := .int .i64 ((i : Int) + 1)) (e_move rfl) ?_
            refine sl_nil ?_
            exact nrm_loopq rfl _ _ (by omega) ⟨i + 1, _, rfl, rfl, hw16, HB, ⟨by omega, by
              rw [← hacc, drop_get hy, tailB_cons, hlast, ← hdr_code]
              simp [le_length], by simp [le_length, imgB_length]; omega⟩⟩ (.cons rfl (.cons rfl (.cons rfl (.cons rfl (.cons rfl (.nil))))))
        ·
          have hend : acc = encB l := by rw [← hacc, List.drop_eq_nil_of_le (by omega)]; simp [tailB]
          have hil : i + 1 = l.length := by omega
          refine sc_exit rfl (nrm_k ?_)
          refine sc_seq ?_
          refine sc_reg ?_
          refine sl_call ent27 rfl rfl (blen_c w b4 acc w5 HB) (by decide) ?_
          rintro _ w17 ⟨rfl, hw17⟩
          have xw_w17 : Ext w w17 := Ext.tr xw_w5 hw17
          replace HB := HB.ext hw17
          refine Go.XK.s (v := .int .i64 ((2048 : Int) - (acc.length : Int))) (e_sub rfl rfl (by omega)) ?_
          refine sl_call ent18 rfl rfl (rep0_c _ w17 (by omega) (by omega)) (by decide) ?_
          rintro _ w18 ⟨rfl, hw18⟩
          have xw_w18 : Ext w w18 := Ext.tr xw_w17 hw18
          replace HB := HB.ext hw18
          refine sl_call ent22 rfl rfl (wstr_c w b4 acc (zeros ((2048 : Int) - (acc.length : Int)).toNat) w18 HB xw_w18 (by simp [hal]; omega)) (by decide) ?_
          rintro _ w19 ⟨rfl, HB, hw19, Khw19⟩
          refine sl_nil (nrm_k ?_)
          refine sc_seq ?_
          refine sc_reg ?_
          refine sl_call ent28 rfl rfl (bstr_c w b4 (acc ++ (zeros ((2048 : Int) - (acc.length : Int)).toNat)) w19 HB hw19) (by decide) ?_
          rintro _ w20 ⟨rfl, hw20⟩
          refine Go.XK.s (v := .string (B (acc ++ (zeros ((2048 : Int) - (acc.length : Int)).toNat)))) (e_assign rfl) ?_
          refine Go.XK.s (v := .int .i64 0) (e_assign rfl) ?_
          refine sl_nil (nrm_k ?_)
          refine sc_retf rfl (ret2 Try.results11 (rvt rfl) (rvt rfl) ?_)
          exact ⟨by
            rw [encR_good (by omega) (by omega) hall, hend]
            rw [show ((2048 : Int) - ((encB l).length : Int)).toNat = 2048 - 64 * l.length from by rw [encB_length]; omega], hw20⟩

end Go.Proofs.Ytlgkjpmaekkpjaa
