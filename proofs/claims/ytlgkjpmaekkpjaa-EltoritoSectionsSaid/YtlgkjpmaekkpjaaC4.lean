/- Chapter 27: C4. Printed by my program wip/tools/wk.py. -/
import Derived.Test.YtlgkjpmaekkpjaaC3
set_option linter.unusedVariables false
set_option linter.unusedSimpArgs false
set_option maxRecDepth 4000
set_option maxHeartbeats 1000000
namespace Go.Proofs.Ytlgkjpmaekkpjaa
open Go.XK Go.RowKit
theorem numberF_c (n : Int) (z : Nat) (w : World) (hf : fits n z = true) (h1 : 1 ≤ z) (hz : z ≤ 7) : CallR Try.prog 26 [.int .i64 n, .int .i64 (z : Int)] w (fun v w' => v = .string (B (le z n)) ∧ Ext w w') := by
  have h := number_c n z w h1 hz
  rwa [num_of hf] at h
theorem rnumberF_c (n : Int) (z : Nat) (w : World) (hf : fits n z = true) (h1 : 1 ≤ z) (hz : z ≤ 7) (hm : n ≤ 9223372036854775807) : CallR Try.prog 31 [.int .i64 n, .int .i64 (z : Int)] w (fun v w' => v = .string (B (le z n)) ∧ Ext w w') := by
  have h := rnumber_c n z w h1 hz hm
  rwa [num_of hf] at h
/-- masterdisc/eltorito.entry (function 25) -/
theorem entry_c (b m : Nat) (xs : List (List UInt8)) (w : World) (hb : Blk w b 9 (xs.flatMap encS)) (hm : xs.length = m) (hn : m ≤ 100) (hf : xs.flatten.length ≤ 32) : CallR Try.prog 25 [.slice (some ⟨b, 0, none⟩) m m] w (fun v w' => v = .string (B (xs.flatten ++ zeros ((32 : Int) - (xs.flatten.length : Int)).toNat)) ∧ Ext w w') := by
  refine callR_of (n := 12) [(0, .slice (some ⟨b, 0, none⟩) m m)] Try.func25 rfl rfl (Nat.le_of_ble_eq_true rfl) rfl ?_
  refine sc_seq ?_
  refine sc_reg ?_
  refine Go.XK.s (v := .string (B [])) (e_assign rfl) ?_
  refine sl_nil (nrm_k ?_)
  refine sc_seq ?_
  refine sc_reg ?_
  refine Go.XK.s (v := .slice (some ⟨b, 0, none⟩) m m) (e_move rfl) ?_
  refine sl_call ent46 rfl rfl (join_c _ _ xs w hb hm (by omega) (by omega)) (by decide) ?_
  rintro _ w1 ⟨rfl, hw1⟩
  have xw_w1 : Ext w w1 := Ext.tr (Ext.rfl' w) hw1
  refine Go.XK.s (v := .string (B xs.flatten)) (e_assign rfl) ?_
  refine sl_nil (nrm_k ?_)
  refine sc_seq ?_
  refine sc_reg ?_
  refine Go.XK.s (v := .string (B xs.flatten)) (e_move rfl) ?_
  refine Go.XK.s (v := .string (B xs.flatten)) (e_move rfl) ?_
  refine Go.XK.s (v := .int .i64 (xs.flatten.length : Int)) (e_slen Try.underlying9 rfl) ?_
  refine Go.XK.s (v := .int .i64 ((32 : Int) - (xs.flatten.length : Int))) (e_sub rfl rfl (by omega)) ?_
  refine sl_call ent18 rfl rfl (rep0_c _ w1 (by omega) (by omega)) (by decide) ?_
  rintro _ w2 ⟨rfl, hw2⟩
  have xw_w2 : Ext w w2 := Ext.tr xw_w1 hw2
  refine Go.XK.s (v := .string (B (xs.flatten ++ (zeros ((32 : Int) - (xs.flatten.length : Int)).toNat)))) (e_sadd rfl rfl (by simp only [zeros_length]; omega)) ?_
  refine Go.XK.s (v := .string (B (xs.flatten ++ (zeros ((32 : Int) - (xs.flatten.length : Int)).toNat)))) (e_assign rfl) ?_
  refine sl_nil (nrm_k ?_)
  refine sc_retf rfl (ret1 Try.results25 (rvt rfl) ?_)
  exact ⟨rfl, xw_w2⟩

/-- masterdisc/eltorito.image (function 24) -/
theorem image_c (x : Img) (w : World) (hx : x.valid = true) : CallR Try.prog 24 [.agg #[.int .i64 x.P, .int .i64 x.M, .int .i64 x.S, .int .i64 x.C, .int .i64 x.L, .bool x.b]] w (fun v w' => v = .string (B (imgB x)) ∧ Ext w w') := by
  have hv := Img.okv hx
  have hM := hv.M; have hS := hv.S; have hC := hv.C; have hL := hv.L; have hP := hv.P
  refine callR_of (n := 21) [(0, .agg #[.int .i64 x.P, .int .i64 x.M, .int .i64 x.S, .int .i64 x.C, .int .i64 x.L, .bool x.b])] Try.func24 rfl rfl (Nat.le_of_ble_eq_true rfl) rfl ?_
  refine sc_seq ?_
  refine sc_reg ?_
  refine s_box (cs := [.int .i64 x.P, .int .i64 x.M, .int .i64 x.S, .int .i64 x.C, .int .i64 x.L, .bool x.b]) rfl rfl ?_
  intro b1 w1 hb1 he1 hs1 hx1
  have ge_b1 : w.heap.size ≤ b1 := by have h_ := (Below.size (Ext.rfl' w)); omega
  have xw_w1 : Ext w w1 := Ext.tr (Ext.rfl' w) hx1
  refine Go.XK.s (v := .string (B [])) (e_assign rfl) ?_
  refine sl_nil (nrm_k ?_)
  refine sc_seq ?_
  refine sc_reg ?_
  refine Go.XK.s (v := .string (B [0])) (e_assign rfl) ?_
  refine sl_nil (nrm_k ?_)
  refine sc_seq ?_
  refine sc_seq ?_
  refine sc_reg ?_
  refine Go.XK.s (v := .pointer (some ⟨b1, 5, none⟩)) (e_fieldB (sz := 1) Try.underlying34 rfl Try.sizeOf4 (by decide) rfl rfl) ?_
  refine Go.XK.s (v := .bool x.b) (e_load rfl (load1 Try.isAgg4 (hb1.cell (j := 5) rfl))) ?_
  refine sl_nil (nrm_k ?_)
  refine sc_if rfl (fun c5 => ?_) (fun c5 => ?_)
  ·
    have hfb : first x.b = 136 := by simp [first, c5]
    refine sc_reg ?_
    refine Go.XK.s (v := .string (B [136])) (e_assign rfl) ?_
    refine sl_nil (nrm_k ?_)
    refine sc_seq ?_
    refine sc_free [(3, .string (B [136])), (5, .bool x.b), (4, .pointer (some ⟨b1, 5, none⟩)), (2, .string (B [])), (1, .pointer (some ⟨b1, 0, none⟩)), (0, .agg #[.int .i64 x.P, .int .i64 x.M, .int .i64 x.S, .int .i64 x.C, .int .i64 x.L, .bool x.b])] [6, 7, 8, 9, 10, 11, 12, 13, 14, 15, 16, 17, 18, 19, 20] [(Is (.string (B [136]))), (Is (.pointer (some ⟨b1, 1, none⟩))), (Is (.int .i64 x.M)), (Is (.string (B (le 1 x.M)))), (Is (.pointer (some ⟨b1, 2, none⟩))), (Is (.int .i64 x.S)), (Is (.string (B (le 2 x.S)))), (Is (.pointer (some ⟨b1, 3, none⟩))), (Is (.int .i64 x.C)), (Is (.string (B (le 2 x.C)))), (Is (.pointer (some ⟨b1, 4, none⟩))), (Is (.int .i64 x.L)), (Is (.string (B (le 4 x.L)))), (fun VV WV => ∃ b_, VV = Value.slice (some ⟨b_, 0, none⟩) 6 6 ∧ Blk WV b_ 9 [.string (B [136]), .string (B (le 1 x.M)), .string (B (le 2 x.S)), .string (B [0, 0]), .string (B (le 2 x.C)), .string (B (le 4 x.L))]), (Is (.string (B ([[136], le 1 x.M, le 2 x.S, [0, 0], le 2 x.C, le 4 x.L].flatten ++ zeros ((32 : Int) - ([[136], le 1 x.M, le 2 x.S, [0, 0], le 2 x.C, le 4 x.L].flatten.length : Int)).toNat))))] [15] (by kernel_rfl) ((.cons rfl (.cons rfl (.cons rfl (.cons rfl (.cons rfl (.cons rfl .nil))))))) (by kernel_rfl) (by kernel_rfl) (by kernel_rfl) rfl (by kernel_rfl) (ds_ext (Stays.spec (.is _ (.is _ (.is _ (.is _ (.is _ (.is _ (.is _ (.is _ (.is _ (.is _ (.is _ (.is _ (.is _ (.any (fun _ _ _ ⟨b_, e_, h_⟩ hx_ => ⟨b_, e_, h_.ext hx_⟩) (.is _ (.nil)))))))))))))))))) ⟨?_, ?_, ?_, ?_, ?_, ?_, ?_, ?_, ?_, ?_, ?_, ?_, ?_, ?_, ?_, trivial⟩ ?_
    · intro Q act_ wI hxI ha hp
      have xw_wI : Ext w wI := Ext.tr xw_w1 hxI
      replace hb1 := hb1.ext hxI
      exact h_evA (v := .string (B [136])) ha rfl (e_move rfl) rfl rfl (Ext.rfl' _)
    · intro Q act_ wI hxI ha hp
      have xw_wI : Ext w wI := Ext.tr xw_w1 hxI
      replace hb1 := hb1.ext hxI
      exact h_evA (v := .pointer (some ⟨b1, 1, none⟩)) ha rfl (e_fieldB (sz := 1) Try.underlying34 rfl Try.sizeOf3 (by decide) rfl rfl) rfl rfl (Ext.rfl' _)
    · intro Q act_ wI hxI ha hp
      have xw_wI : Ext w wI := Ext.tr xw_w1 hxI
      replace hb1 := hb1.ext hxI
      have ha := ha.add (show act_.tmps.getD 7 undef = .pointer (some ⟨b1, 1, none⟩) from hp 1 (by kernel_rfl) (by decide))
      exact h_evA (v := .int .i64 x.M) ha rfl (e_load rfl (load1 Try.isAgg3 (hb1.cell (j := 1) rfl))) rfl rfl (Ext.rfl' _)
    · intro Q act_ wI hxI ha hp
      have xw_wI : Ext w wI := Ext.tr xw_w1 hxI
      replace hb1 := hb1.ext hxI
      have ha := ha.add (show act_.tmps.getD 8 undef = .int .i64 x.M from hp 2 (by kernel_rfl) (by decide))
      exact h_callA ha ent26 rfl rfl rfl (numberF_c _ 1 wI (fits_of (by omega) (by omega)) (by decide) (by decide)) rfl (by rintro _ w1 ⟨rfl, hR⟩; exact ⟨rfl, hR⟩)
    · intro Q act_ wI hxI ha hp
      have xw_wI : Ext w wI := Ext.tr xw_w1 hxI
      replace hb1 := hb1.ext hxI
      exact h_evA (v := .pointer (some ⟨b1, 2, none⟩)) ha rfl (e_fieldB (sz := 1) Try.underlying34 rfl Try.sizeOf3 (by decide) rfl rfl) rfl rfl (Ext.rfl' _)
    · intro Q act_ wI hxI ha hp
      have xw_wI : Ext w wI := Ext.tr xw_w1 hxI
      replace hb1 := hb1.ext hxI
      have ha := ha.add (show act_.tmps.getD 10 undef = .pointer (some ⟨b1, 2, none⟩) from hp 4 (by kernel_rfl) (by decide))
      exact h_evA (v := .int .i64 x.S) ha rfl (e_load rfl (load1 Try.isAgg3 (hb1.cell (j := 2) rfl))) rfl rfl (Ext.rfl' _)
    · intro Q act_ wI hxI ha hp
      have xw_wI : Ext w wI := Ext.tr xw_w1 hxI
      replace hb1 := hb1.ext hxI
      have ha := ha.add (show act_.tmps.getD 11 undef = .int .i64 x.S from hp 5 (by kernel_rfl) (by decide))
      exact h_callA ha ent26 rfl rfl rfl (numberF_c _ 2 wI (fits_of (by omega) (by omega)) (by decide) (by decide)) rfl (by rintro _ w1 ⟨rfl, hR⟩; exact ⟨rfl, hR⟩)
    · intro Q act_ wI hxI ha hp
      have xw_wI : Ext w wI := Ext.tr xw_w1 hxI
      replace hb1 := hb1.ext hxI
      exact h_evA (v := .pointer (some ⟨b1, 3, none⟩)) ha rfl (e_fieldB (sz := 1) Try.underlying34 rfl Try.sizeOf3 (by decide) rfl rfl) rfl rfl (Ext.rfl' _)
    · intro Q act_ wI hxI ha hp
      have xw_wI : Ext w wI := Ext.tr xw_w1 hxI
      replace hb1 := hb1.ext hxI
      have ha := ha.add (show act_.tmps.getD 13 undef = .pointer (some ⟨b1, 3, none⟩) from hp 7 (by kernel_rfl) (by decide))
      exact h_evA (v := .int .i64 x.C) ha rfl (e_load rfl (load1 Try.isAgg3 (hb1.cell (j := 3) rfl))) rfl rfl (Ext.rfl' _)
    · intro Q act_ wI hxI ha hp
      have xw_wI : Ext w wI := Ext.tr xw_w1 hxI
      replace hb1 := hb1.ext hxI
      have ha := ha.add (show act_.tmps.getD 14 undef = .int .i64 x.C from hp 8 (by kernel_rfl) (by decide))
      exact h_callA ha ent26 rfl rfl rfl (numberF_c _ 2 wI (fits_of (by omega) (by omega)) (by decide) (by decide)) rfl (by rintro _ w1 ⟨rfl, hR⟩; exact ⟨rfl, hR⟩)
    · intro Q act_ wI hxI ha hp
      have xw_wI : Ext w wI := Ext.tr xw_w1 hxI
      replace hb1 := hb1.ext hxI
      exact h_evA (v := .pointer (some ⟨b1, 4, none⟩)) ha rfl (e_fieldB (sz := 1) Try.underlying34 rfl Try.sizeOf3 (by decide) rfl rfl) rfl rfl (Ext.rfl' _)
    · intro Q act_ wI hxI ha hp
      have xw_wI : Ext w wI := Ext.tr xw_w1 hxI
      replace hb1 := hb1.ext hxI
      have ha := ha.add (show act_.tmps.getD 16 undef = .pointer (some ⟨b1, 4, none⟩) from hp 10 (by kernel_rfl) (by decide))
      exact h_evA (v := .int .i64 x.L) ha rfl (e_load rfl (load1 Try.isAgg3 (hb1.cell (j := 4) rfl))) rfl rfl (Ext.rfl' _)
    · intro Q act_ wI hxI ha hp
      have xw_wI : Ext w wI := Ext.tr xw_w1 hxI
      replace hb1 := hb1.ext hxI
      have ha := ha.add (show act_.tmps.getD 17 undef = .int .i64 x.L from hp 11 (by kernel_rfl) (by decide))
      exact h_callA ha ent26 rfl rfl rfl (numberF_c _ 4 wI (fits_of (by omega) (by omega)) (by decide) (by decide)) rfl (by rintro _ w1 ⟨rfl, hR⟩; exact ⟨rfl, hR⟩)
    · intro Q act_ wI hxI ha hp
      have xw_wI : Ext w wI := Ext.tr xw_w1 hxI
      replace hb1 := hb1.ext hxI
      have ha := ha.add (show act_.tmps.getD 6 undef = .string (B [136]) from hp 0 (by kernel_rfl) (by decide))
      have ha := ha.add (show act_.tmps.getD 9 undef = .string (B (le 1 x.M)) from hp 3 (by kernel_rfl) (by decide))
      have ha := ha.add (show act_.tmps.getD 12 undef = .string (B (le 2 x.S)) from hp 6 (by kernel_rfl) (by decide))
      have ha := ha.add (show act_.tmps.getD 15 undef = .string (B (le 2 x.C)) from hp 9 (by kernel_rfl) (by decide))
      have ha := ha.add (show act_.tmps.getD 18 undef = .string (B (le 4 x.L)) from hp 12 (by kernel_rfl) (by decide))
      exact h_evA ha rfl (e_buildSlice (vs := [(0, .string (B [136])), (1, .string (B (le 1 x.M))), (2, .string (B (le 2 x.S))), (3, .string (B [0, 0])), (4, .string (B (le 2 x.C))), (5, .string (B (le 4 x.L)))]) (v := .slice (some ⟨wI.heap.size, 0, none⟩) 6 6) (w1 := wI.alloc (.cells ([.string (B [136]), .string (B (le 1 x.M)), .string (B (le 2 x.S)), .string (B [0, 0]), .string (B (le 2 x.C)), .string (B (le 4 x.L))] : List Value).toArray 9)) rfl (by kernel_rfl)) rfl ⟨_, rfl, Blk.new wI 9 [.string (B [136]), .string (B (le 1 x.M)), .string (B (le 2 x.S)), .string (B [0, 0]), .string (B (le 2 x.C)), .string (B (le 4 x.L))]⟩ (Ext.alloc _ _)
    · intro Q act_ wI hxI ha hp
      have xw_wI : Ext w wI := Ext.tr xw_w1 hxI
      replace hb1 := hb1.ext hxI
      obtain ⟨b19, e19, hb19⟩ := (show ∃ b_, act_.tmps.getD 19 undef = Value.slice (some ⟨b_, 0, none⟩) 6 6 ∧ Blk wI b_ 9 [.string (B [136]), .string (B (le 1 x.M)), .string (B (le 2 x.S)), .string (B [0, 0]), .string (B (le 2 x.C)), .string (B (le 4 x.L))] from hp 13 (by kernel_rfl) (by decide))
      have ha := ha.add e19
      exact h_callA ha ent25 rfl rfl rfl (entry_c _ _ [[136], le 1 x.M, le 2 x.S, [0, 0], le 2 x.C, le 4 x.L] wI hb19 rfl (by decide) (by simp [le_length])) rfl (by rintro _ w1 ⟨rfl, hR⟩; exact ⟨rfl, hR⟩)
    intro vs_ w2 hx_w2 hvs act_ ha hv
    have xw_w2 : Ext w w2 := Ext.tr xw_w1 hx_w2
    replace hb1 := hb1.ext hx_w2
    have ha := ha.add ((hv 14 (by decide)).trans (show vs_ 14 = .string (B ([[136], le 1 x.M, le 2 x.S, [0, 0], le 2 x.C, le 4 x.L].flatten ++ zeros ((32 : Int) - ([[136], le 1 x.M, le 2 x.S, [0, 0], le 2 x.C, le 4 x.L].flatten.length : Int)).toNat)) from hvs 14 (by decide)))
    refine st_go ha ?_
    clear ha hv hvs
    refine st_ev (v := .string (B ([[136], le 1 x.M, le 2 x.S, [0, 0], le 2 x.C, le 4 x.L].flatten ++ zeros ((32 : Int) - ([[136], le 1 x.M, le 2 x.S, [0, 0], le 2 x.C, le 4 x.L].flatten.length : Int)).toNat))) rfl (e_assign rfl) ?_
    refine st_nil (nrm_k ?_)
    refine sc_retf rfl (ret1 Try.results24 (rvt rfl) ?_)
    refine ⟨congrArg Value.string (congrArg B ?_), xw_w2⟩
    rw [← img_code, hfb]
    simp [le_length]
  ·
    have hfb : first x.b = 0 := by simp [first, c5]
    refine sc_skip (nrm_k ?_)
    refine sc_seq ?_
    refine sc_free [(5, .bool x.b), (4, .pointer (some ⟨b1, 5, none⟩)), (3, .string (B [0])), (2, .string (B [])), (1, .pointer (some ⟨b1, 0, none⟩)), (0, .agg #[.int .i64 x.P, .int .i64 x.M, .int .i64 x.S, .int .i64 x.C, .int .i64 x.L, .bool x.b])] [6, 7, 8, 9, 10, 11, 12, 13, 14, 15, 16, 17, 18, 19, 20] [(Is (.string (B [0]))), (Is (.pointer (some ⟨b1, 1, none⟩))), (Is (.int .i64 x.M)), (Is (.string (B (le 1 x.M)))), (Is (.pointer (some ⟨b1, 2, none⟩))), (Is (.int .i64 x.S)), (Is (.string (B (le 2 x.S)))), (Is (.pointer (some ⟨b1, 3, none⟩))), (Is (.int .i64 x.C)), (Is (.string (B (le 2 x.C)))), (Is (.pointer (some ⟨b1, 4, none⟩))), (Is (.int .i64 x.L)), (Is (.string (B (le 4 x.L)))), (fun VV WV => ∃ b_, VV = Value.slice (some ⟨b_, 0, none⟩) 6 6 ∧ Blk WV b_ 9 [.string (B [0]), .string (B (le 1 x.M)), .string (B (le 2 x.S)), .string (B [0, 0]), .string (B (le 2 x.C)), .string (B (le 4 x.L))]), (Is (.string (B ([[0], le 1 x.M, le 2 x.S, [0, 0], le 2 x.C, le 4 x.L].flatten ++ zeros ((32 : Int) - ([[0], le 1 x.M, le 2 x.S, [0, 0], le 2 x.C, le 4 x.L].flatten.length : Int)).toNat))))] [15] (by kernel_rfl) (Sub.refl _) (by kernel_rfl) (by kernel_rfl) (by kernel_rfl) rfl (by kernel_rfl) (ds_ext (Stays.spec (.is _ (.is _ (.is _ (.is _ (.is _ (.is _ (.is _ (.is _ (.is _ (.is _ (.is _ (.is _ (.is _ (.any (fun _ _ _ ⟨b_, e_, h_⟩ hx_ => ⟨b_, e_, h_.ext hx_⟩) (.is _ (.nil)))))))))))))))))) ⟨?_, ?_, ?_, ?_, ?_, ?_, ?_, ?_, ?_, ?_, ?_, ?_, ?_, ?_, ?_, trivial⟩ ?_
    · intro Q act_ wI hxI ha hp
      have xw_wI : Ext w wI := Ext.tr xw_w1 hxI
      replace hb1 := hb1.ext hxI
      exact h_evA (v := .string (B [0])) ha rfl (e_move rfl) rfl rfl (Ext.rfl' _)
    · intro Q act_ wI hxI ha hp
      have xw_wI : Ext w wI := Ext.tr xw_w1 hxI
      replace hb1 := hb1.ext hxI
      exact h_evA (v := .pointer (some ⟨b1, 1, none⟩)) ha rfl (e_fieldB (sz := 1) Try.underlying34 rfl Try.sizeOf3 (by decide) rfl rfl) rfl rfl (Ext.rfl' _)
    · intro Q act_ wI hxI ha hp
      have xw_wI : Ext w wI := Ext.tr xw_w1 hxI
      replace hb1 := hb1.ext hxI
      have ha := ha.add (show act_.tmps.getD 7 undef = .pointer (some ⟨b1, 1, none⟩) from hp 1 (by kernel_rfl) (by decide))
      exact h_evA (v := .int .i64 x.M) ha rfl (e_load rfl (load1 Try.isAgg3 (hb1.cell (j := 1) rfl))) rfl rfl (Ext.rfl' _)
    · intro Q act_ wI hxI ha hp
      have xw_wI : Ext w wI := Ext.tr xw_w1 hxI
      replace hb1 := hb1.ext hxI
      have ha := ha.add (show act_.tmps.getD 8 undef = .int .i64 x.M from hp 2 (by kernel_rfl) (by decide))
      exact h_callA ha ent26 rfl rfl rfl (numberF_c _ 1 wI (fits_of (by omega) (by omega)) (by decide) (by decide)) rfl (by rintro _ w1 ⟨rfl, hR⟩; exact ⟨rfl, hR⟩)
    · intro Q act_ wI hxI ha hp
      have xw_wI : Ext w wI := Ext.tr xw_w1 hxI
      replace hb1 := hb1.ext hxI
      exact h_evA (v := .pointer (some ⟨b1, 2, none⟩)) ha rfl (e_fieldB (sz := 1) Try.underlying34 rfl Try.sizeOf3 (by decide) rfl rfl) rfl rfl (Ext.rfl' _)
    · intro Q act_ wI hxI ha hp
      have xw_wI : Ext w wI := Ext.tr xw_w1 hxI
      replace hb1 := hb1.ext hxI
      have ha := ha.add (show act_.tmps.getD 10 undef = .pointer (some ⟨b1, 2, none⟩) from hp 4 (by kernel_rfl) (by decide))
      exact h_evA (v := .int .i64 x.S) ha rfl (e_load rfl (load1 Try.isAgg3 (hb1.cell (j := 2) rfl))) rfl rfl (Ext.rfl' _)
    · intro Q act_ wI hxI ha hp
      have xw_wI : Ext w wI := Ext.tr xw_w1 hxI
      replace hb1 := hb1.ext hxI
      have ha := ha.add (show act_.tmps.getD 11 undef = .int .i64 x.S from hp 5 (by kernel_rfl) (by decide))
      exact h_callA ha ent26 rfl rfl rfl (numberF_c _ 2 wI (fits_of (by omega) (by omega)) (by decide) (by decide)) rfl (by rintro _ w1 ⟨rfl, hR⟩; exact ⟨rfl, hR⟩)
    · intro Q act_ wI hxI ha hp
      have xw_wI : Ext w wI := Ext.tr xw_w1 hxI
      replace hb1 := hb1.ext hxI
      exact h_evA (v := .pointer (some ⟨b1, 3, none⟩)) ha rfl (e_fieldB (sz := 1) Try.underlying34 rfl Try.sizeOf3 (by decide) rfl rfl) rfl rfl (Ext.rfl' _)
    · intro Q act_ wI hxI ha hp
      have xw_wI : Ext w wI := Ext.tr xw_w1 hxI
      replace hb1 := hb1.ext hxI
      have ha := ha.add (show act_.tmps.getD 13 undef = .pointer (some ⟨b1, 3, none⟩) from hp 7 (by kernel_rfl) (by decide))
      exact h_evA (v := .int .i64 x.C) ha rfl (e_load rfl (load1 Try.isAgg3 (hb1.cell (j := 3) rfl))) rfl rfl (Ext.rfl' _)
    · intro Q act_ wI hxI ha hp
      have xw_wI : Ext w wI := Ext.tr xw_w1 hxI
      replace hb1 := hb1.ext hxI
      have ha := ha.add (show act_.tmps.getD 14 undef = .int .i64 x.C from hp 8 (by kernel_rfl) (by decide))
      exact h_callA ha ent26 rfl rfl rfl (numberF_c _ 2 wI (fits_of (by omega) (by omega)) (by decide) (by decide)) rfl (by rintro _ w1 ⟨rfl, hR⟩; exact ⟨rfl, hR⟩)
    · intro Q act_ wI hxI ha hp
      have xw_wI : Ext w wI := Ext.tr xw_w1 hxI
      replace hb1 := hb1.ext hxI
      exact h_evA (v := .pointer (some ⟨b1, 4, none⟩)) ha rfl (e_fieldB (sz := 1) Try.underlying34 rfl Try.sizeOf3 (by decide) rfl rfl) rfl rfl (Ext.rfl' _)
    · intro Q act_ wI hxI ha hp
      have xw_wI : Ext w wI := Ext.tr xw_w1 hxI
      replace hb1 := hb1.ext hxI
      have ha := ha.add (show act_.tmps.getD 16 undef = .pointer (some ⟨b1, 4, none⟩) from hp 10 (by kernel_rfl) (by decide))
      exact h_evA (v := .int .i64 x.L) ha rfl (e_load rfl (load1 Try.isAgg3 (hb1.cell (j := 4) rfl))) rfl rfl (Ext.rfl' _)
    · intro Q act_ wI hxI ha hp
      have xw_wI : Ext w wI := Ext.tr xw_w1 hxI
      replace hb1 := hb1.ext hxI
      have ha := ha.add (show act_.tmps.getD 17 undef = .int .i64 x.L from hp 11 (by kernel_rfl) (by decide))
      exact h_callA ha ent26 rfl rfl rfl (numberF_c _ 4 wI (fits_of (by omega) (by omega)) (by decide) (by decide)) rfl (by rintro _ w1 ⟨rfl, hR⟩; exact ⟨rfl, hR⟩)
    · intro Q act_ wI hxI ha hp
      have xw_wI : Ext w wI := Ext.tr xw_w1 hxI
      replace hb1 := hb1.ext hxI
      have ha := ha.add (show act_.tmps.getD 6 undef = .string (B [0]) from hp 0 (by kernel_rfl) (by decide))
      have ha := ha.add (show act_.tmps.getD 9 undef = .string (B (le 1 x.M)) from hp 3 (by kernel_rfl) (by decide))
      have ha := ha.add (show act_.tmps.getD 12 undef = .string (B (le 2 x.S)) from hp 6 (by kernel_rfl) (by decide))
      have ha := ha.add (show act_.tmps.getD 15 undef = .string (B (le 2 x.C)) from hp 9 (by kernel_rfl) (by decide))
      have ha := ha.add (show act_.tmps.getD 18 undef = .string (B (le 4 x.L)) from hp 12 (by kernel_rfl) (by decide))
      exact h_evA ha rfl (e_buildSlice (vs := [(0, .string (B [0])), (1, .string (B (le 1 x.M))), (2, .string (B (le 2 x.S))), (3, .string (B [0, 0])), (4, .string (B (le 2 x.C))), (5, .string (B (le 4 x.L)))]) (v := .slice (some ⟨wI.heap.size, 0, none⟩) 6 6) (w1 := wI.alloc (.cells ([.string (B [0]), .string (B (le 1 x.M)), .string (B (le 2 x.S)), .string (B [0, 0]), .string (B (le 2 x.C)), .string (B (le 4 x.L))] : List Value).toArray 9)) rfl (by kernel_rfl)) rfl ⟨_, rfl, Blk.new wI 9 [.string (B [0]), .string (B (le 1 x.M)), .string (B (le 2 x.S)), .string (B [0, 0]), .string (B (le 2 x.C)), .string (B (le 4 x.L))]⟩ (Ext.alloc _ _)
    · intro Q act_ wI hxI ha hp
      have xw_wI : Ext w wI := Ext.tr xw_w1 hxI
      replace hb1 := hb1.ext hxI
      obtain ⟨b19, e19, hb19⟩ := (show ∃ b_, act_.tmps.getD 19 undef = Value.slice (some ⟨b_, 0, none⟩) 6 6 ∧ Blk wI b_ 9 [.string (B [0]), .string (B (le 1 x.M)), .string (B (le 2 x.S)), .string (B [0, 0]), .string (B (le 2 x.C)), .string (B (le 4 x.L))] from hp 13 (by kernel_rfl) (by decide))
      have ha := ha.add e19
      exact h_callA ha ent25 rfl rfl rfl (entry_c _ _ [[0], le 1 x.M, le 2 x.S, [0, 0], le 2 x.C, le 4 x.L] wI hb19 rfl (by decide) (by simp [le_length])) rfl (by rintro _ w1 ⟨rfl, hR⟩; exact ⟨rfl, hR⟩)
    intro vs_ w3 hx_w3 hvs act_ ha hv
    have xw_w3 : Ext w w3 := Ext.tr xw_w1 hx_w3
    replace hb1 := hb1.ext hx_w3
    have ha := ha.add ((hv 14 (by decide)).trans (show vs_ 14 = .string (B ([[0], le 1 x.M, le 2 x.S, [0, 0], le 2 x.C, le 4 x.L].flatten ++ zeros ((32 : Int) - ([[0], le 1 x.M, le 2 x.S, [0, 0], le 2 x.C, le 4 x.L].flatten.length : Int)).toNat)) from hvs 14 (by decide)))
    refine st_go ha ?_
    clear ha hv hvs
    refine st_ev (v := .string (B ([[0], le 1 x.M, le 2 x.S, [0, 0], le 2 x.C, le 4 x.L].flatten ++ zeros ((32 : Int) - ([[0], le 1 x.M, le 2 x.S, [0, 0], le 2 x.C, le 4 x.L].flatten.length : Int)).toNat))) rfl (e_assign rfl) ?_
    refine st_nil (nrm_k ?_)
    refine sc_retf rfl (ret1 Try.results24 (rvt rfl) ?_)
    refine ⟨congrArg Value.string (congrArg B ?_), xw_w3⟩
    rw [← img_code, hfb]
    simp [le_length]

/-- masterdisc/eltorito.validation$1 (function 45) -/
theorem form_c (k p : Int) (b : Nat) (w : World) (hb : Blk w b 3 [.int .i64 p]) (hp : 0 ≤ p ∧ p < 256) (hk : 0 ≤ k ∧ k < 65536) : CallR Try.prog 45 [.int .i64 k, .pointer (some ⟨b, 0, none⟩)] w (fun v w' => v = .string (B (valHead p ++ le 2 k ++ [85, 170])) ∧ Ext w w') := by
  refine callR_of (n := 14) [(0, .int .i64 k), (1, .pointer (some ⟨b, 0, none⟩))] Try.func45 rfl rfl (Nat.le_of_ble_eq_true rfl) rfl ?_
  refine sc_seq ?_
  refine sc_reg ?_
  refine Go.XK.s (v := .string (B [])) (e_assign rfl) ?_
  refine sl_nil (nrm_k ?_)
  refine sc_seq ?_
  refine sc_reg ?_
  refine sl_call ent18 rfl rfl (rep0_c _ w (by omega) (by omega)) (by decide) ?_
  rintro _ w1 ⟨rfl, hw1⟩
  have xw_w1 : Ext w w1 := Ext.tr (Ext.rfl' w) hw1
  replace hb := hb.ext hw1
  refine Go.XK.s (v := .string (B ([77, 65, 83, 84, 69, 82, 68, 73, 83, 67] ++ (zeros 14)))) (e_sadd rfl rfl (by first | omega | (simp <;> omega))) ?_
  refine Go.XK.s (v := .string (B ([77, 65, 83, 84, 69, 82, 68, 73, 83, 67] ++ (zeros 14)))) (e_assign rfl) ?_
  refine sl_nil (nrm_k ?_)
  refine sc_seq ?_
  refine sc_reg ?_
  refine Go.XK.s (v := .int .i64 p) (e_load rfl (load1 Try.isAgg3 (hb.cell (j := 0) rfl))) ?_
  refine sl_call ent26 rfl rfl (numberF_c _ 1 w1 (fits_of (by omega) (by omega)) (by decide) (by decide)) (by decide) ?_
  rintro _ w2 ⟨rfl, hw2⟩
  have xw_w2 : Ext w w2 := Ext.tr xw_w1 hw2
  replace hb := hb.ext hw2
  refine Go.XK.s (v := .string (B ([77, 65, 83, 84, 69, 82, 68, 73, 83, 67] ++ (zeros 14)))) (e_move rfl) ?_
  refine Go.XK.s (v := .int .i64 k) (e_move rfl) ?_
  refine sl_call ent26 rfl rfl (numberF_c _ 2 w2 (fits_of (by omega) (by omega)) (by decide) (by decide)) (by decide) ?_
  rintro _ w3 ⟨rfl, hw3⟩
  have xw_w3 : Ext w w3 := Ext.tr xw_w2 hw3
  replace hb := hb.ext hw3
  refine s_bslice (vs := [(0, .string (B [1])), (1, .string (B (le 1 p))), (2, .string (B [0, 0])), (3, .string (B ([77, 65, 83, 84, 69, 82, 68, 73, 83, 67] ++ (zeros 14)))), (4, .string (B (le 2 k))), (5, .string (B [85, 170]))]) (e := 9) rfl [.string (B [1]), .string (B (le 1 p)), .string (B [0, 0]), .string (B ([77, 65, 83, 84, 69, 82, 68, 73, 83, 67] ++ (zeros 14))), .string (B (le 2 k)), .string (B [85, 170])] (by kernel_rfl) ?_
  intro b12 w4 hb12 he12 hs12 hx12
  have ne_b12_b : b12 ≠ b := by have h_ := hb.lt; omega
  have ge_b12 : w.heap.size ≤ b12 := by have h_ := (Below.size xw_w3); omega
  have xw_w4 : Ext w w4 := Ext.tr xw_w3 hx12
  replace hb := hb.ext hx12
  refine sl_call ent25 rfl rfl (entry_c _ _ [[1], le 1 p, [0, 0], [77, 65, 83, 84, 69, 82, 68, 73, 83, 67] ++ (zeros 14), le 2 k, [85, 170]] w4 hb12 rfl (by decide) (by simp [le_length])) (by decide) ?_
  rintro _ w5 ⟨rfl, hw5⟩
  have xw_w5 : Ext w w5 := Ext.tr xw_w4 hw5
  replace hb := hb.ext hw5
  replace hb12 := hb12.ext hw5
  refine Go.XK.s (v := .string (B ([[1], le 1 p, [0, 0], [77, 65, 83, 84, 69, 82, 68, 73, 83, 67] ++ (zeros 14), le 2 k, [85, 170]].flatten ++ zeros ((32 : Int) - ([[1], le 1 p, [0, 0], [77, 65, 83, 84, 69, 82, 68, 73, 83, 67] ++ (zeros 14), le 2 k, [85, 170]].flatten.length : Int)).toNat))) (e_assign rfl) ?_
  refine sl_nil (nrm_k ?_)
  refine sc_retf rfl (ret1 Try.results45 (rvt rfl) ?_)
  refine ⟨congrArg Value.string (congrArg B ?_), xw_w5⟩
  rw [← form_code]
  simp [le_length]

/-- masterdisc/eltorito.validation (function 23) -/
theorem validation_c (p : Int) (w : World) (hp : 0 ≤ p ∧ p < 256) : CallR Try.prog 23 [.int .i64 p] w (fun v w' => v = .string (B (valB p)) ∧ Ext w w') := by
  have hk := wsum_bound (valHead p ++ le 2 0 ++ [85, 170]) 0 (by decide) (by decide)
  refine callR_of (n := 12) [(0, .int .i64 p)] Try.func23 rfl rfl (Nat.le_of_ble_eq_true rfl) rfl ?_
  refine sc_seq ?_
  refine sc_reg ?_
  refine s_box (cs := [.int .i64 p]) rfl rfl ?_
  intro b1 w1 hb1 he1 hs1 hx1
  have ge_b1 : w.heap.size ≤ b1 := by have h_ := (Below.size (Ext.rfl' w)); omega
  have xw_w1 : Ext w w1 := Ext.tr (Ext.rfl' w) hx1
  refine Go.XK.s (v := .string (B [])) (e_assign rfl) ?_
  refine sl_nil (nrm_k ?_)
  refine sc_seq ?_
  refine sc_reg ?_
  refine Go.XK.s (v := .func (.func 45) #[] #[.pointer (some ⟨b1, 0, none⟩)]) (e_makeFunc (vs := [.pointer (some ⟨b1, 0, none⟩)]) rfl) ?_
  refine Go.XK.s (v := .func (.func 45) #[] #[.pointer (some ⟨b1, 0, none⟩)]) (e_assign rfl) ?_
  refine sl_nil (nrm_k ?_)
  refine sc_seq ?_
  refine sc_reg ?_
  refine Go.XK.s (v := .func (.func 45) #[] #[.pointer (some ⟨b1, 0, none⟩)]) (e_move rfl) ?_
  refine Go.XK.s (v := .func (.func 45) #[] #[.pointer (some ⟨b1, 0, none⟩)]) (e_move rfl) ?_
  refine sl_call ent45 rfl rfl (form_c 0 p b1 w1 hb1 (by omega) (by omega)) (by decide) ?_
  rintro _ w2 ⟨rfl, hw2⟩
  have xw_w2 : Ext w w2 := Ext.tr xw_w1 hw2
  replace hb1 := hb1.ext hw2
  refine sl_call ent16 rfl rfl (sum_c _ w2 (by simp [valHead, le_length])) (by decide) ?_
  rintro _ w3 ⟨rfl, hw3⟩
  have xw_w3 : Ext w w3 := Ext.tr xw_w2 hw3
  replace hb1 := hb1.ext hw3
  refine Go.XK.s (v := .int .i64 ((65536 : Int) - (wsum 0 (valHead p ++ le 2 0 ++ [85, 170])))) (e_sub rfl rfl (by omega)) ?_
  refine Go.XK.s (v := .int .i64 (((65536 : Int) - (wsum 0 (valHead p ++ le 2 0 ++ [85, 170]))) % 65536)) (e_rem rfl rfl (by omega) (by omega)) ?_
  refine sl_call ent45 rfl rfl (form_c (((65536 : Int) - (wsum 0 (valHead p ++ le 2 0 ++ [85, 170]))) % 65536) p b1 w3 hb1 (by omega) (by omega)) (by decide) ?_
  rintro _ w4 ⟨rfl, hw4⟩
  have xw_w4 : Ext w w4 := Ext.tr xw_w3 hw4
  replace hb1 := hb1.ext hw4
  refine Go.XK.s (v := .string (B (valHead p ++ le 2 (((65536 : Int) - (wsum 0 (valHead p ++ le 2 0 ++ [85, 170]))) % 65536) ++ [85, 170]))) (e_assign rfl) ?_
  refine sl_nil (nrm_k ?_)
  refine sc_retf rfl (ret1 Try.results23 (rvt rfl) ?_)
  refine ⟨congrArg Value.string (congrArg B ?_), xw_w4⟩
  simp only [valB, valKey, le20]

/-- masterdisc/masterdiscref27.image (function 32) -/
theorem rimage_c (x : Img) (w : World) (hx : x.valid = true) : CallR Try.prog 32 [.agg #[.int .i64 x.P, .int .i64 x.M, .int .i64 x.S, .int .i64 x.C, .int .i64 x.L, .bool x.b]] w (fun v w' => v = .string (B (imgB x)) ∧ Ext w w') := by
  have hv := Img.okv hx
  have hM := hv.M; have hS := hv.S; have hC := hv.C; have hL := hv.L; have hP := hv.P
  refine callR_of (n := 27) [(0, .agg #[.int .i64 x.P, .int .i64 x.M, .int .i64 x.S, .int .i64 x.C, .int .i64 x.L, .bool x.b])] Try.func32 rfl rfl (Nat.le_of_ble_eq_true rfl) rfl ?_
  refine sc_seq ?_
  refine sc_reg ?_
  refine s_box (cs := [.int .i64 x.P, .int .i64 x.M, .int .i64 x.S, .int .i64 x.C, .int .i64 x.L, .bool x.b]) rfl rfl ?_
  intro b1 w1 hb1 he1 hs1 hx1
  have ge_b1 : w.heap.size ≤ b1 := by have h_ := (Below.size (Ext.rfl' w)); omega
  have xw_w1 : Ext w w1 := Ext.tr (Ext.rfl' w) hx1
  refine Go.XK.s (v := .string (B [])) (e_assign rfl) ?_
  refine sl_nil (nrm_k ?_)
  refine sc_seq ?_
  refine sc_reg ?_
  refine Go.XK.s (v := .int .u8 0) (e_assign rfl) ?_
  refine sl_nil (nrm_k ?_)
  refine sc_seq ?_
  refine sc_seq ?_
  refine sc_reg ?_
  refine Go.XK.s (v := .pointer (some ⟨b1, 5, none⟩)) (e_fieldB (sz := 1) Try.underlying34 rfl Try.sizeOf4 (by decide) rfl rfl) ?_
  refine Go.XK.s (v := .bool x.b) (e_load rfl (load1 Try.isAgg4 (hb1.cell (j := 5) rfl))) ?_
  refine sl_nil (nrm_k ?_)
  refine sc_if rfl (fun c5 => ?_) (fun c5 => ?_)
  ·
    have hfb : first x.b = 136 := by simp [first, c5]
    refine sc_reg ?_
    refine Go.XK.s (v := .int .u8 136) (e_assign rfl) ?_
    refine sl_nil (nrm_k ?_)
    refine sc_seq ?_
    refine sc_free [(3, .int .u8 136), (5, .bool x.b), (4, .pointer (some ⟨b1, 5, none⟩)), (2, .string (B [])), (1, .pointer (some ⟨b1, 0, none⟩)), (0, .agg #[.int .i64 x.P, .int .i64 x.M, .int .i64 x.S, .int .i64 x.C, .int .i64 x.L, .bool x.b])] [6, 7, 8, 9, 10, 11, 12, 13, 14, 15, 16, 17, 18, 19, 20, 21, 22, 23, 24, 25, 26] [(Is (.int .u8 136)), (Is (.pointer (some ⟨b1, 1, none⟩))), (Is (.int .i64 x.M)), (Is (.int .u8 ((u8of x.M).toNat))), (fun VV WV => ∃ b_, VV = Value.slice (some ⟨b_, 0, none⟩) 2 2 ∧ Blk WV b_ 5 [.int .u8 136, .int .u8 ((u8of x.M).toNat)]), (Is (.string (B [136, u8of x.M]))), (Is (.pointer (some ⟨b1, 2, none⟩))), (Is (.int .i64 x.S)), (Is (.string (B (le 2 x.S)))), (Is (.string (B ([136, u8of x.M] ++ (le 2 x.S))))), (Is (.string (B (([136, u8of x.M] ++ (le 2 x.S)) ++ [0, 0])))), (Is (.pointer (some ⟨b1, 3, none⟩))), (Is (.int .i64 x.C)), (Is (.string (B (le 2 x.C)))), (Is (.string (B ((([136, u8of x.M] ++ (le 2 x.S)) ++ [0, 0]) ++ (le 2 x.C))))), (Is (.pointer (some ⟨b1, 4, none⟩))), (Is (.int .i64 x.L)), (Is (.string (B (le 4 x.L)))), (Is (.string (B (((([136, u8of x.M] ++ (le 2 x.S)) ++ [0, 0]) ++ (le 2 x.C)) ++ (le 4 x.L))))), (Is (.string (B (zeros 20)))), (Is (.string (B ((((([136, u8of x.M] ++ (le 2 x.S)) ++ [0, 0]) ++ (le 2 x.C)) ++ (le 4 x.L)) ++ (zeros 20)))))] [21] (by kernel_rfl) ((.cons rfl (.cons rfl (.cons rfl (.cons rfl (.cons rfl (.cons rfl .nil))))))) (by kernel_rfl) (by kernel_rfl) (by kernel_rfl) rfl (by kernel_rfl) (ds_ext (Stays.spec (.is _ (.is _ (.is _ (.is _ (.any (fun _ _ _ ⟨b_, e_, h_⟩ hx_ => ⟨b_, e_, h_.ext hx_⟩) (.is _ (.is _ (.is _ (.is _ (.is _ (.is _ (.is _ (.is _ (.is _ (.is _ (.is _ (.is _ (.is _ (.is _ (.is _ (.is _ (.nil)))))))))))))))))))))))) ⟨?_, ?_, ?_, ?_, ?_, ?_, ?_, ?_, ?_, ?_, ?_, ?_, ?_, ?_, ?_, ?_, ?_, ?_, ?_, ?_, ?_, trivial⟩ ?_
    · intro Q act_ wI hxI ha hp
      have xw_wI : Ext w wI := Ext.tr xw_w1 hxI
      replace hb1 := hb1.ext hxI
      exact h_evA (v := .int .u8 136) ha rfl (e_move rfl) rfl rfl (Ext.rfl' _)
    · intro Q act_ wI hxI ha hp
      have xw_wI : Ext w wI := Ext.tr xw_w1 hxI
      replace hb1 := hb1.ext hxI
      exact h_evA (v := .pointer (some ⟨b1, 1, none⟩)) ha rfl (e_fieldB (sz := 1) Try.underlying34 rfl Try.sizeOf3 (by decide) rfl rfl) rfl rfl (Ext.rfl' _)
    · intro Q act_ wI hxI ha hp
      have xw_wI : Ext w wI := Ext.tr xw_w1 hxI
      replace hb1 := hb1.ext hxI
      have ha := ha.add (show act_.tmps.getD 7 undef = .pointer (some ⟨b1, 1, none⟩) from hp 1 (by kernel_rfl) (by decide))
      exact h_evA (v := .int .i64 x.M) ha rfl (e_load rfl (load1 Try.isAgg3 (hb1.cell (j := 1) rfl))) rfl rfl (Ext.rfl' _)
    · intro Q act_ wI hxI ha hp
      have xw_wI : Ext w wI := Ext.tr xw_w1 hxI
      replace hb1 := hb1.ext hxI
      have ha := ha.add (show act_.tmps.getD 8 undef = .int .i64 x.M from hp 2 (by kernel_rfl) (by decide))
      exact h_evA (v := .int .u8 ((u8of x.M).toNat)) ha rfl (e_intu8 Try.underlying3 Try.underlying5 rfl) rfl rfl (Ext.rfl' _)
    · intro Q act_ wI hxI ha hp
      have xw_wI : Ext w wI := Ext.tr xw_w1 hxI
      replace hb1 := hb1.ext hxI
      have ha := ha.add (show act_.tmps.getD 6 undef = .int .u8 136 from hp 0 (by kernel_rfl) (by decide))
      have ha := ha.add (show act_.tmps.getD 9 undef = .int .u8 ((u8of x.M).toNat) from hp 3 (by kernel_rfl) (by decide))
      exact h_evA ha rfl (e_buildSlice (vs := [(0, .int .u8 136), (1, .int .u8 ((u8of x.M).toNat))]) (v := .slice (some ⟨wI.heap.size, 0, none⟩) 2 2) (w1 := wI.alloc (.cells ([.int .u8 136, .int .u8 ((u8of x.M).toNat)] : List Value).toArray 5)) rfl (by kernel_rfl)) rfl ⟨_, rfl, Blk.new wI 5 [.int .u8 136, .int .u8 ((u8of x.M).toNat)]⟩ (Ext.alloc _ _)
    · intro Q act_ wI hxI ha hp
      have xw_wI : Ext w wI := Ext.tr xw_w1 hxI
      replace hb1 := hb1.ext hxI
      obtain ⟨b10, e10, hb10⟩ := (show ∃ b_, act_.tmps.getD 10 undef = Value.slice (some ⟨b_, 0, none⟩) 2 2 ∧ Blk wI b_ 5 [.int .u8 136, .int .u8 ((u8of x.M).toNat)] from hp 4 (by kernel_rfl) (by decide))
      have ha := ha.add e10
      exact h_evA (v := .string (B [136, u8of x.M])) ha rfl (e_convr (l := _) rfl (conv_blk (s := [136, u8of x.M]) Try.underlying35 Try.underlying5 Try.underlying9 hb10 rfl)) rfl rfl (Ext.rfl' _)
    · intro Q act_ wI hxI ha hp
      have xw_wI : Ext w wI := Ext.tr xw_w1 hxI
      replace hb1 := hb1.ext hxI
      exact h_evA (v := .pointer (some ⟨b1, 2, none⟩)) ha rfl (e_fieldB (sz := 1) Try.underlying34 rfl Try.sizeOf3 (by decide) rfl rfl) rfl rfl (Ext.rfl' _)
    · intro Q act_ wI hxI ha hp
      have xw_wI : Ext w wI := Ext.tr xw_w1 hxI
      replace hb1 := hb1.ext hxI
      have ha := ha.add (show act_.tmps.getD 12 undef = .pointer (some ⟨b1, 2, none⟩) from hp 6 (by kernel_rfl) (by decide))
      exact h_evA (v := .int .i64 x.S) ha rfl (e_load rfl (load1 Try.isAgg3 (hb1.cell (j := 2) rfl))) rfl rfl (Ext.rfl' _)
    · intro Q act_ wI hxI ha hp
      have xw_wI : Ext w wI := Ext.tr xw_w1 hxI
      replace hb1 := hb1.ext hxI
      have ha := ha.add (show act_.tmps.getD 13 undef = .int .i64 x.S from hp 7 (by kernel_rfl) (by decide))
      exact h_callA ha ent31 rfl rfl rfl (rnumberF_c _ 2 wI (fits_of (by omega) (by omega)) (by decide) (by decide) (by omega)) rfl (by rintro _ w1 ⟨rfl, hR⟩; exact ⟨rfl, hR⟩)
    · intro Q act_ wI hxI ha hp
      have xw_wI : Ext w wI := Ext.tr xw_w1 hxI
      replace hb1 := hb1.ext hxI
      have ha := ha.add (show act_.tmps.getD 11 undef = .string (B [136, u8of x.M]) from hp 5 (by kernel_rfl) (by decide))
      have ha := ha.add (show act_.tmps.getD 14 undef = .string (B (le 2 x.S)) from hp 8 (by kernel_rfl) (by decide))
      exact h_evA (v := .string (B ([136, u8of x.M] ++ (le 2 x.S)))) ha rfl (e_sadd rfl rfl (by simp [le_length])) rfl rfl (Ext.rfl' _)
    · intro Q act_ wI hxI ha hp
      have xw_wI : Ext w wI := Ext.tr xw_w1 hxI
      replace hb1 := hb1.ext hxI
      have ha := ha.add (show act_.tmps.getD 15 undef = .string (B ([136, u8of x.M] ++ (le 2 x.S))) from hp 9 (by kernel_rfl) (by decide))
      exact h_evA (v := .string (B (([136, u8of x.M] ++ (le 2 x.S)) ++ [0, 0]))) ha rfl (e_sadd rfl rfl (by simp [le_length])) rfl rfl (Ext.rfl' _)
    · intro Q act_ wI hxI ha hp
      have xw_wI : Ext w wI := Ext.tr xw_w1 hxI
      replace hb1 := hb1.ext hxI
      exact h_evA (v := .pointer (some ⟨b1, 3, none⟩)) ha rfl (e_fieldB (sz := 1) Try.underlying34 rfl Try.sizeOf3 (by decide) rfl rfl) rfl rfl (Ext.rfl' _)
    · intro Q act_ wI hxI ha hp
      have xw_wI : Ext w wI := Ext.tr xw_w1 hxI
      replace hb1 := hb1.ext hxI
      have ha := ha.add (show act_.tmps.getD 17 undef = .pointer (some ⟨b1, 3, none⟩) from hp 11 (by kernel_rfl) (by decide))
      exact h_evA (v := .int .i64 x.C) ha rfl (e_load rfl (load1 Try.isAgg3 (hb1.cell (j := 3) rfl))) rfl rfl (Ext.rfl' _)
    · intro Q act_ wI hxI ha hp
      have xw_wI : Ext w wI := Ext.tr xw_w1 hxI
      replace hb1 := hb1.ext hxI
      have ha := ha.add (show act_.tmps.getD 18 undef = .int .i64 x.C from hp 12 (by kernel_rfl) (by decide))
      exact h_callA ha ent31 rfl rfl rfl (rnumberF_c _ 2 wI (fits_of (by omega) (by omega)) (by decide) (by decide) (by omega)) rfl (by rintro _ w1 ⟨rfl, hR⟩; exact ⟨rfl, hR⟩)
    · intro Q act_ wI hxI ha hp
      have xw_wI : Ext w wI := Ext.tr xw_w1 hxI
      replace hb1 := hb1.ext hxI
      have ha := ha.add (show act_.tmps.getD 16 undef = .string (B (([136, u8of x.M] ++ (le 2 x.S)) ++ [0, 0])) from hp 10 (by kernel_rfl) (by decide))
      have ha := ha.add (show act_.tmps.getD 19 undef = .string (B (le 2 x.C)) from hp 13 (by kernel_rfl) (by decide))
      exact h_evA (v := .string (B ((([136, u8of x.M] ++ (le 2 x.S)) ++ [0, 0]) ++ (le 2 x.C)))) ha rfl (e_sadd rfl rfl (by simp [le_length])) rfl rfl (Ext.rfl' _)
    · intro Q act_ wI hxI ha hp
      have xw_wI : Ext w wI := Ext.tr xw_w1 hxI
      replace hb1 := hb1.ext hxI
      exact h_evA (v := .pointer (some ⟨b1, 4, none⟩)) ha rfl (e_fieldB (sz := 1) Try.underlying34 rfl Try.sizeOf3 (by decide) rfl rfl) rfl rfl (Ext.rfl' _)
    · intro Q act_ wI hxI ha hp
      have xw_wI : Ext w wI := Ext.tr xw_w1 hxI
      replace hb1 := hb1.ext hxI
      have ha := ha.add (show act_.tmps.getD 21 undef = .pointer (some ⟨b1, 4, none⟩) from hp 15 (by kernel_rfl) (by decide))
      exact h_evA (v := .int .i64 x.L) ha rfl (e_load rfl (load1 Try.isAgg3 (hb1.cell (j := 4) rfl))) rfl rfl (Ext.rfl' _)
    · intro Q act_ wI hxI ha hp
      have xw_wI : Ext w wI := Ext.tr xw_w1 hxI
      replace hb1 := hb1.ext hxI
      have ha := ha.add (show act_.tmps.getD 22 undef = .int .i64 x.L from hp 16 (by kernel_rfl) (by decide))
      exact h_callA ha ent31 rfl rfl rfl (rnumberF_c _ 4 wI (fits_of (by omega) (by omega)) (by decide) (by decide) (by omega)) rfl (by rintro _ w1 ⟨rfl, hR⟩; exact ⟨rfl, hR⟩)
    · intro Q act_ wI hxI ha hp
      have xw_wI : Ext w wI := Ext.tr xw_w1 hxI
      replace hb1 := hb1.ext hxI
      have ha := ha.add (show act_.tmps.getD 20 undef = .string (B ((([136, u8of x.M] ++ (le 2 x.S)) ++ [0, 0]) ++ (le 2 x.C))) from hp 14 (by kernel_rfl) (by decide))
      have ha := ha.add (show act_.tmps.getD 23 undef = .string (B (le 4 x.L)) from hp 17 (by kernel_rfl) (by decide))
      exact h_evA (v := .string (B (((([136, u8of x.M] ++ (le 2 x.S)) ++ [0, 0]) ++ (le 2 x.C)) ++ (le 4 x.L)))) ha rfl (e_sadd rfl rfl (by simp [le_length])) rfl rfl (Ext.rfl' _)
    · intro Q act_ wI hxI ha hp
      have xw_wI : Ext w wI := Ext.tr xw_w1 hxI
      replace hb1 := hb1.ext hxI
      exact h_callA ha ent30 rfl rfl rfl (rrep_c (0 : UInt8) 20 wI (by omega)) rfl (by rintro _ w1 ⟨rfl, hR⟩; exact ⟨rfl, hR⟩)
    · intro Q act_ wI hxI ha hp
      have xw_wI : Ext w wI := Ext.tr xw_w1 hxI
      replace hb1 := hb1.ext hxI
      have ha := ha.add (show act_.tmps.getD 24 undef = .string (B (((([136, u8of x.M] ++ (le 2 x.S)) ++ [0, 0]) ++ (le 2 x.C)) ++ (le 4 x.L))) from hp 18 (by kernel_rfl) (by decide))
      have ha := ha.add (show act_.tmps.getD 25 undef = .string (B (zeros 20)) from hp 19 (by kernel_rfl) (by decide))
      exact h_evA (v := .string (B ((((([136, u8of x.M] ++ (le 2 x.S)) ++ [0, 0]) ++ (le 2 x.C)) ++ (le 4 x.L)) ++ (zeros 20)))) ha rfl (e_sadd rfl rfl (by simp [le_length])) rfl rfl (Ext.rfl' _)
    intro vs_ w2 hx_w2 hvs act_ ha hv
    have xw_w2 : Ext w w2 := Ext.tr xw_w1 hx_w2
    replace hb1 := hb1.ext hx_w2
    have ha := ha.add ((hv 20 (by decide)).trans (show vs_ 20 = .string (B ((((([136, u8of x.M] ++ (le 2 x.S)) ++ [0, 0]) ++ (le 2 x.C)) ++ (le 4 x.L)) ++ (zeros 20))) from hvs 20 (by decide)))
    refine st_go ha ?_
    clear ha hv hvs
    refine st_ev (v := .string (B ((((([136, u8of x.M] ++ (le 2 x.S)) ++ [0, 0]) ++ (le 2 x.C)) ++ (le 4 x.L)) ++ (zeros 20)))) rfl (e_assign rfl) ?_
    refine st_nil (nrm_k ?_)
    refine sc_retf rfl (ret1 Try.results32 (rvt rfl) ?_)
    refine ⟨congrArg Value.string (congrArg B ?_), xw_w2⟩
    rw [imgB, hfb]
  ·
    have hfb : first x.b = 0 := by simp [first, c5]
    refine sc_skip (nrm_k ?_)
    refine sc_seq ?_
    refine sc_free [(5, .bool x.b), (4, .pointer (some ⟨b1, 5, none⟩)), (3, .int .u8 0), (2, .string (B [])), (1, .pointer (some ⟨b1, 0, none⟩)), (0, .agg #[.int .i64 x.P, .int .i64 x.M, .int .i64 x.S, .int .i64 x.C, .int .i64 x.L, .bool x.b])] [6, 7, 8, 9, 10, 11, 12, 13, 14, 15, 16, 17, 18, 19, 20, 21, 22, 23, 24, 25, 26] [(Is (.int .u8 0)), (Is (.pointer (some ⟨b1, 1, none⟩))), (Is (.int .i64 x.M)), (Is (.int .u8 ((u8of x.M).toNat))), (fun VV WV => ∃ b_, VV = Value.slice (some ⟨b_, 0, none⟩) 2 2 ∧ Blk WV b_ 5 [.int .u8 0, .int .u8 ((u8of x.M).toNat)]), (Is (.string (B [0, u8of x.M]))), (Is (.pointer (some ⟨b1, 2, none⟩))), (Is (.int .i64 x.S)), (Is (.string (B (le 2 x.S)))), (Is (.string (B ([0, u8of x.M] ++ (le 2 x.S))))), (Is (.string (B (([0, u8of x.M] ++ (le 2 x.S)) ++ [0, 0])))), (Is (.pointer (some ⟨b1, 3, none⟩))), (Is (.int .i64 x.C)), (Is (.string (B (le 2 x.C)))), (Is (.string (B ((([0, u8of x.M] ++ (le 2 x.S)) ++ [0, 0]) ++ (le 2 x.C))))), (Is (.pointer (some ⟨b1, 4, none⟩))), (Is (.int .i64 x.L)), (Is (.string (B (le 4 x.L)))), (Is (.string (B (((([0, u8of x.M] ++ (le 2 x.S)) ++ [0, 0]) ++ (le 2 x.C)) ++ (le 4 x.L))))), (Is (.string (B (zeros 20)))), (Is (.string (B ((((([0, u8of x.M] ++ (le 2 x.S)) ++ [0, 0]) ++ (le 2 x.C)) ++ (le 4 x.L)) ++ (zeros 20)))))] [21] (by kernel_rfl) (Sub.refl _) (by kernel_rfl) (by kernel_rfl) (by kernel_rfl) rfl (by kernel_rfl) (ds_ext (Stays.spec (.is _ (.is _ (.is _ (.is _ (.any (fun _ _ _ ⟨b_, e_, h_⟩ hx_ => ⟨b_, e_, h_.ext hx_⟩) (.is _ (.is _ (.is _ (.is _ (.is _ (.is _ (.is _ (.is _ (.is _ (.is _ (.is _ (.is _ (.is _ (.is _ (.is _ (.is _ (.nil)))))))))))))))))))))))) ⟨?_, ?_, ?_, ?_, ?_, ?_, ?_, ?_, ?_, ?_, ?_, ?_, ?_, ?_, ?_, ?_, ?_, ?_, ?_, ?_, ?_, trivial⟩ ?_
    · intro Q act_ wI hxI ha hp
      have xw_wI : Ext w wI := Ext.tr xw_w1 hxI
      replace hb1 := hb1.ext hxI
      exact h_evA (v := .int .u8 0) ha rfl (e_move rfl) rfl rfl (Ext.rfl' _)
    · intro Q act_ wI hxI ha hp
      have xw_wI : Ext w wI := Ext.tr xw_w1 hxI
      replace hb1 := hb1.ext hxI
      exact h_evA (v := .pointer (some ⟨b1, 1, none⟩)) ha rfl (e_fieldB (sz := 1) Try.underlying34 rfl Try.sizeOf3 (by decide) rfl rfl) rfl rfl (Ext.rfl' _)
    · intro Q act_ wI hxI ha hp
      have xw_wI : Ext w wI := Ext.tr xw_w1 hxI
      replace hb1 := hb1.ext hxI
      have ha := ha.add (show act_.tmps.getD 7 undef = .pointer (some ⟨b1, 1, none⟩) from hp 1 (by kernel_rfl) (by decide))
      exact h_evA (v := .int .i64 x.M) ha rfl (e_load rfl (load1 Try.isAgg3 (hb1.cell (j := 1) rfl))) rfl rfl (Ext.rfl' _)
    · intro Q act_ wI hxI ha hp
      have xw_wI : Ext w wI := Ext.tr xw_w1 hxI
      replace hb1 := hb1.ext hxI
      have ha := ha.add (show act_.tmps.getD 8 undef = .int .i64 x.M from hp 2 (by kernel_rfl) (by decide))
      exact h_evA (v := .int .u8 ((u8of x.M).toNat)) ha rfl (e_intu8 Try.underlying3 Try.underlying5 rfl) rfl rfl (Ext.rfl' _)
    · intro Q act_ wI hxI ha hp
      have xw_wI : Ext w wI := Ext.tr xw_w1 hxI
      replace hb1 := hb1.ext hxI
      have ha := ha.add (show act_.tmps.getD 6 undef = .int .u8 0 from hp 0 (by kernel_rfl) (by decide))
      have ha := ha.add (show act_.tmps.getD 9 undef = .int .u8 ((u8of x.M).toNat) from hp 3 (by kernel_rfl) (by decide))
      exact h_evA ha rfl (e_buildSlice (vs := [(0, .int .u8 0), (1, .int .u8 ((u8of x.M).toNat))]) (v := .slice (some ⟨wI.heap.size, 0, none⟩) 2 2) (w1 := wI.alloc (.cells ([.int .u8 0, .int .u8 ((u8of x.M).toNat)] : List Value).toArray 5)) rfl (by kernel_rfl)) rfl ⟨_, rfl, Blk.new wI 5 [.int .u8 0, .int .u8 ((u8of x.M).toNat)]⟩ (Ext.alloc _ _)
    · intro Q act_ wI hxI ha hp
      have xw_wI : Ext w wI := Ext.tr xw_w1 hxI
      replace hb1 := hb1.ext hxI
      obtain ⟨b10, e10, hb10⟩ := (show ∃ b_, act_.tmps.getD 10 undef = Value.slice (some ⟨b_, 0, none⟩) 2 2 ∧ Blk wI b_ 5 [.int .u8 0, .int .u8 ((u8of x.M).toNat)] from hp 4 (by kernel_rfl) (by decide))
      have ha := ha.add e10
      exact h_evA (v := .string (B [0, u8of x.M])) ha rfl (e_convr (l := _) rfl (conv_blk (s := [0, u8of x.M]) Try.underlying35 Try.underlying5 Try.underlying9 hb10 rfl)) rfl rfl (Ext.rfl' _)
    · intro Q act_ wI hxI ha hp
      have xw_wI : Ext w wI := Ext.tr xw_w1 hxI
      replace hb1 := hb1.ext hxI
      exact h_evA (v := .pointer (some ⟨b1, 2, none⟩)) ha rfl (e_fieldB (sz := 1) Try.underlying34 rfl Try.sizeOf3 (by decide) rfl rfl) rfl rfl (Ext.rfl' _)
    · intro Q act_ wI hxI ha hp
      have xw_wI : Ext w wI := Ext.tr xw_w1 hxI
      replace hb1 := hb1.ext hxI
      have ha := ha.add (show act_.tmps.getD 12 undef = .pointer (some ⟨b1, 2, none⟩) from hp 6 (by kernel_rfl) (by decide))
      exact h_evA (v := .int .i64 x.S) ha rfl (e_load rfl (load1 Try.isAgg3 (hb1.cell (j := 2) rfl))) rfl rfl (Ext.rfl' _)
    · intro Q act_ wI hxI ha hp
      have xw_wI : Ext w wI := Ext.tr xw_w1 hxI
      replace hb1 := hb1.ext hxI
      have ha := ha.add (show act_.tmps.getD 13 undef = .int .i64 x.S from hp 7 (by kernel_rfl) (by decide))
      exact h_callA ha ent31 rfl rfl rfl (rnumberF_c _ 2 wI (fits_of (by omega) (by omega)) (by decide) (by decide) (by omega)) rfl (by rintro _ w1 ⟨rfl, hR⟩; exact ⟨rfl, hR⟩)
    · intro Q act_ wI hxI ha hp
      have xw_wI : Ext w wI := Ext.tr xw_w1 hxI
      replace hb1 := hb1.ext hxI
      have ha := ha.add (show act_.tmps.getD 11 undef = .string (B [0, u8of x.M]) from hp 5 (by kernel_rfl) (by decide))
      have ha := ha.add (show act_.tmps.getD 14 undef = .string (B (le 2 x.S)) from hp 8 (by kernel_rfl) (by decide))
      exact h_evA (v := .string (B ([0, u8of x.M] ++ (le 2 x.S)))) ha rfl (e_sadd rfl rfl (by simp [le_length])) rfl rfl (Ext.rfl' _)
    · intro Q act_ wI hxI ha hp
      have xw_wI : Ext w wI := Ext.tr xw_w1 hxI
      replace hb1 := hb1.ext hxI
      have ha := ha.add (show act_.tmps.getD 15 undef = .string (B ([0, u8of x.M] ++ (le 2 x.S))) from hp 9 (by kernel_rfl) (by decide))
      exact h_evA (v := .string (B (([0, u8of x.M] ++ (le 2 x.S)) ++ [0, 0]))) ha rfl (e_sadd rfl rfl (by simp [le_length])) rfl rfl (Ext.rfl' _)
    · intro Q act_ wI hxI ha hp
      have xw_wI : Ext w wI := Ext.tr xw_w1 hxI
      replace hb1 := hb1.ext hxI
      exact h_evA (v := .pointer (some ⟨b1, 3, none⟩)) ha rfl (e_fieldB (sz := 1) Try.underlying34 rfl Try.sizeOf3 (by decide) rfl rfl) rfl rfl (Ext.rfl' _)
    · intro Q act_ wI hxI ha hp
      have xw_wI : Ext w wI := Ext.tr xw_w1 hxI
      replace hb1 := hb1.ext hxI
      have ha := ha.add (show act_.tmps.getD 17 undef = .pointer (some ⟨b1, 3, none⟩) from hp 11 (by kernel_rfl) (by decide))
      exact h_evA (v := .int .i64 x.C) ha rfl (e_load rfl (load1 Try.isAgg3 (hb1.cell (j := 3) rfl))) rfl rfl (Ext.rfl' _)
    · intro Q act_ wI hxI ha hp
      have xw_wI : Ext w wI := Ext.tr xw_w1 hxI
      replace hb1 := hb1.ext hxI
      have ha := ha.add (show act_.tmps.getD 18 undef = .int .i64 x.C from hp 12 (by kernel_rfl) (by decide))
      exact h_callA ha ent31 rfl rfl rfl (rnumberF_c _ 2 wI (fits_of (by omega) (by omega)) (by decide) (by decide) (by omega)) rfl (by rintro _ w1 ⟨rfl, hR⟩; exact ⟨rfl, hR⟩)
    · intro Q act_ wI hxI ha hp
      have xw_wI : Ext w wI := Ext.tr xw_w1 hxI
      replace hb1 := hb1.ext hxI
      have ha := ha.add (show act_.tmps.getD 16 undef = .string (B (([0, u8of x.M] ++ (le 2 x.S)) ++ [0, 0])) from hp 10 (by kernel_rfl) (by decide))
      have ha := ha.add (show act_.tmps.getD 19 undef = .string (B (le 2 x.C)) from hp 13 (by kernel_rfl) (by decide))
      exact h_evA (v := .string (B ((([0, u8of x.M] ++ (le 2 x.S)) ++ [0, 0]) ++ (le 2 x.C)))) ha rfl (e_sadd rfl rfl (by simp [le_length])) rfl rfl (Ext.rfl' _)
    · intro Q act_ wI hxI ha hp
      have xw_wI : Ext w wI := Ext.tr xw_w1 hxI
      replace hb1 := hb1.ext hxI
      exact h_evA (v := .pointer (some ⟨b1, 4, none⟩)) ha rfl (e_fieldB (sz := 1) Try.underlying34 rfl Try.sizeOf3 (by decide) rfl rfl) rfl rfl (Ext.rfl' _)
    · intro Q act_ wI hxI ha hp
      have xw_wI : Ext w wI := Ext.tr xw_w1 hxI
      replace hb1 := hb1.ext hxI
      have ha := ha.add (show act_.tmps.getD 21 undef = .pointer (some ⟨b1, 4, none⟩) from hp 15 (by kernel_rfl) (by decide))
      exact h_evA (v := .int .i64 x.L) ha rfl (e_load rfl (load1 Try.isAgg3 (hb1.cell (j := 4) rfl))) rfl rfl (Ext.rfl' _)
    · intro Q act_ wI hxI ha hp
      have xw_wI : Ext w wI := Ext.tr xw_w1 hxI
      replace hb1 := hb1.ext hxI
      have ha := ha.add (show act_.tmps.getD 22 undef = .int .i64 x.L from hp 16 (by kernel_rfl) (by decide))
      exact h_callA ha ent31 rfl rfl rfl (rnumberF_c _ 4 wI (fits_of (by omega) (by omega)) (by decide) (by decide) (by omega)) rfl (by rintro _ w1 ⟨rfl, hR⟩; exact ⟨rfl, hR⟩)
    · intro Q act_ wI hxI ha hp
      have xw_wI : Ext w wI := Ext.tr xw_w1 hxI
      replace hb1 := hb1.ext hxI
      have ha := ha.add (show act_.tmps.getD 20 undef = .string (B ((([0, u8of x.M] ++ (le 2 x.S)) ++ [0, 0]) ++ (le 2 x.C))) from hp 14 (by kernel_rfl) (by decide))
      have ha := ha.add (show act_.tmps.getD 23 undef = .string (B (le 4 x.L)) from hp 17 (by kernel_rfl) (by decide))
      exact h_evA (v := .string (B (((([0, u8of x.M] ++ (le 2 x.S)) ++ [0, 0]) ++ (le 2 x.C)) ++ (le 4 x.L)))) ha rfl (e_sadd rfl rfl (by simp [le_length])) rfl rfl (Ext.rfl' _)
    · intro Q act_ wI hxI ha hp
      have xw_wI : Ext w wI := Ext.tr xw_w1 hxI
      replace hb1 := hb1.ext hxI
      exact h_callA ha ent30 rfl rfl rfl (rrep_c (0 : UInt8) 20 wI (by omega)) rfl (by rintro _ w1 ⟨rfl, hR⟩; exact ⟨rfl, hR⟩)
    · intro Q act_ wI hxI ha hp
      have xw_wI : Ext w wI := Ext.tr xw_w1 hxI
      replace hb1 := hb1.ext hxI
      have ha := ha.add (show act_.tmps.getD 24 undef = .string (B (((([0, u8of x.M] ++ (le 2 x.S)) ++ [0, 0]) ++ (le 2 x.C)) ++ (le 4 x.L))) from hp 18 (by kernel_rfl) (by decide))
      have ha := ha.add (show act_.tmps.getD 25 undef = .string (B (zeros 20)) from hp 19 (by kernel_rfl) (by decide))
      exact h_evA (v := .string (B ((((([0, u8of x.M] ++ (le 2 x.S)) ++ [0, 0]) ++ (le 2 x.C)) ++ (le 4 x.L)) ++ (zeros 20)))) ha rfl (e_sadd rfl rfl (by simp [le_length])) rfl rfl (Ext.rfl' _)
    intro vs_ w3 hx_w3 hvs act_ ha hv
    have xw_w3 : Ext w w3 := Ext.tr xw_w1 hx_w3
    replace hb1 := hb1.ext hx_w3
    have ha := ha.add ((hv 20 (by decide)).trans (show vs_ 20 = .string (B ((((([0, u8of x.M] ++ (le 2 x.S)) ++ [0, 0]) ++ (le 2 x.C)) ++ (le 4 x.L)) ++ (zeros 20))) from hvs 20 (by decide)))
    refine st_go ha ?_
    clear ha hv hvs
    refine st_ev (v := .string (B ((((([0, u8of x.M] ++ (le 2 x.S)) ++ [0, 0]) ++ (le 2 x.C)) ++ (le 4 x.L)) ++ (zeros 20)))) rfl (e_assign rfl) ?_
    refine st_nil (nrm_k ?_)
    refine sc_retf rfl (ret1 Try.results32 (rvt rfl) ?_)
    refine ⟨congrArg Value.string (congrArg B ?_), xw_w3⟩
    rw [imgB, hfb]

end Go.Proofs.Ytlgkjpmaekkpjaa
