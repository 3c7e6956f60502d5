/- Chapter 24: C6. Printed by my program wip/tools/wk.py. -/
import Derived.Test.YtnbclhbpjlpcoaaC5
import Derived.Test.YtnbclhbpjlpcoaaMath3
set_option linter.unusedVariables false
set_option linter.unusedSimpArgs false
set_option maxRecDepth 4000
set_option maxHeartbeats 4000000
namespace Go.Proofs.Ytnbclhbpjlpcoaa
open Go.XK Go.RowKit
theorem size_b (l : List En) (A : Option Addr) (c : Nat) (w : World) (hl : SlR w A c 3 encE l) (hb : szL l ≤ 4611686018427387904) : CallR Try.prog 15 [.slice A l.length c] w (fun v w' => v = .int .i64 (szL l : Int) ∧ Ext w w') := by
  have h := size_c l A c w hl
  rwa [wr64_id (by omega) (by omega)] at h
theorem rsize_b (l : List En) (A : Option Addr) (c : Nat) (w : World) (hl : SlR w A c 3 encE l) (hb : szL l ≤ 4611686018427387904) : CallR Try.prog 16 [.slice A l.length c] w (fun v w' => v = .int .i64 (szL l : Int) ∧ Ext w w') := by
  have h := rsize_c l A c w hl
  rwa [wr64_id (by omega) (by omega)] at h
theorem front_exit {l : List En} {n : Nat} {r : Int} (hf : frontN l r = n + frontN (l.drop n) (r - szL (l.take n))) (h : (decide ((n : Int) < (l.length : Int)) && decide ((szL (l.take (n + 1)) : Int) ≤ r)) = false) : frontN l r = n := by
  rcases Nat.lt_or_ge n l.length with hn | hn
  · rw [decide_eq_true (by omega), Bool.true_and, decide_eq_false_iff_not] at h
    exact front_stop (List.getElem?_eq_getElem hn) hf h
  · exact front_stop0 hn hf
theorem fits_lt {l : List En} {n : Nat} {rm : Int} (h : (szL (l.take n) : Int) ≤ rm - 28) (h2 : rm < (szL l : Int)) : n < l.length := by
  rcases Nat.lt_or_ge n l.length with hn | hn
  · exact hn
  · rw [List.take_of_length_le hn] at h; omega
theorem grp_next {l2 T : List En} {gs : List Gp} {rm : Int} {n : Nat} {A : Option Addr} {c : Nat} {R : List (List En)} (hx : ∀ x ∈ l2, szE x ≤ 255) (h : rm < (szL l2 : Int)) (hf : frontN l2 (rm - 28) = n) (hT : gs.map (·.l) ++ grp l2 rm = R) : (gs ++ [(⟨l2.take n, A, c⟩ : Gp)]).map (·.l) ++ grp (l2.drop n) 2048 = R := by
  rw [← hT, grp_step hx h, hf]
  simp

/-- masterdisc/masterdiscref24.SameGroups (function 20) -/
theorem sameG_c (a b : List Gp) (A A2 : Option Addr) (c d : Nat) (w : World) (hla : SlR w A c 1 encG a) (hia : InG w a) (hlb : SlR w A2 d 1 encG b) (hib : InG w b) : CallR Try.prog 20 [.slice A a.length c, .slice A2 b.length d] w (fun v w' => v = .bool (decide (a.map (·.l) = b.map (·.l))) ∧ Ext w w') := by
  have hmx0 := hla.lenle
  simp only [maxLen] at hmx0
  have hmx1 := hlb.lenle
  simp only [maxLen] at hmx1
  refine callR_of (n := 27) [(0, .slice A a.length c), (1, .slice A2 b.length d)] Try.func20 rfl rfl (Nat.le_of_ble_eq_true rfl) rfl ?_
  refine sc_seq ?_
  refine sc_reg ?_
  refine Go.XK.s (v := .bool false) (e_assign rfl) ?_
  refine sl_nil (nrm_k ?_)
  refine sc_seq ?_
  refine sc_seq ?_
  refine sc_reg ?_
  refine Go.XK.s (v := .slice A a.length c) (e_move rfl) ?_
  refine Go.XK.s (v := .int .i64 (a.length : Int)) (e_len Try.underlying33 rfl) ?_
  refine Go.XK.s (v := .slice A2 b.length d) (e_move rfl) ?_
  refine Go.XK.s (v := .int .i64 (b.length : Int)) (e_len Try.underlying33 rfl) ?_
  refine Go.XK.s (v := .bool (decide ((a.length : Int) ≠ (b.length : Int)))) (e_ne rfl rfl) ?_
  refine sl_nil (nrm_k ?_)
  refine sc_ifd rfl (fun c10 => ?_) (fun c10 => ?_)
  ·
    refine sc_seq ?_
    refine sc_reg ?_
    refine Go.XK.s (v := .bool false) (e_assign rfl) ?_
    refine sl_nil (nrm_k ?_)
    refine sc_retf rfl (ret1 Try.results20 (rvt rfl) ?_)
    exact ⟨congrArg Value.bool (decide_eq_false (fun e => c10 (by have h_ := congrArg List.length e; simp at h_; omega))).symm, (Ext.rfl' w)⟩
  ·
    have hl : a.length = b.length := by omega
    refine sc_skip (nrm_k ?_)
    refine sc_seq ?_
    refine sc_seq ?_
    refine sc_reg ?_
    refine Go.XK.s (v := .int .i64 0) (e_assign rfl) ?_
    refine sl_nil (nrm_k ?_)
    refine sc_block ?_
    refine sc_loop (fun m_ l_ w_ => ∃ (i : Nat), m_ = a.length - i ∧ l_ = [(5, .int .i64 (i : Int)), (0, .slice A a.length c), (1, .slice A2 b.length d)] ∧ Ext w w_ ∧ i ≤ a.length ∧ (a.map (·.l)).take i = (b.map (·.l)).take i) _ [(5, .int .i64 (0 : Int)), (0, .slice A a.length c), (1, .slice A2 b.length d)] ⟨0, rfl, rfl, (Ext.rfl' w), ⟨by omega, rfl⟩⟩ (.cons rfl (.cons rfl (.cons rfl (.nil)))) ?_
    rintro j2 _ w1 ⟨i, rfl, rfl, xw_w1, ⟨hi, hs⟩⟩
    refine sc_seq ?_
    refine sc_seq ?_
    refine sc_reg ?_
    refine Go.XK.s (v := .int .i64 (i : Int)) (e_move rfl) ?_
    refine Go.XK.s (v := .slice A a.length c) (e_move rfl) ?_
    refine Go.XK.s (v := .int .i64 (a.length : Int)) (e_len Try.underlying33 rfl) ?_
    refine Go.XK.s (v := .bool (decide ((i : Int) < (a.length : Int)))) (e_lt rfl rfl) ?_
    refine sl_nil (nrm_k ?_)
    refine sc_ifd rfl (fun c14 => ?_) (fun c14 => ?_)
    ·
      obtain ⟨x, hx⟩ : ∃ x, a[i]? = some x := ⟨_, List.getElem?_eq_getElem (by omega)⟩
      obtain ⟨y, hy⟩ : ∃ y, b[i]? = some y := ⟨_, List.getElem?_eq_getElem (by omega)⟩
      have hin_x := hia x (List.mem_of_getElem? hx)
      have hin_y := hib y (List.mem_of_getElem? hy)
      refine sc_skip (nrm_k ?_)
      refine sc_seq ?_
      refine sc_block ?_
      refine sc_seq ?_
      refine sc_free [(14, .bool (decide ((i : Int) < (a.length : Int)))), (13, .int .i64 (a.length : Int)), (12, .slice A a.length c), (11, .int .i64 (i : Int)), (5, .int .i64 (i : Int)), (0, .slice A a.length c), (1, .slice A2 b.length d)] [17, 18, 19, 20, 21, 22, 23, 24, 25, 26] [(Is (.slice A a.length c)), (Is (.int .i64 (i : Int))), (Is (.pointer (some (el A 1 (i : Int) 0)))), (Is (.slice x.A x.l.length x.c)), (Is (.slice A2 b.length d)), (Is (.int .i64 (i : Int))), (Is (.pointer (some (el A2 1 (i : Int) 0)))), (Is (.slice y.A y.l.length y.c)), (Is (.bool (decide (x.l = y.l)))), (Is (.bool (!(decide (x.l = y.l)))))] [] (by kernel_rfl) (Sub.refl _) (by kernel_rfl) (by kernel_rfl) (by kernel_rfl) rfl (by kernel_rfl) (ds_ext (Stays.spec (.is _ (.is _ (.is _ (.is _ (.is _ (.is _ (.is _ (.is _ (.is _ (.is _ (.nil))))))))))))) ⟨?_, ?_, ?_, ?_, ?_, ?_, ?_, ?_, ?_, ?_, trivial⟩ ?_
      · intro Q act_ wI hxI ha hp
        have xw_wI : Ext w wI := Ext.tr xw_w1 hxI
        exact h_evA (v := .slice A a.length c) ha rfl (e_move rfl) rfl rfl (Ext.rfl' _)
      · intro Q act_ wI hxI ha hp
        have xw_wI : Ext w wI := Ext.tr xw_w1 hxI
        exact h_evA (v := .int .i64 (i : Int)) ha rfl (e_move rfl) rfl rfl (Ext.rfl' _)
      · intro Q act_ wI hxI ha hp
        have xw_wI : Ext w wI := Ext.tr xw_w1 hxI
        have ha := ha.add (show act_.tmps.getD 17 undef = .slice A a.length c from hp 0 (by kernel_rfl) (by decide))
        have ha := ha.add (show act_.tmps.getD 18 undef = .int .i64 (i : Int) from hp 1 (by kernel_rfl) (by decide))
        exact h_evA (v := .pointer (some (el A 1 (i : Int) 0))) ha rfl (e_idxEl (e := x) Try.underlying33 Try.sizeOf22 rfl rfl (hla.1.ext xw_wI) hx (by omega) rfl) rfl rfl (Ext.rfl' _)
      · intro Q act_ wI hxI ha hp
        have xw_wI : Ext w wI := Ext.tr xw_w1 hxI
        have ha := ha.add (show act_.tmps.getD 19 undef = .pointer (some (el A 1 (i : Int) 0)) from hp 2 (by kernel_rfl) (by decide))
        exact h_evA (v := .slice x.A x.l.length x.c) ha rfl (e_ldEl (xs := a) (enc := encG) (e := x) rfl (hla.1.ext xw_wI) hx Try.isAgg22 rfl) rfl rfl (Ext.rfl' _)
      · intro Q act_ wI hxI ha hp
        have xw_wI : Ext w wI := Ext.tr xw_w1 hxI
        exact h_evA (v := .slice A2 b.length d) ha rfl (e_move rfl) rfl rfl (Ext.rfl' _)
      · intro Q act_ wI hxI ha hp
        have xw_wI : Ext w wI := Ext.tr xw_w1 hxI
        exact h_evA (v := .int .i64 (i : Int)) ha rfl (e_move rfl) rfl rfl (Ext.rfl' _)
      · intro Q act_ wI hxI ha hp
        have xw_wI : Ext w wI := Ext.tr xw_w1 hxI
        have ha := ha.add (show act_.tmps.getD 21 undef = .slice A2 b.length d from hp 4 (by kernel_rfl) (by decide))
        have ha := ha.add (show act_.tmps.getD 22 undef = .int .i64 (i : Int) from hp 5 (by kernel_rfl) (by decide))
        exact h_evA (v := .pointer (some (el A2 1 (i : Int) 0))) ha rfl (e_idxEl (e := y) Try.underlying33 Try.sizeOf22 rfl rfl (hlb.1.ext xw_wI) hy (by omega) rfl) rfl rfl (Ext.rfl' _)
      · intro Q act_ wI hxI ha hp
        have xw_wI : Ext w wI := Ext.tr xw_w1 hxI
        have ha := ha.add (show act_.tmps.getD 23 undef = .pointer (some (el A2 1 (i : Int) 0)) from hp 6 (by kernel_rfl) (by decide))
        exact h_evA (v := .slice y.A y.l.length y.c) ha rfl (e_ldEl (xs := b) (enc := encG) (e := y) rfl (hlb.1.ext xw_wI) hy Try.isAgg22 rfl) rfl rfl (Ext.rfl' _)
      · intro Q act_ wI hxI ha hp
        have xw_wI : Ext w wI := Ext.tr xw_w1 hxI
        have ha := ha.add (show act_.tmps.getD 20 undef = .slice x.A x.l.length x.c from hp 3 (by kernel_rfl) (by decide))
        have ha := ha.add (show act_.tmps.getD 24 undef = .slice y.A y.l.length y.c from hp 7 (by kernel_rfl) (by decide))
        exact h_callA ha ent17 rfl rfl rfl (same_c _ _ _ _ _ _ wI (hin_x.ext xw_wI) (hin_y.ext xw_wI)) rfl (by rintro _ w1 ⟨rfl, hR⟩; exact ⟨rfl, hR⟩)
      · intro Q act_ wI hxI ha hp
        have xw_wI : Ext w wI := Ext.tr xw_w1 hxI
        have ha := ha.add (show act_.tmps.getD 25 undef = .bool (decide (x.l = y.l)) from hp 8 (by kernel_rfl) (by decide))
        exact h_evA (v := .bool (!(decide (x.l = y.l)))) ha rfl (e_not rfl) rfl rfl (Ext.rfl' _)
      intro vs_ w3 hx_w3 hvs act_ ha hv
      have xw_w3 : Ext w w3 := Ext.tr xw_w1 hx_w3
      have ha := ha.add ((hv 9 (by decide)).trans (show vs_ 9 = .bool (!(decide (x.l = y.l))) from hvs 9 (by decide)))
      refine st_go ha ?_
      clear ha hv hvs
      refine st_nil (nrm_k ?_)
      refine sc_if rfl (fun c26 => ?_) (fun c26 => ?_)
      ·
        have hxy : x.l ≠ y.l := by simpa using c26
        refine sc_seq ?_
        refine sc_reg ?_
        refine Go.XK.s (v := .bool false) (e_assign rfl) ?_
        refine sl_nil (nrm_k ?_)
        refine sc_retf rfl (ret1 Try.results20 (rvt rfl) ?_)
        exact ⟨congrArg Value.bool (decide_eq_false (same_no (map_get hx) (map_get hy) hxy)).symm, xw_w3⟩
      ·
        have hxy : x.l = y.l := by simpa using c26
        refine sc_skip (nrm_k ?_)
        refine sc_reg ?_
        refine Go.XK.s (v := .int .i64 (i : Int)) (e_move rfl) ?_
        refine Go.XK.s (v := .int .i64 ((i : Int) + 1)) (e_add rfl rfl (by omega)) ?_
        refine Go.XK.s (v := .int .i64 ((i : Int) + 1)) (e_assign rfl) ?_
        refine sl_nil ?_
        exact nrm_loopq rfl _ _ (by omega) ⟨i + 1, rfl, rfl, xw_w3, ⟨by omega, same_take (map_get hx) (by rw [map_get hy, hxy]) hs⟩⟩ (.cons rfl (.cons rfl (.cons rfl (.nil))))
    ·
      refine sc_exit rfl (nrm_k ?_)
      refine sc_seq ?_
      refine sc_reg ?_
      refine Go.XK.s (v := .bool true) (e_assign rfl) ?_
      refine sl_nil (nrm_k ?_)
      refine sc_retf rfl (ret1 Try.results20 (rvt rfl) ?_)
      exact ⟨congrArg Value.bool (decide_eq_true (same_end hs (by simpa using hl) (by simp; omega))).symm, xw_w1⟩

/-- masterdisc/susp.Lengths (function 22) -/
theorem lens_c (gs : List Gp) (Ag : Option Addr) (cg : Nat) (w : World) (hg : SlR w Ag cg 1 encG gs) (hin : InG w gs) (hbg : ∀ g ∈ gs, szL g.l ≤ 1000000) (hll : gs.length ≤ 1000000) : CallR Try.prog 22 [.slice Ag gs.length cg] w (fun v w' => Go.XK.Own w' w.heap.size 3 1 encI v (lenL (gs.map (·.l))) ∧ Ext w w') := by
  have hmx0 := hg.lenle
  simp only [maxLen] at hmx0
  refine callR_of (n := 29) [(0, .slice Ag gs.length cg)] Try.func22 rfl rfl (Nat.le_of_ble_eq_true rfl) rfl ?_
  refine sc_seq ?_
  refine sc_reg ?_
  refine Go.XK.s (v := .slice none 0 0) (e_assign rfl) ?_
  refine sl_nil (nrm_k ?_)
  refine sc_seq ?_
  refine sc_reg ?_
  refine Go.XK.s (v := .slice none 0 0) (e_assign rfl) ?_
  refine sl_nil (nrm_k ?_)
  refine sc_seq ?_
  refine sc_seq ?_
  refine sc_reg ?_
  refine Go.XK.s (v := .slice Ag gs.length cg) (e_move rfl) ?_
  refine Go.XK.s (v := .int .i64 (gs.length : Int)) (e_len Try.underlying33 rfl) ?_
  refine Go.XK.s (v := .int .i64 0) (e_move rfl) ?_
  refine sl_nil (nrm_k ?_)
  refine sc_block ?_
  refine sc_loop (fun m_ l_ w_ => ∃ (i : Nat) (v_ : Value) (xs : List Int), m_ = gs.length - i ∧ l_ = [(9, .int .i64 (i : Int)), (3, v_), (0, .slice Ag gs.length cg), (7, .slice Ag gs.length cg), (8, .int .i64 (gs.length : Int))] ∧ Ext w w_ ∧ Go.XK.Own w_ w.heap.size 3 1 encI v_ xs ∧ (i ≤ gs.length ∧ xs.length ≤ i) ∧ xs = lenN gs.length ((gs.map (·.l)).take i)) _ [(9, .int .i64 (0 : Int)), (3, (.slice none 0 0)), (0, .slice Ag gs.length cg), (7, .slice Ag gs.length cg), (8, .int .i64 (gs.length : Int))] ⟨0, .slice none 0 0, [], rfl, rfl, (Ext.rfl' w), (Go.XK.Own.nil _ _ _ _ _), ⟨⟨by omega, by simp⟩, rfl⟩⟩ (.cons rfl (.cons rfl (.cons rfl (.cons rfl (.cons rfl (.nil)))))) ?_
  rintro j2 _ w1 ⟨i, v_, xs, rfl, rfl, xw_w1, ho, ⟨⟨hi, hxl⟩, hxs⟩⟩
  refine sc_seq ?_
  refine sc_reg ?_
  refine Go.XK.s (v := .bool (decide ((i : Int) < (gs.length : Int)))) (e_lt rfl rfl) ?_
  refine sl_nil (nrm_k ?_)
  refine sc_seq ?_
  refine sc_ifd rfl (fun c10 => ?_) (fun c10 => ?_)
  ·
    obtain ⟨x, hx⟩ : ∃ x, gs[i]? = some x := ⟨_, List.getElem?_eq_getElem (by omega)⟩
    have hin_x := hin x (List.mem_of_getElem? hx)
    have hbx := hbg x (List.mem_of_getElem? hx)
    refine sc_skip (nrm_k ?_)
    refine sc_seq ?_
    refine sc_block ?_
    refine sc_seq ?_
    refine sc_reg ?_
    refine Go.XK.s (v := .int .i64 (i : Int)) (e_move rfl) ?_
    refine Go.XK.s (v := .pointer (some (el Ag 1 (i : Int) 0))) (e_idxEl (e := x) Try.underlying33 Try.sizeOf22 rfl rfl (hg.1.ext xw_w1) hx (by omega) rfl) ?_
    refine Go.XK.s (v := .slice x.A x.l.length x.c) (e_ldEl (xs := gs) (enc := encG) (e := x) rfl (hg.1.ext xw_w1) hx Try.isAgg22 rfl) ?_
    refine Go.XK.s (v := .int .i64 (i : Int)) (e_assign rfl) ?_
    refine Go.XK.s (v := .slice x.A x.l.length x.c) (e_assign rfl) ?_
    refine sl_nil (nrm_k ?_)
    refine sc_seq ?_
    refine sc_reg ?_
    refine Go.XK.s (v := .slice x.A x.l.length x.c) (e_move rfl) ?_
    refine sl_call ent15 rfl rfl (size_b _ _ _ w1 (hin_x.ext xw_w1) (by have h_ := hbg x (List.mem_of_getElem? hx); omega)) (by decide) ?_
    rintro _ w3 ⟨rfl, hw3⟩
    have xw_w3 : Ext w w3 := Ext.tr xw_w1 hw3
    replace ho := ho.ext hw3
    refine Go.XK.s (v := .int .i64 (szL x.l : Int)) (e_assign rfl) ?_
    refine sl_nil (nrm_k ?_)
    refine sc_seq ?_
    refine sc_seq ?_
    refine sc_reg ?_
    refine Go.XK.s (v := .int .i64 (i : Int)) (e_move rfl) ?_
    refine Go.XK.s (v := .int .i64 ((i : Int) + 1)) (e_add rfl rfl (by omega)) ?_
    refine Go.XK.s (v := .slice Ag gs.length cg) (e_move rfl) ?_
    refine Go.XK.s (v := .int .i64 (gs.length : Int)) (e_len Try.underlying33 rfl) ?_
    refine Go.XK.s (v := .bool (decide ((i : Int) + 1 < (gs.length : Int)))) (e_lt rfl rfl) ?_
    refine sl_nil (nrm_k ?_)
    refine sc_ifd rfl (fun c20 => ?_) (fun c20 => ?_)
    ·
      refine sc_reg ?_
      refine Go.XK.s (v := .int .i64 (szL x.l : Int)) (e_move rfl) ?_
      refine Go.XK.s (v := .int .i64 ((szL x.l : Int) + 28)) (e_add rfl rfl (by omega)) ?_
      refine Go.XK.s (v := .int .i64 ((szL x.l : Int) + 28)) (e_assign rfl) ?_
      refine sl_nil (nrm_k ?_)
      refine sc_reg ?_
      refine Go.XK.s (v := v_) (e_move rfl) ?_
      refine Go.XK.s (v := .int .i64 ((szL x.l : Int) + 28)) (e_move rfl) ?_
      refine s_bslice (vs := [(0, .int .i64 ((szL x.l : Int) + 28))]) (e := 3) rfl [.int .i64 ((szL x.l : Int) + 28)] (by kernel_rfl) ?_
      intro b25 w4 hb25 he25 hs25 hx25
      have no_b25_ho : Value.ownBlock v_ ≠ some b25 := fun h_ => by have h2_ := (Go.XK.Own.lt ho _ h_).2; omega
      have ge_b25 : w.heap.size ≤ b25 := by have h_ := (Below.size xw_w3); omega
      have xw_w4 : Ext w w4 := Ext.tr xw_w3 hx25
      replace ho := ho.ext hx25
      refine s_appendLit2 (w0 := w) (z := .int .i64 0) (kk := 1) (bytes := 8) rfl rfl Try.underlying38 (by kernel_rfl) rfl (by decide) (fun _ => rfl) one_encI [(szL x.l : Int) + 28] ho xw_w4 hb25 rfl rfl (by first | omega | (simp only [maxLen]; omega)) (by first | omega | (simp only [maxLen]; omega)) ?_
      intro v26 w5 ho26 xw_w5 hg26 hat26
      replace hb25 := hb25.grown hg26 no_b25_ho
      refine Go.XK.s (v := v26) (e_assign rfl) ?_
      refine sl_nil (nrm_k ?_)
      refine sc_reg ?_
      refine Go.XK.s (v := .int .i64 ((i : Int) + 1)) (e_add rfl rfl (by omega)) ?_
      refine Go.XK.s (v := .int .i64 ((i : Int) + 1)) (e_move rfl) ?_
      refine sl_nil ?_
      exact nrm_loopq rfl _ _ (by omega) ⟨i + 1, v26, xs ++ [(szL x.l : Int) + 28], rfl, rfl, xw_w5, ho26, ⟨⟨by omega, by rw [List.length_append]; simp; omega⟩, by rw [lenN_take (map_get hx), ← hxs]; first | rw [if_pos (by omega)] | rw [if_neg (by omega), Int.add_zero]⟩⟩ (.cons rfl (.cons rfl (.cons rfl (.cons rfl (.cons rfl (.nil))))))
    ·
      refine sc_skip (nrm_k ?_)
      refine sc_reg ?_
      refine Go.XK.s (v := v_) (e_move rfl) ?_
      refine Go.XK.s (v := .int .i64 (szL x.l : Int)) (e_move rfl) ?_
      refine s_bslice (vs := [(0, .int .i64 (szL x.l : Int))]) (e := 3) rfl [.int .i64 (szL x.l : Int)] (by kernel_rfl) ?_
      intro b25 w6 hb25 he25 hs25 hx25
      have no_b25_ho : Value.ownBlock v_ ≠ some b25 := fun h_ => by have h2_ := (Go.XK.Own.lt ho _ h_).2; omega
      have ge_b25 : w.heap.size ≤ b25 := by have h_ := (Below.size xw_w3); omega
      have xw_w6 : Ext w w6 := Ext.tr xw_w3 hx25
      replace ho := ho.ext hx25
      refine s_appendLit2 (w0 := w) (z := .int .i64 0) (kk := 1) (bytes := 8) rfl rfl Try.underlying38 (by kernel_rfl) rfl (by decide) (fun _ => rfl) one_encI [(szL x.l : Int)] ho xw_w6 hb25 rfl rfl (by first | omega | (simp only [maxLen]; omega)) (by first | omega | (simp only [maxLen]; omega)) ?_
      intro v26 w7 ho26 xw_w7 hg26 hat26
      replace hb25 := hb25.grown hg26 no_b25_ho
      refine Go.XK.s (v := v26) (e_assign rfl) ?_
      refine sl_nil (nrm_k ?_)
      refine sc_reg ?_
      refine Go.XK.s (v := .int .i64 ((i : Int) + 1)) (e_add rfl rfl (by omega)) ?_
      refine Go.XK.s (v := .int .i64 ((i : Int) + 1)) (e_move rfl) ?_
      refine sl_nil ?_
      exact nrm_loopq rfl _ _ (by omega) ⟨i + 1, v26, xs ++ [(szL x.l : Int)], rfl, rfl, xw_w7, ho26, ⟨⟨by omega, by rw [List.length_append]; simp; omega⟩, by rw [lenN_take (map_get hx), ← hxs]; first | rw [if_pos (by omega)] | rw [if_neg (by omega), Int.add_zero]⟩⟩ (.cons rfl (.cons rfl (.cons rfl (.cons rfl (.cons rfl (.nil))))))
  ·
    refine sc_exit rfl (nrm_k ?_)
    refine sc_seq ?_
    refine sc_reg ?_
    refine Go.XK.s (v := v_) (e_move rfl) ?_
    refine Go.XK.s (v := v_) (e_assign rfl) ?_
    refine sl_nil (nrm_k ?_)
    refine sc_retf rfl (ret1 Try.results22 (rvt rfl) ?_)
    rw [List.take_of_length_le (show (gs.map (·.l)).length ≤ i by simp; omega)] at hxs
    rw [hxs] at ho
    exact ⟨by rw [lenL, List.length_map]; exact ho, xw_w1⟩

/-- masterdisc/masterdiscref24.Lengths (function 23) -/
theorem rlens_c (gs : List Gp) (Ag : Option Addr) (cg : Nat) (w : World) (hg : SlR w Ag cg 1 encG gs) (hin : InG w gs) (hbg : ∀ g ∈ gs, szL g.l ≤ 1000000) (hll : gs.length ≤ 1000000) : CallR Try.prog 23 [.slice Ag gs.length cg] w (fun v w' => Go.XK.Own w' w.heap.size 3 1 encI v (lenL (gs.map (·.l))) ∧ Ext w w') := by
  have hmx0 := hg.lenle
  simp only [maxLen] at hmx0
  refine callR_of (n := 29) [(0, .slice Ag gs.length cg)] Try.func23 rfl rfl (Nat.le_of_ble_eq_true rfl) rfl ?_
  refine sc_seq ?_
  refine sc_reg ?_
  refine Go.XK.s (v := .slice none 0 0) (e_assign rfl) ?_
  refine sl_nil (nrm_k ?_)
  refine sc_seq ?_
  refine sc_reg ?_
  refine Go.XK.s (v := .slice none 0 0) (e_assign rfl) ?_
  refine sl_nil (nrm_k ?_)
  refine sc_seq ?_
  refine sc_seq ?_
  refine sc_reg ?_
  refine Go.XK.s (v := .int .i64 0) (e_assign rfl) ?_
  refine sl_nil (nrm_k ?_)
  refine sc_block ?_
  refine sc_loop (fun m_ l_ w_ => ∃ (i : Nat) (v_ : Value) (xs : List Int), m_ = gs.length - i ∧ l_ = [(4, .int .i64 (i : Int)), (3, v_), (0, .slice Ag gs.length cg)] ∧ Ext w w_ ∧ Go.XK.Own w_ w.heap.size 3 1 encI v_ xs ∧ (i ≤ gs.length ∧ xs.length ≤ i) ∧ xs = lenN gs.length ((gs.map (·.l)).take i)) _ [(4, .int .i64 (0 : Int)), (3, (.slice none 0 0)), (0, .slice Ag gs.length cg)] ⟨0, .slice none 0 0, [], rfl, rfl, (Ext.rfl' w), (Go.XK.Own.nil _ _ _ _ _), ⟨⟨by omega, by simp⟩, rfl⟩⟩ (.cons rfl (.cons rfl (.cons rfl (.nil)))) ?_
  rintro j2 _ w1 ⟨i, v_, xs, rfl, rfl, xw_w1, ho, ⟨⟨hi, hxl⟩, hxs⟩⟩
  refine sc_seq ?_
  refine sc_seq ?_
  refine sc_reg ?_
  refine Go.XK.s (v := .int .i64 (i : Int)) (e_move rfl) ?_
  refine Go.XK.s (v := .slice Ag gs.length cg) (e_move rfl) ?_
  refine Go.XK.s (v := .int .i64 (gs.length : Int)) (e_len Try.underlying33 rfl) ?_
  refine Go.XK.s (v := .bool (decide ((i : Int) < (gs.length : Int)))) (e_lt rfl rfl) ?_
  refine sl_nil (nrm_k ?_)
  refine sc_ifd rfl (fun c9 => ?_) (fun c9 => ?_)
  ·
    obtain ⟨x, hx⟩ : ∃ x, gs[i]? = some x := ⟨_, List.getElem?_eq_getElem (by omega)⟩
    have hin_x := hin x (List.mem_of_getElem? hx)
    have hbx := hbg x (List.mem_of_getElem? hx)
    refine sc_skip (nrm_k ?_)
    refine sc_seq ?_
    refine sc_block ?_
    refine sc_seq ?_
    refine sc_reg ?_
    refine Go.XK.s (v := .slice Ag gs.length cg) (e_move rfl) ?_
    refine Go.XK.s (v := .int .i64 (i : Int)) (e_move rfl) ?_
    refine Go.XK.s (v := .pointer (some (el Ag 1 (i : Int) 0))) (e_idxEl (e := x) Try.underlying33 Try.sizeOf22 rfl rfl (hg.1.ext xw_w1) hx (by omega) rfl) ?_
    refine Go.XK.s (v := .slice x.A x.l.length x.c) (e_ldEl (xs := gs) (enc := encG) (e := x) rfl (hg.1.ext xw_w1) hx Try.isAgg22 rfl) ?_
    refine sl_call ent16 rfl rfl (rsize_b _ _ _ w1 (hin_x.ext xw_w1) (by have h_ := hbg x (List.mem_of_getElem? hx); omega)) (by decide) ?_
    rintro _ w3 ⟨rfl, hw3⟩
    have xw_w3 : Ext w w3 := Ext.tr xw_w1 hw3
    replace ho := ho.ext hw3
    refine Go.XK.s (v := .int .i64 (szL x.l : Int)) (e_assign rfl) ?_
    refine sl_nil (nrm_k ?_)
    refine sc_seq ?_
    refine sc_seq ?_
    refine sc_reg ?_
    refine Go.XK.s (v := .int .i64 (i : Int)) (e_move rfl) ?_
    refine Go.XK.s (v := .int .i64 ((i : Int) + 1)) (e_add rfl rfl (by omega)) ?_
    refine Go.XK.s (v := .slice Ag gs.length cg) (e_move rfl) ?_
    refine Go.XK.s (v := .int .i64 (gs.length : Int)) (e_len Try.underlying33 rfl) ?_
    refine Go.XK.s (v := .bool (decide ((i : Int) + 1 < (gs.length : Int)))) (e_lt rfl rfl) ?_
    refine sl_nil (nrm_k ?_)
    refine sc_ifd rfl (fun c21 => ?_) (fun c21 => ?_)
    ·
      refine sc_reg ?_
      refine Go.XK.s (v := .int .i64 (szL x.l : Int)) (e_move rfl) ?_
      refine Go.XK.s (v := .int .i64 ((szL x.l : Int) + 28)) (e_add rfl rfl (by omega)) ?_
      refine Go.XK.s (v := .int .i64 ((szL x.l : Int) + 28)) (e_assign rfl) ?_
      refine sl_nil (nrm_k ?_)
      refine sc_reg ?_
      refine Go.XK.s (v := v_) (e_move rfl) ?_
      refine Go.XK.s (v := .int .i64 ((szL x.l : Int) + 28)) (e_move rfl) ?_
      refine s_bslice (vs := [(0, .int .i64 ((szL x.l : Int) + 28))]) (e := 3) rfl [.int .i64 ((szL x.l : Int) + 28)] (by kernel_rfl) ?_
      intro b26 w4 hb26 he26 hs26 hx26
      have no_b26_ho : Value.ownBlock v_ ≠ some b26 := fun h_ => by have h2_ := (Go.XK.Own.lt ho _ h_).2; omega
      have ge_b26 : w.heap.size ≤ b26 := by have h_ := (Below.size xw_w3); omega
      have xw_w4 : Ext w w4 := Ext.tr xw_w3 hx26
      replace ho := ho.ext hx26
      refine s_appendLit2 (w0 := w) (z := .int .i64 0) (kk := 1) (bytes := 8) rfl rfl Try.underlying38 (by kernel_rfl) rfl (by decide) (fun _ => rfl) one_encI [(szL x.l : Int) + 28] ho xw_w4 hb26 rfl rfl (by first | omega | (simp only [maxLen]; omega)) (by first | omega | (simp only [maxLen]; omega)) ?_
      intro v27 w5 ho27 xw_w5 hg27 hat27
      replace hb26 := hb26.grown hg27 no_b26_ho
      refine Go.XK.s (v := v27) (e_assign rfl) ?_
      refine sl_nil (nrm_k ?_)
      refine sc_reg ?_
      refine Go.XK.s (v := .int .i64 (i : Int)) (e_move rfl) ?_
      refine Go.XK.s (v := .int .i64 ((i : Int) + 1)) (e_add rfl rfl (by omega)) ?_
      refine Go.XK.s (v := .int .i64 ((i : Int) + 1)) (e_assign rfl) ?_
      refine sl_nil ?_
      exact nrm_loopq rfl _ _ (by omega) ⟨i + 1, v27, xs ++ [(szL x.l : Int) + 28], rfl, rfl, xw_w5, ho27, ⟨⟨by omega, by rw [List.length_append]; simp; omega⟩, by rw [lenN_take (map_get hx), ← hxs]; first | rw [if_pos (by omega)] | rw [if_neg (by omega), Int.add_zero]⟩⟩ (.cons rfl (.cons rfl (.cons rfl (.nil))))
    ·
      refine sc_skip (nrm_k ?_)
      refine sc_reg ?_
      refine Go.XK.s (v := v_) (e_move rfl) ?_
      refine Go.XK.s (v := .int .i64 (szL x.l : Int)) (e_move rfl) ?_
      refine s_bslice (vs := [(0, .int .i64 (szL x.l : Int))]) (e := 3) rfl [.int .i64 (szL x.l : Int)] (by kernel_rfl) ?_
      intro b26 w6 hb26 he26 hs26 hx26
      have no_b26_ho : Value.ownBlock v_ ≠ some b26 := fun h_ => by have h2_ := (Go.XK.Own.lt ho _ h_).2; omega
      have ge_b26 : w.heap.size ≤ b26 := by have h_ := (Below.size xw_w3); omega
      have xw_w6 : Ext w w6 := Ext.tr xw_w3 hx26
      replace ho := ho.ext hx26
      refine s_appendLit2 (w0 := w) (z := .int .i64 0) (kk := 1) (bytes := 8) rfl rfl Try.underlying38 (by kernel_rfl) rfl (by decide) (fun _ => rfl) one_encI [(szL x.l : Int)] ho xw_w6 hb26 rfl rfl (by first | omega | (simp only [maxLen]; omega)) (by first | omega | (simp only [maxLen]; omega)) ?_
      intro v27 w7 ho27 xw_w7 hg27 hat27
      replace hb26 := hb26.grown hg27 no_b26_ho
      refine Go.XK.s (v := v27) (e_assign rfl) ?_
      refine sl_nil (nrm_k ?_)
      refine sc_reg ?_
      refine Go.XK.s (v := .int .i64 (i : Int)) (e_move rfl) ?_
      refine Go.XK.s (v := .int .i64 ((i : Int) + 1)) (e_add rfl rfl (by omega)) ?_
      refine Go.XK.s (v := .int .i64 ((i : Int) + 1)) (e_assign rfl) ?_
      refine sl_nil ?_
      exact nrm_loopq rfl _ _ (by omega) ⟨i + 1, v27, xs ++ [(szL x.l : Int)], rfl, rfl, xw_w7, ho27, ⟨⟨by omega, by rw [List.length_append]; simp; omega⟩, by rw [lenN_take (map_get hx), ← hxs]; first | rw [if_pos (by omega)] | rw [if_neg (by omega), Int.add_zero]⟩⟩ (.cons rfl (.cons rfl (.cons rfl (.nil))))
  ·
    refine sc_exit rfl (nrm_k ?_)
    refine sc_seq ?_
    refine sc_reg ?_
    refine Go.XK.s (v := v_) (e_move rfl) ?_
    refine Go.XK.s (v := v_) (e_assign rfl) ?_
    refine sl_nil (nrm_k ?_)
    refine sc_retf rfl (ret1 Try.results23 (rvt rfl) ?_)
    rw [List.take_of_length_le (show (gs.map (·.l)).length ≤ i by simp; omega)] at hxs
    rw [hxs] at ho
    exact ⟨by rw [lenL, List.length_map]; exact ho, xw_w1⟩

/-- masterdisc/masterdiscref24.front (function 51) -/
theorem front_c (l : List En) (A : Option Addr) (c : Nat) (r : Int) (w : World) (hl : SlR w A c 3 encE l) (hb : szL l ≤ 4611686018427387904) : CallR Try.prog 51 [.slice A l.length c, .int .i64 r] w (fun v w' => v = .int .i64 (frontN l r : Int) ∧ Ext w w') := by
  have hmx0 := hl.lenle
  simp only [maxLen] at hmx0
  refine callR_of (n := 22) [(0, .slice A l.length c), (1, .int .i64 r)] Try.func51 rfl rfl (Nat.le_of_ble_eq_true rfl) rfl ?_
  refine sc_seq ?_
  refine sc_reg ?_
  refine Go.XK.s (v := .int .i64 0) (e_assign rfl) ?_
  refine sl_nil (nrm_k ?_)
  refine sc_seq ?_
  refine sc_reg ?_
  refine Go.XK.s (v := .int .i64 0) (e_assign rfl) ?_
  refine sl_nil (nrm_k ?_)
  refine sc_seq ?_
  refine sc_block ?_
  refine sc_loop (fun m_ l_ w_ => ∃ (n : Nat), m_ = l.length - n ∧ l_ = [(5, .int .i64 (n : Int)), (0, .slice A l.length c), (1, .int .i64 r)] ∧ Ext w w_ ∧ n ≤ l.length ∧ frontN l r = n + frontN (l.drop n) (r - szL (l.take n))) _ [(5, .int .i64 (0 : Int)), (0, .slice A l.length c), (1, .int .i64 r)] ⟨0, rfl, rfl, (Ext.rfl' w), ⟨by omega, by simp [szL]⟩⟩ (.cons rfl (.cons rfl (.cons rfl (.nil)))) ?_
  rintro j2 _ w1 ⟨n, rfl, rfl, xw_w1, ⟨hn, hf⟩⟩
  refine sc_seq ?_
  refine sc_seq ?_
  refine sc_reg ?_
  refine Go.XK.s (v := .int .i64 (n : Int)) (e_move rfl) ?_
  refine Go.XK.s (v := .slice A l.length c) (e_move rfl) ?_
  refine Go.XK.s (v := .int .i64 (l.length : Int)) (e_len Try.underlying22 rfl) ?_
  refine Go.XK.s (v := .bool (decide ((n : Int) < (l.length : Int)))) (e_lt rfl rfl) ?_
  refine Go.XK.s (v := .bool (decide ((n : Int) < (l.length : Int)))) (e_move rfl) ?_
  refine sl_mergeW 8 18 (.bool ((decide ((n : Int) < (l.length : Int))) && (decide ((szL (l.take (n + 1)) : Int) ≤ r)))) (fun w_ => Ext w1 w_) ?_ (fun w3 hw3 => ?_)
  · refine sl_case (t := 10) rfl (fun g2_4 => ?_) (fun g2_4 => ?_)
    ·
      have hn_ := of_decide_eq_true g2_4
      refine sl_gev (v := .slice A l.length c) rfl rfl g2_4 (e_move rfl) rfl (by decide) ?_
      refine sl_gev (v := .int .i64 (n : Int)) rfl rfl g2_4 (e_move rfl) rfl (by decide) ?_
      refine sl_gev (v := .int .i64 ((n : Int) + 1)) rfl rfl g2_4 (e_add rfl rfl (by omega)) rfl (by decide) ?_
      refine sl_unguard rfl rfl g2_4 ?_
      refine s_slS 0 (n + 1) (l.take (n + 1)) Try.underlying22 Try.sizeOf41 rfl hl rfl Bd.no (Bd.at_ rfl (by omega)) (by omega) (by omega) (by first | rfl | simp) ?_
      intro As14 cs14 hs14
      refine sl_gcall rfl rfl g2_4 ent16 rfl rfl (rsize_b _ _ _ w1 (hs14.ext xw_w1) (by have h_ := szL_take_le l (n + 1); omega)) (by decide) ?_
      rintro _ w4 ⟨rfl, hw4⟩
      have xw_w4 : Ext w w4 := Ext.tr xw_w1 hw4
      have xw1_w4 : Ext w1 w4 := Ext.tr (Ext.rfl' w1) hw4
      refine sl_gev (v := .int .i64 r) rfl rfl g2_4 (e_move rfl) rfl (by decide) ?_
      refine sl_gev (v := .bool (decide ((szL (l.take (n + 1)) : Int) ≤ r))) rfl rfl g2_4 (e_le rfl rfl) rfl (by decide) ?_
      refine Go.XK.s (v := .bool (decide ((szL (l.take (n + 1)) : Int) ≤ r))) (e_pickT rfl g2_4 rfl) ?_
      exact sl_nil (fun a ha => ⟨xw1_w4, ha.sub (.cons (by rw [g2_4]; rfl) (sub_self_cons (sub_self_cons (sub_self_cons (sub_self_cons (sub_self_cons (sub_self_cons (sub_self_cons (sub_self_cons (Sub.refl _) rfl) rfl) rfl) rfl) rfl) rfl) rfl) rfl))⟩)
    ·
      refine sl_gskip rfl rfl g2_4 (by decide) ?_
      refine sl_gskip rfl rfl g2_4 (by decide) ?_
      refine sl_gskip rfl rfl g2_4 (by decide) ?_
      refine sl_gskip rfl rfl g2_4 (by decide) ?_
      refine sl_gskip rfl rfl g2_4 (by decide) ?_
      refine sl_gskip rfl rfl g2_4 (by decide) ?_
      refine sl_gskip rfl rfl g2_4 (by decide) ?_
      refine Go.XK.s (v := .bool false) (e_pickF rfl g2_4 rfl) ?_
      exact sl_nil (fun a ha => ⟨(Ext.rfl' w1), ha.sub (.cons (by rw [g2_4]; rfl) (sub_self_cons (sub_self_cons (sub_self_cons (sub_self_cons (sub_self_cons (sub_self_cons (sub_self_cons (sub_self_cons (Sub.refl _) rfl) rfl) rfl) rfl) rfl) rfl) rfl) rfl))⟩)
  have xw_w3 : Ext w w3 := Ext.tr xw_w1 hw3
  refine sl_nil (nrm_k ?_)
  refine sc_if rfl (fun c18 => ?_) (fun c18 => ?_)
  ·
    simp only [Bool.and_eq_true, decide_eq_true_eq] at c18
    obtain ⟨hlt, hle⟩ := c18
    obtain ⟨x, hx⟩ : ∃ x, l[n]? = some x := ⟨_, List.getElem?_eq_getElem (by omega)⟩
    refine sc_skip (nrm_k ?_)
    refine sc_block ?_
    refine sc_reg ?_
    refine Go.XK.s (v := .int .i64 (n : Int)) (e_move rfl) ?_
    refine Go.XK.s (v := .int .i64 ((n : Int) + 1)) (e_add rfl rfl (by omega)) ?_
    refine Go.XK.s (v := .int .i64 ((n : Int) + 1)) (e_assign rfl) ?_
    refine sl_nil ?_
    exact nrm_loopq rfl _ _ (by omega) ⟨n + 1, rfl, rfl, xw_w3, ⟨by omega, front_step hx hf hle⟩⟩ (.cons rfl (.cons rfl (.cons rfl (.nil))))
  ·
    refine sc_exit rfl (nrm_k ?_)
    refine sc_seq ?_
    refine sc_reg ?_
    refine Go.XK.s (v := .int .i64 (n : Int)) (e_move rfl) ?_
    refine Go.XK.s (v := .int .i64 (n : Int)) (e_assign rfl) ?_
    refine sl_nil (nrm_k ?_)
    refine sc_retf rfl (ret1 Try.results51 (rvt rfl) ?_)
    exact ⟨congrArg (Value.int .i64) (by rw [front_exit hf c18]), xw_w3⟩

end Go.Proofs.Ytnbclhbpjlpcoaa
