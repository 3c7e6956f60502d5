/- Chapter 27: C13. Printed by my program wip/tools/wk.py. -/
import Derived.Test.YtlgkjpmaekkpjaaC12
import Derived.Test.YtlgkjpmaekkpjaaMath9
set_option linter.unusedVariables false
set_option linter.unusedSimpArgs false
set_option maxRecDepth 4000
set_option maxHeartbeats 1000000
namespace Go.Proofs.Ytlgkjpmaekkpjaa
open Go.XK Go.RowKit
theorem e_eqs {P : Program} {n : Nat} {ds : List Deferred} {l : Env} {w w1 : World} {o : Op} {ty : TypeId} {s t : List UInt8} (h : s = t) (he : Ev P n ds l w o ty (.string (B s)) w1) : Ev P n ds l w o ty (.string (B t)) w1 := h ▸ he
theorem sec_hdr {t : List UInt8} {es : List (List UInt8)} {kd v : UInt8} {p n : Int} (h : Ents t es) (hk : kd = v) : Ents (t ++ ([v, u8of p, u8of n, 0] ++ zeros 28)) (es ++ [secB kd p n]) := by
  subst hk
  exact h.snoc (secB_length _ _ _)
theorem sec_init {l : List Img} {x : Img} (he0 : (encR l).2 = 0) (hx : l[0]? = some x) (h2 : 2 ≤ l.length) : (1 ≤ 1 ∧ 1 ≤ l.length) ∧ Ents (((encR l).1.take 64).drop 0) [valB x.P, imgB x] ∧ [valB x.P, imgB x].length ≤ 2 * 1 ∧ (1 < l.length → ∃ q h : Int, 0 ≤ h ∧ ∀ zs, runS init ([valB x.P, imgB x] ++ zs) = runS ⟨q, 0, true, false, h, l.take 1⟩ zs) ∧ (1 = l.length → ∀ zs, runS init ([valB x.P, imgB x] ++ zs) = (l, 0)) := by
  obtain ⟨h0, h32, hv, hS⟩ := enc_ok he0
  cases l with
  | nil => simp at h0
  | cons y t =>
    simp at hx; subst hx
    rw [List.all_cons, Bool.and_eq_true] at hv
    have hpl := (Img.okv hv.1).pl
    refine ⟨⟨by omega, by omega⟩, ⟨?_, ?_⟩, by simp, fun _ => ⟨y.P, 0, by decide, fun zs => ?_⟩, fun h => by omega⟩
    · rw [hS, encE, List.drop_zero, List.flatten_cons, List.flatten_cons, ← List.append_assoc, List.take_left' (by rw [List.length_append, valB_length, imgB_length])]
      simp
    · intro e he
      rcases List.mem_cons.1 he with rfl | he
      · exact valB_length _
      · rw [List.mem_singleton.1 he]; exact imgB_length _
    · rw [List.cons_append, List.cons_append, List.nil_append, runS_inl (step_val hpl), runF_go (by simp), runS_inl (t' := ⟨y.P, 0, true, false, 0, [y]⟩) (by rw [step_img (by decide), readR_img hv.1]; simp), runF_go (by simp)]
      rfl
/-- masterdisc/masterdisclaw27.EltoritoSections (function 6) -/
theorem sections_c (l : List Img) (A : Option Addr) (c : Nat) (w : World) (hl : Rd w A 6 Img.enc l) (hlc : l.length ≤ c) : CallR Try.prog 6 [.slice A l.length c] w (fun v w' => v = .bool true ∧ Ext w w') := by
  refine callR_of (n := 112) [(0, .slice A l.length c)] Try.func6 rfl rfl (Nat.le_of_ble_eq_true rfl) rfl ?_
  refine sc_seq ?_
  refine sc_reg ?_
  refine Go.XK.s (v := .bool false) (e_assign rfl) ?_
  refine sl_nil (nrm_k ?_)
  refine sc_seq ?_
  refine sc_seq ?_
  refine sc_reg ?_
  refine sl_call ent10 rfl rfl (awake_c w) (by decide) ?_
  rintro _ w1 ⟨rfl, hw1⟩
  have xw_w1 : Ext w w1 := Ext.tr (Ext.rfl' w) hw1
  refine Go.XK.s (v := .bool false) (e_not (b := true) rfl) ?_
  refine sl_nil (nrm_k ?_)
  refine sc_no rfl rfl ?_
  refine sc_skip (nrm_k ?_)
  refine sc_seq ?_
  refine sc_seq ?_
  refine sc_reg ?_
  refine Go.XK.s (v := .slice A l.length c) (e_move rfl) ?_
  refine Go.XK.s (v := .int .i64 (l.length : Int)) (e_len Try.underlying22 rfl) ?_
  refine Go.XK.s (v := .bool (decide ((20 : Int) < (l.length : Int)))) (e_gt rfl rfl) ?_
  refine sl_nil (nrm_k ?_)
  refine sc_ifd rfl (fun c15 => ?_) (fun c15 => ?_)
  ·
    refine sc_seq ?_
    refine sc_reg ?_
    refine Go.XK.s (v := .bool true) (e_assign rfl) ?_
    refine sl_nil (nrm_k ?_)
    refine sc_retf rfl (ret1 Try.results6 (rvt rfl) ?_)
    exact ⟨rfl, xw_w1⟩
  ·
    refine sc_skip (nrm_k ?_)
    refine sc_seq ?_
    refine sc_reg ?_
    refine Go.XK.s (v := .slice A l.length c) (e_move rfl) ?_
    refine sl_call ent11 rfl rfl (encode_c l _ _ w1 (hl.ext xw_w1) hlc) (by decide) ?_
    rintro _ w2 ⟨rfl, hw2⟩
    have xw_w2 : Ext w w2 := Ext.tr xw_w1 hw2
    refine Go.XK.s (v := .tuple #[.string (B ((encR l).1)), .int .i64 ((encR l).2)]) (e_move rfl) ?_
    refine Go.XK.s (v := .string (B ((encR l).1))) (e_extract (vs := [.string (B ((encR l).1)), .int .i64 ((encR l).2)]) rfl rfl) ?_
    refine Go.XK.s (v := .int .i64 ((encR l).2)) (e_extract (vs := [.string (B ((encR l).1)), .int .i64 ((encR l).2)]) rfl rfl) ?_
    refine Go.XK.s (v := .string (B ((encR l).1))) (e_assign rfl) ?_
    refine Go.XK.s (v := .int .i64 ((encR l).2)) (e_assign rfl) ?_
    refine sl_nil (nrm_k ?_)
    refine sc_seq ?_
    refine sc_seq ?_
    refine sc_reg ?_
    refine Go.XK.s (v := .int .i64 ((encR l).2)) (e_move rfl) ?_
    refine Go.XK.s (v := .bool (decide ((encR l).2 ≠ 0))) (e_ne rfl rfl) ?_
    refine Go.XK.s (v := .bool (decide ((encR l).2 ≠ 0))) (e_move rfl) ?_
    refine sl_merge 4 27 (.bool ((decide ((encR l).2 ≠ 0)) || (decide ((l.length : Int) < 2)))) ?_ ?_
    · refine sl_case (t := 23) rfl (fun g6_2 => ?_) (fun g6_2 => ?_)
      ·
        refine sl_gskip rfl rfl g6_2 (by decide) ?_
        refine sl_gskip rfl rfl g6_2 (by decide) ?_
        refine sl_gskip rfl rfl g6_2 (by decide) ?_
        refine Go.XK.s (v := .bool true) (e_pickT rfl g6_2 rfl) ?_
        exact sl_nil (fun a ha => ⟨rfl, ha.sub (.cons (by rw [g6_2]; rfl) (sub_self_cons (sub_self_cons (sub_self_cons (sub_self_cons (Sub.refl _) rfl) rfl) rfl) rfl))⟩)
      ·
        refine sl_gev (v := .slice A l.length c) rfl rfl g6_2 (e_move rfl) rfl (by decide) ?_
        refine sl_gev (v := .int .i64 (l.length : Int)) rfl rfl g6_2 (e_len Try.underlying22 rfl) rfl (by decide) ?_
        refine sl_gev (v := .bool (decide ((l.length : Int) < 2))) rfl rfl g6_2 (e_lt rfl rfl) rfl (by decide) ?_
        refine Go.XK.s (v := .bool (decide ((l.length : Int) < 2))) (e_pickF rfl g6_2 rfl) ?_
        exact sl_nil (fun a ha => ⟨rfl, ha.sub (.cons (by rw [g6_2]; rfl) (sub_self_cons (sub_self_cons (sub_self_cons (sub_self_cons (Sub.refl _) rfl) rfl) rfl) rfl))⟩)
    refine Go.XK.s (v := .bool ((decide ((encR l).2 ≠ 0)) || (decide ((l.length : Int) < 2)))) (e_move rfl) ?_
    refine sl_merge 4 32 (.bool (((decide ((encR l).2 ≠ 0)) || (decide ((l.length : Int) < 2))) || (decide ((((encR l).1).length : Int) ≠ 2048)))) ?_ ?_
    · refine sl_case (t := 28) rfl (fun g6_7 => ?_) (fun g6_7 => ?_)
      ·
        refine sl_gskip rfl rfl g6_7 (by decide) ?_
        refine sl_gskip rfl rfl g6_7 (by decide) ?_
        refine sl_gskip rfl rfl g6_7 (by decide) ?_
        refine Go.XK.s (v := .bool true) (e_pickT rfl g6_7 rfl) ?_
        exact sl_nil (fun a ha => ⟨rfl, ha.sub (.cons (by rw [g6_7]; rfl) (sub_self_cons (sub_self_cons (sub_self_cons (sub_self_cons (Sub.refl _) rfl) rfl) rfl) rfl))⟩)
      ·
        refine sl_gev (v := .string (B ((encR l).1))) rfl rfl g6_7 (e_move rfl) rfl (by decide) ?_
        refine sl_gev (v := .int .i64 (((encR l).1).length : Int)) rfl rfl g6_7 (e_slen Try.underlying9 rfl) rfl (by decide) ?_
        refine sl_gev (v := .bool (decide ((((encR l).1).length : Int) ≠ 2048))) rfl rfl g6_7 (e_ne rfl rfl) rfl (by decide) ?_
        refine Go.XK.s (v := .bool (decide ((((encR l).1).length : Int) ≠ 2048))) (e_pickF rfl g6_7 rfl) ?_
        exact sl_nil (fun a ha => ⟨rfl, ha.sub (.cons (by rw [g6_7]; rfl) (sub_self_cons (sub_self_cons (sub_self_cons (sub_self_cons (Sub.refl _) rfl) rfl) rfl) rfl))⟩)
    refine sl_nil (nrm_k ?_)
    refine sc_if rfl (fun c32 => ?_) (fun c32 => ?_)
    ·
      refine sc_seq ?_
      refine sc_reg ?_
      refine Go.XK.s (v := .bool true) (e_assign rfl) ?_
      refine sl_nil (nrm_k ?_)
      refine sc_retf rfl (ret1 Try.results6 (rvt rfl) ?_)
      exact ⟨rfl, xw_w2⟩
    ·
      have hq : (encR l).2 = 0 ∧ 2 ≤ l.length := by
        simp at c32
        omega
      have he0 := hq.1
      have hSl := enc_length he0
      obtain ⟨hl0, hl32, hall, hflat⟩ := enc_ok he0
      obtain ⟨x0, hx0⟩ := pos_get hl0
      refine sc_skip (nrm_k ?_)
      refine sc_seq ?_
      refine sc_reg ?_
      refine Go.XK.s (v := .string (B ((encR l).1))) (e_move rfl) ?_
      refine Go.XK.s (v := .string (B ((((encR l).1).take 64).drop 0))) (e_sslice (lo := 0) (hi := 64) Try.underlying9 rfl Bd.no (Bd.at_ rfl rfl) (by omega) (by omega)) ?_
      refine Go.XK.s (v := .string (B ((((encR l).1).take 64).drop 0))) (e_assign rfl) ?_
      refine sl_nil (nrm_k ?_)
      refine sc_seq ?_
      refine sc_seq ?_
      refine sc_reg ?_
      refine Go.XK.s (v := .int .i64 1) (e_assign rfl) ?_
      refine sl_nil (nrm_k ?_)
      refine sc_block ?_
      refine sc_loop (fun m_ l_ w_ => ∃ (i : Nat) (t : List UInt8) (es : List (List UInt8)), m_ = l.length - i ∧ l_ = [(6, .int .i64 (i : Int)), (5, .string (B t)), (0, .slice A l.length c), (3, .string (B ((encR l).1)))] ∧ Ext w w_ ∧ (1 ≤ i ∧ i ≤ l.length) ∧ Ents t es ∧ es.length ≤ 2 * i ∧ (i < l.length → ∃ q h : Int, 0 ≤ h ∧ ∀ zs, runS init (es ++ zs) = runS ⟨q, 0, true, false, h, l.take i⟩ zs) ∧ (i = l.length → ∀ zs, runS init (es ++ zs) = (l, 0))) _ [(6, .int .i64 (1 : Int)), (5, .string (B (((encR l).1.take 64).drop 0))), (0, .slice A l.length c), (3, .string (B ((encR l).1)))] ⟨1, ((encR l).1.take 64).drop 0, [valB x0.P, imgB x0], rfl, rfl, xw_w2, sec_init he0 hx0 (by omega)⟩ (.cons rfl (.cons rfl (.cons rfl (.cons rfl (.nil))))) ?_
      rintro j4 _ w3 ⟨i, t, es, rfl, rfl, xw_w3, ⟨hi, hE, hel, hrun, hfin⟩⟩
      refine sc_seq ?_
      refine sc_seq ?_
      refine sc_reg ?_
      refine Go.XK.s (v := .int .i64 (i : Int)) (e_move rfl) ?_
      refine Go.XK.s (v := .slice A l.length c) (e_move rfl) ?_
      refine Go.XK.s (v := .int .i64 (l.length : Int)) (e_len Try.underlying22 rfl) ?_
      refine Go.XK.s (v := .bool (decide ((i : Int) < (l.length : Int)))) (e_lt rfl rfl) ?_
      refine sl_nil (nrm_k ?_)
      refine sc_ifd rfl (fun c38 => ?_) (fun c38 => ?_)
      ·
        obtain ⟨x, hx⟩ : ∃ x, l[i]? = some x := ⟨_, List.getElem?_eq_getElem (by omega)⟩
        have hvx := all_at hall hx
        have hpl := (Img.okv hvx).pl
        obtain ⟨q, h, hh, hrun0⟩ := hrun (by omega)
        refine sc_skip (nrm_k ?_)
        refine sc_block ?_
        refine sc_seq ?_
        refine sc_reg ?_
        refine Go.XK.s (v := .int .i64 (i : Int)) (e_move rfl) ?_
        refine Go.XK.s (v := .int .i64 (i : Int)) (e_assign rfl) ?_
        refine sl_nil (nrm_k ?_)
        refine sc_seq ?_
        refine sc_block ?_
        refine sc_loop (fun m_ l_ w_ => ∃ (k : Nat), m_ = l.length - k ∧ l_ = [(7, .int .i64 (k : Int)), (0, .slice A l.length c), (3, .string (B ((encR l).1))), (5, .string (B t)), (6, .int .i64 (i : Int))] ∧ Ext w w_ ∧ (i ≤ k ∧ k ≤ l.length) ∧ ∀ (m : Nat) (y : Img), i ≤ m → m < k → l[m]? = some y → y.P = x.P) _ [(7, .int .i64 (i : Int)), (0, .slice A l.length c), (3, .string (B ((encR l).1))), (5, .string (B t)), (6, .int .i64 (i : Int))] ⟨i, rfl, rfl, xw_w3, ⟨⟨by omega, by omega⟩, fun m y h1_ h2_ => by omega⟩⟩ (.cons rfl (.cons rfl (.cons rfl (.cons rfl (.cons rfl (.nil)))))) ?_
        rintro j6 _ w5 ⟨k, rfl, rfl, xw_w5, ⟨hk, hsame⟩⟩
        refine sc_seq ?_
        refine sc_seq ?_
        obtain ⟨y, hy⟩ : ∃ y : Img, k < l.length → l[k]? = some y := by
          by_cases h_ : k < l.length
          · exact ⟨_, fun _ => List.getElem?_eq_getElem h_⟩
          · exact ⟨x, fun h2_ => absurd h2_ h_⟩
        rcases Classical.em ((k : Int) < (l.length : Int)) with g7 | g7
        ·
          refine sc_free [(7, .int .i64 (k : Int)), (0, .slice A l.length c), (3, .string (B ((encR l).1))), (5, .string (B t)), (6, .int .i64 (i : Int))] [40, 41, 42, 43, 44, 45, 46, 47, 48, 49, 50, 51, 52, 53, 54, 55, 56] [(Is (.int .i64 (k : Int))), (Is (.slice A l.length c)), (Is (.int .i64 (l.length : Int))), (Is (.bool (decide ((k : Int) < (l.length : Int))))), (Is (.bool (decide ((k : Int) < (l.length : Int))))), (Is (.slice A l.length c)), (Is (.int .i64 (k : Int))), (Is (.pointer (some (el A 6 (k : Int) 0)))), (Is (.pointer (some (el A 6 (k : Int) 0)))), (Is (.int .i64 y.P)), (Is (.slice A l.length c)), (Is (.int .i64 (i : Int))), (Is (.pointer (some (el A 6 (i : Int) 0)))), (Is (.pointer (some (el A 6 (i : Int) 0)))), (Is (.int .i64 x.P)), (Is (.bool (decide (y.P = x.P)))), (Is (.bool (decide (y.P = x.P))))] [] (by kernel_rfl) (Sub.refl _) (by kernel_rfl) (by kernel_rfl) (by kernel_rfl) rfl (by kernel_rfl) (ds_ext (Stays.spec (.is _ (.is _ (.is _ (.is _ (.is _ (.is _ (.is _ (.is _ (.is _ (.is _ (.is _ (.is _ (.is _ (.is _ (.is _ (.is _ (.is _ (.nil)))))))))))))))))))) ⟨?_, ?_, ?_, ?_, ?_, ?_, ?_, ?_, ?_, ?_, ?_, ?_, ?_, ?_, ?_, ?_, ?_, trivial⟩ ?_
          · intro Q act_ wI hxI ha hp
            have xw_wI : Ext w wI := Ext.tr xw_w5 hxI
            exact h_evA (v := .int .i64 (k : Int)) ha rfl (e_move rfl) rfl rfl (Ext.rfl' _)
          · intro Q act_ wI hxI ha hp
            have xw_wI : Ext w wI := Ext.tr xw_w5 hxI
            exact h_evA (v := .slice A l.length c) ha rfl (e_move rfl) rfl rfl (Ext.rfl' _)
          · intro Q act_ wI hxI ha hp
            have xw_wI : Ext w wI := Ext.tr xw_w5 hxI
            have ha := ha.add (show act_.tmps.getD 41 undef = .slice A l.length c from hp 1 (by kernel_rfl) (by decide))
            exact h_evA (v := .int .i64 (l.length : Int)) ha rfl (e_len Try.underlying22 rfl) rfl rfl (Ext.rfl' _)
          · intro Q act_ wI hxI ha hp
            have xw_wI : Ext w wI := Ext.tr xw_w5 hxI
            have ha := ha.add (show act_.tmps.getD 40 undef = .int .i64 (k : Int) from hp 0 (by kernel_rfl) (by decide))
            have ha := ha.add (show act_.tmps.getD 42 undef = .int .i64 (l.length : Int) from hp 2 (by kernel_rfl) (by decide))
            exact h_evA (v := .bool (decide ((k : Int) < (l.length : Int)))) ha rfl (e_lt rfl rfl) rfl rfl (Ext.rfl' _)
          · intro Q act_ wI hxI ha hp
            have xw_wI : Ext w wI := Ext.tr xw_w5 hxI
            have ha := ha.add (show act_.tmps.getD 43 undef = .bool (decide ((k : Int) < (l.length : Int))) from hp 3 (by kernel_rfl) (by decide))
            exact h_evA (v := .bool (decide ((k : Int) < (l.length : Int)))) ha rfl (e_move rfl) rfl rfl (Ext.rfl' _)
          · intro Q act_ wI hxI ha hp
            have xw_wI : Ext w wI := Ext.tr xw_w5 hxI
            have ha := ha.add (show act_.tmps.getD 44 undef = .bool (decide ((k : Int) < (l.length : Int))) from hp 4 (by kernel_rfl) (by decide))
            exact h_gevA (v := .slice A l.length c) ha rfl rfl rfl (decide_eq_true g7) (e_move rfl) rfl rfl (Ext.rfl' _)
          · intro Q act_ wI hxI ha hp
            have xw_wI : Ext w wI := Ext.tr xw_w5 hxI
            have ha := ha.add (show act_.tmps.getD 44 undef = .bool (decide ((k : Int) < (l.length : Int))) from hp 4 (by kernel_rfl) (by decide))
            exact h_gevA (v := .int .i64 (k : Int)) ha rfl rfl rfl (decide_eq_true g7) (e_move rfl) rfl rfl (Ext.rfl' _)
          · intro Q act_ wI hxI ha hp
            have xw_wI : Ext w wI := Ext.tr xw_w5 hxI
            have ha := ha.add (show act_.tmps.getD 44 undef = .bool (decide ((k : Int) < (l.length : Int))) from hp 4 (by kernel_rfl) (by decide))
            have ha := ha.add (show act_.tmps.getD 45 undef = .slice A l.length c from hp 5 (by kernel_rfl) (by decide))
            have ha := ha.add (show act_.tmps.getD 46 undef = .int .i64 (k : Int) from hp 6 (by kernel_rfl) (by decide))
            exact h_gevA (v := .pointer (some (el A 6 (k : Int) 0))) ha rfl rfl rfl (decide_eq_true g7) (e_idxEl (e := y) Try.underlying22 Try.sizeOf34 rfl rfl (hl.ext xw_wI) (hy (by omega)) (by omega) rfl) rfl rfl (Ext.rfl' _)
          · intro Q act_ wI hxI ha hp
            have xw_wI : Ext w wI := Ext.tr xw_w5 hxI
            have ha := ha.add (show act_.tmps.getD 44 undef = .bool (decide ((k : Int) < (l.length : Int))) from hp 4 (by kernel_rfl) (by decide))
            have ha := ha.add (show act_.tmps.getD 47 undef = .pointer (some (el A 6 (k : Int) 0)) from hp 7 (by kernel_rfl) (by decide))
            exact h_gevA (v := .pointer (some (el A 6 (k : Int) 0))) ha rfl rfl rfl (decide_eq_true g7) (e_fieldEl (fsz := 1) Try.underlying34 rfl Try.sizeOf3 (by decide) rfl rfl) rfl rfl (Ext.rfl' _)
          · intro Q act_ wI hxI ha hp
            have xw_wI : Ext w wI := Ext.tr xw_w5 hxI
            have ha := ha.add (show act_.tmps.getD 44 undef = .bool (decide ((k : Int) < (l.length : Int))) from hp 4 (by kernel_rfl) (by decide))
            have ha := ha.add (show act_.tmps.getD 48 undef = .pointer (some (el A 6 (k : Int) 0)) from hp 8 (by kernel_rfl) (by decide))
            exact h_gevA (v := .int .i64 y.P) ha rfl rfl rfl (decide_eq_true g7) (e_ldEl (xs := l) (enc := Img.enc) (e := y) rfl (hl.ext xw_wI) (hy (by omega)) Try.isAgg3 rfl) rfl rfl (Ext.rfl' _)
          · intro Q act_ wI hxI ha hp
            have xw_wI : Ext w wI := Ext.tr xw_w5 hxI
            have ha := ha.add (show act_.tmps.getD 44 undef = .bool (decide ((k : Int) < (l.length : Int))) from hp 4 (by kernel_rfl) (by decide))
            exact h_gevA (v := .slice A l.length c) ha rfl rfl rfl (decide_eq_true g7) (e_move rfl) rfl rfl (Ext.rfl' _)
          · intro Q act_ wI hxI ha hp
            have xw_wI : Ext w wI := Ext.tr xw_w5 hxI
            have ha := ha.add (show act_.tmps.getD 44 undef = .bool (decide ((k : Int) < (l.length : Int))) from hp 4 (by kernel_rfl) (by decide))
            exact h_gevA (v := .int .i64 (i : Int)) ha rfl rfl rfl (decide_eq_true g7) (e_move rfl) rfl rfl (Ext.rfl' _)
          · intro Q act_ wI hxI ha hp
            have xw_wI : Ext w wI := Ext.tr xw_w5 hxI
            have ha := ha.add (show act_.tmps.getD 44 undef = .bool (decide ((k : Int) < (l.length : Int))) from hp 4 (by kernel_rfl) (by decide))
            have ha := ha.add (show act_.tmps.getD 50 undef = .slice A l.length c from hp 10 (by kernel_rfl) (by decide))
            have ha := ha.add (show act_.tmps.getD 51 undef = .int .i64 (i : Int) from hp 11 (by kernel_rfl) (by decide))
            exact h_gevA (v := .pointer (some (el A 6 (i : Int) 0))) ha rfl rfl rfl (decide_eq_true g7) (e_idxEl (e := x) Try.underlying22 Try.sizeOf34 rfl rfl (hl.ext xw_wI) hx (by omega) rfl) rfl rfl (Ext.rfl' _)
          · intro Q act_ wI hxI ha hp
            have xw_wI : Ext w wI := Ext.tr xw_w5 hxI
            have ha := ha.add (show act_.tmps.getD 44 undef = .bool (decide ((k : Int) < (l.length : Int))) from hp 4 (by kernel_rfl) (by decide))
            have ha := ha.add (show act_.tmps.getD 52 undef = .pointer (some (el A 6 (i : Int) 0)) from hp 12 (by kernel_rfl) (by decide))
            exact h_gevA (v := .pointer (some (el A 6 (i : Int) 0))) ha rfl rfl rfl (decide_eq_true g7) (e_fieldEl (fsz := 1) Try.underlying34 rfl Try.sizeOf3 (by decide) rfl rfl) rfl rfl (Ext.rfl' _)
          · intro Q act_ wI hxI ha hp
            have xw_wI : Ext w wI := Ext.tr xw_w5 hxI
            have ha := ha.add (show act_.tmps.getD 44 undef = .bool (decide ((k : Int) < (l.length : Int))) from hp 4 (by kernel_rfl) (by decide))
            have ha := ha.add (show act_.tmps.getD 53 undef = .pointer (some (el A 6 (i : Int) 0)) from hp 13 (by kernel_rfl) (by decide))
            exact h_gevA (v := .int .i64 x.P) ha rfl rfl rfl (decide_eq_true g7) (e_ldEl (xs := l) (enc := Img.enc) (e := x) rfl (hl.ext xw_wI) hx Try.isAgg3 rfl) rfl rfl (Ext.rfl' _)
          · intro Q act_ wI hxI ha hp
            have xw_wI : Ext w wI := Ext.tr xw_w5 hxI
            have ha := ha.add (show act_.tmps.getD 44 undef = .bool (decide ((k : Int) < (l.length : Int))) from hp 4 (by kernel_rfl) (by decide))
            have ha := ha.add (show act_.tmps.getD 49 undef = .int .i64 y.P from hp 9 (by kernel_rfl) (by decide))
            have ha := ha.add (show act_.tmps.getD 54 undef = .int .i64 x.P from hp 14 (by kernel_rfl) (by decide))
            exact h_gevA (v := .bool (decide (y.P = x.P))) ha rfl rfl rfl (decide_eq_true g7) (e_eq rfl rfl) rfl rfl (Ext.rfl' _)
          · intro Q act_ wI hxI ha hp
            have xw_wI : Ext w wI := Ext.tr xw_w5 hxI
            have ha := ha.add (show act_.tmps.getD 44 undef = .bool (decide ((k : Int) < (l.length : Int))) from hp 4 (by kernel_rfl) (by decide))
            have ha := ha.add (show act_.tmps.getD 55 undef = .bool (decide (y.P = x.P)) from hp 15 (by kernel_rfl) (by decide))
            exact h_evA (v := .bool (decide (y.P = x.P))) ha rfl (e_pickT rfl (decide_eq_true g7) rfl) rfl rfl (Ext.rfl' _)
          intro vs_ w8 hx_w8 hvs act_ ha hv
          have xw_w8 : Ext w w8 := Ext.tr xw_w5 hx_w8
          have ha := ha.add ((hv 16 (by decide)).trans (show vs_ 16 = .bool (decide (y.P = x.P)) from hvs 16 (by decide)))
          refine st_go ha ?_
          clear ha hv hvs
          refine st_nil (nrm_k ?_)
          refine sc_ifd rfl (fun c56 => ?_) (fun c56 => ?_)
          ·
            refine sc_skip (nrm_k ?_)
            refine sc_block ?_
            refine sc_reg ?_
            refine Go.XK.s (v := .int .i64 (k : Int)) (e_move rfl) ?_
            refine Go.XK.s (v := .int .i64 ((k : Int) + 1)) (e_add rfl rfl (by omega)) ?_
            refine Go.XK.s (v := .int .i64 ((k : Int) + 1)) (e_assign rfl) ?_
            refine sl_nil ?_
            exact nrm_loopq rfl _ _ (by omega) ⟨k + 1, rfl, rfl, xw_w8, ⟨⟨by omega, by omega⟩, fun m y_ h1_ h2_ h3_ => by
              rcases Nat.lt_or_ge m k with h_ | h_
              · exact hsame m y_ h1_ h_ h3_
              · rw [show m = k from by omega, hy (by omega)] at h3_; cases h3_; exact c56⟩⟩ (.cons rfl (.cons rfl (.cons rfl (.cons rfl (.cons rfl (.nil))))))
          ·
            refine sc_exit rfl (nrm_k ?_)
            refine sc_seq ?_
            have hki : i + 1 ≤ k := by
              first
                | omega
                | (rcases Nat.lt_or_ge i k with h_ | h_
                   · exact h_
                   · have he_ : k = i := by omega
                     subst he_
                     rw [hx] at hy
                     exact absurd (by rw [Option.some.inj (hy (by omega))]) c56)
            refine sc_reg ?_
            refine Go.XK.s (v := .int .u8 144) (e_assign rfl) ?_
            refine sl_nil (nrm_k ?_)
            refine sc_seq ?_
            refine sc_seq ?_
            refine sc_reg ?_
            refine Go.XK.s (v := .int .i64 (k : Int)) (e_move rfl) ?_
            refine Go.XK.s (v := .slice A l.length c) (e_move rfl) ?_
            refine Go.XK.s (v := .int .i64 (l.length : Int)) (e_len Try.underlying22 rfl) ?_
            refine Go.XK.s (v := .bool (decide ((k : Int) = (l.length : Int)))) (e_eq rfl rfl) ?_
            refine sl_nil (nrm_k ?_)
            refine sc_ifd rfl (fun c62 => ?_) (fun c62 => ?_)
            ·
              obtain ⟨kd, hkd⟩ : ∃ kd : UInt8, kd = 145 := ⟨_, rfl⟩
              have hkd2 : kd = 144 ∨ kd = 145 := .inr hkd
              have hkind : k < l.length → decide (kd = 144) = true := fun h_ => by omega
              have hkind2 : k = l.length → decide (kd = 144) = false := fun _ => by rw [hkd]; rfl
              refine sc_reg ?_
              refine Go.XK.s (v := .int .u8 145) (e_assign rfl) ?_
              refine sl_nil (nrm_k ?_)
              refine sc_seq ?_
              refine sc_free [(8, .int .u8 145), (62, .bool (decide ((k : Int) = (l.length : Int)))), (61, .int .i64 (l.length : Int)), (60, .slice A l.length c), (59, .int .i64 (k : Int)), (56, .bool (decide (y.P = x.P))), (7, .int .i64 (k : Int)), (0, .slice A l.length c), (3, .string (B ((encR l).1))), (5, .string (B t)), (6, .int .i64 (i : Int))] [63, 64, 65, 66, 67, 68, 69, 70, 71, 72, 73, 74, 75, 76, 77, 78, 79] [(Is (.string (B t))), (Is (.int .u8 145)), (Is (.slice A l.length c)), (Is (.int .i64 (i : Int))), (Is (.pointer (some (el A 6 (i : Int) 0)))), (Is (.pointer (some (el A 6 (i : Int) 0)))), (Is (.int .i64 x.P)), (Is (.int .u8 ((u8of x.P).toNat))), (Is (.int .i64 (k : Int))), (Is (.int .i64 (i : Int))), (Is (.int .i64 ((k : Int) - (i : Int)))), (Is (.int .u8 ((u8of ((k : Int) - (i : Int))).toNat))), (fun VV WV => ∃ b_, VV = Value.slice (some ⟨b_, 0, none⟩) 4 4 ∧ Blk WV b_ 5 [.int .u8 145, .int .u8 ((u8of x.P).toNat), .int .u8 ((u8of ((k : Int) - (i : Int))).toNat), .int .u8 0]), (Is (.string (B [145, u8of x.P, u8of ((k : Int) - (i : Int)), 0]))), (Is (.string (B (zeros 28)))), (Is (.string (B ([145, u8of x.P, u8of ((k : Int) - (i : Int)), 0] ++ (zeros 28))))), (Is (.string (B (t ++ ([145, u8of x.P, u8of ((k : Int) - (i : Int)), 0] ++ (zeros 28))))))] [17] (by kernel_rfl) ((.cons rfl (.cons rfl (.cons rfl (.cons rfl (.cons rfl (.cons rfl (.cons rfl (.cons rfl (.cons rfl (.cons rfl (.cons rfl .nil)))))))))))) (by kernel_rfl) (by kernel_rfl) (by kernel_rfl) rfl (by kernel_rfl) (ds_ext (Stays.spec (.is _ (.is _ (.is _ (.is _ (.is _ (.is _ (.is _ (.is _ (.is _ (.is _ (.is _ (.is _ (.any (fun _ _ _ ⟨b_, e_, h_⟩ hx_ => ⟨b_, e_, h_.ext hx_⟩) (.is _ (.is _ (.is _ (.is _ (.nil)))))))))))))))))))) ⟨?_, ?_, ?_, ?_, ?_, ?_, ?_, ?_, ?_, ?_, ?_, ?_, ?_, ?_, ?_, ?_, ?_, trivial⟩ ?_
              · intro Q act_ wI hxI ha hp
                have xw_wI : Ext w wI := Ext.tr xw_w8 hxI
                exact h_evA (v := .string (B t)) ha rfl (e_move rfl) rfl rfl (Ext.rfl' _)
              · intro Q act_ wI hxI ha hp
                have xw_wI : Ext w wI := Ext.tr xw_w8 hxI
                exact h_evA (v := .int .u8 145) ha rfl (e_move rfl) rfl rfl (Ext.rfl' _)
              · intro Q act_ wI hxI ha hp
                have xw_wI : Ext w wI := Ext.tr xw_w8 hxI
                exact h_evA (v := .slice A l.length c) ha rfl (e_move rfl) rfl rfl (Ext.rfl' _)
              · intro Q act_ wI hxI ha hp
                have xw_wI : Ext w wI := Ext.tr xw_w8 hxI
                exact h_evA (v := .int .i64 (i : Int)) ha rfl (e_move rfl) rfl rfl (Ext.rfl' _)
              · intro Q act_ wI hxI ha hp
                have xw_wI : Ext w wI := Ext.tr xw_w8 hxI
                have ha := ha.add (show act_.tmps.getD 65 undef = .slice A l.length c from hp 2 (by kernel_rfl) (by decide))
                have ha := ha.add (show act_.tmps.getD 66 undef = .int .i64 (i : Int) from hp 3 (by kernel_rfl) (by decide))
                exact h_evA (v := .pointer (some (el A 6 (i : Int) 0))) ha rfl (e_idxEl (e := x) Try.underlying22 Try.sizeOf34 rfl rfl (hl.ext xw_wI) hx (by omega) rfl) rfl rfl (Ext.rfl' _)
              · intro Q act_ wI hxI ha hp
                have xw_wI : Ext w wI := Ext.tr xw_w8 hxI
                have ha := ha.add (show act_.tmps.getD 67 undef = .pointer (some (el A 6 (i : Int) 0)) from hp 4 (by kernel_rfl) (by decide))
                exact h_evA (v := .pointer (some (el A 6 (i : Int) 0))) ha rfl (e_fieldEl (fsz := 1) Try.underlying34 rfl Try.sizeOf3 (by decide) rfl rfl) rfl rfl (Ext.rfl' _)
              · intro Q act_ wI hxI ha hp
                have xw_wI : Ext w wI := Ext.tr xw_w8 hxI
                have ha := ha.add (show act_.tmps.getD 68 undef = .pointer (some (el A 6 (i : Int) 0)) from hp 5 (by kernel_rfl) (by decide))
                exact h_evA (v := .int .i64 x.P) ha rfl (e_ldEl (xs := l) (enc := Img.enc) (e := x) rfl (hl.ext xw_wI) hx Try.isAgg3 rfl) rfl rfl (Ext.rfl' _)
              · intro Q act_ wI hxI ha hp
                have xw_wI : Ext w wI := Ext.tr xw_w8 hxI
                have ha := ha.add (show act_.tmps.getD 69 undef = .int .i64 x.P from hp 6 (by kernel_rfl) (by decide))
                exact h_evA (v := .int .u8 ((u8of x.P).toNat)) ha rfl (e_intu8 Try.underlying3 Try.underlying5 rfl) rfl rfl (Ext.rfl' _)
              · intro Q act_ wI hxI ha hp
                have xw_wI : Ext w wI := Ext.tr xw_w8 hxI
                exact h_evA (v := .int .i64 (k : Int)) ha rfl (e_move rfl) rfl rfl (Ext.rfl' _)
              · intro Q act_ wI hxI ha hp
                have xw_wI : Ext w wI := Ext.tr xw_w8 hxI
                exact h_evA (v := .int .i64 (i : Int)) ha rfl (e_move rfl) rfl rfl (Ext.rfl' _)
              · intro Q act_ wI hxI ha hp
                have xw_wI : Ext w wI := Ext.tr xw_w8 hxI
                have ha := ha.add (show act_.tmps.getD 71 undef = .int .i64 (k : Int) from hp 8 (by kernel_rfl) (by decide))
                have ha := ha.add (show act_.tmps.getD 72 undef = .int .i64 (i : Int) from hp 9 (by kernel_rfl) (by decide))
                exact h_evA (v := .int .i64 ((k : Int) - (i : Int))) ha rfl (e_sub rfl rfl (by omega)) rfl rfl (Ext.rfl' _)
              · intro Q act_ wI hxI ha hp
                have xw_wI : Ext w wI := Ext.tr xw_w8 hxI
                have ha := ha.add (show act_.tmps.getD 73 undef = .int .i64 ((k : Int) - (i : Int)) from hp 10 (by kernel_rfl) (by decide))
                exact h_evA (v := .int .u8 ((u8of ((k : Int) - (i : Int))).toNat)) ha rfl (e_intu8 Try.underlying3 Try.underlying5 rfl) rfl rfl (Ext.rfl' _)
              · intro Q act_ wI hxI ha hp
                have xw_wI : Ext w wI := Ext.tr xw_w8 hxI
                have ha := ha.add (show act_.tmps.getD 64 undef = .int .u8 145 from hp 1 (by kernel_rfl) (by decide))
                have ha := ha.add (show act_.tmps.getD 70 undef = .int .u8 ((u8of x.P).toNat) from hp 7 (by kernel_rfl) (by decide))
                have ha := ha.add (show act_.tmps.getD 74 undef = .int .u8 ((u8of ((k : Int) - (i : Int))).toNat) from hp 11 (by kernel_rfl) (by decide))
                exact h_evA ha rfl (e_buildSlice (vs := [(0, .int .u8 145), (1, .int .u8 ((u8of x.P).toNat)), (2, .int .u8 ((u8of ((k : Int) - (i : Int))).toNat)), (3, .int .u8 0)]) (v := .slice (some ⟨wI.heap.size, 0, none⟩) 4 4) (w1 := wI.alloc (.cells ([.int .u8 145, .int .u8 ((u8of x.P).toNat), .int .u8 ((u8of ((k : Int) - (i : Int))).toNat), .int .u8 0] : List Value).toArray 5)) rfl (by kernel_rfl)) rfl ⟨_, rfl, Blk.new wI 5 [.int .u8 145, .int .u8 ((u8of x.P).toNat), .int .u8 ((u8of ((k : Int) - (i : Int))).toNat), .int .u8 0]⟩ (Ext.alloc _ _)
              · intro Q act_ wI hxI ha hp
                have xw_wI : Ext w wI := Ext.tr xw_w8 hxI
                obtain ⟨b75, e75, hb75⟩ := (show ∃ b_, act_.tmps.getD 75 undef = Value.slice (some ⟨b_, 0, none⟩) 4 4 ∧ Blk wI b_ 5 [.int .u8 145, .int .u8 ((u8of x.P).toNat), .int .u8 ((u8of ((k : Int) - (i : Int))).toNat), .int .u8 0] from hp 12 (by kernel_rfl) (by decide))
                have ha := ha.add e75
                exact h_evA (v := .string (B [145, u8of x.P, u8of ((k : Int) - (i : Int)), 0])) ha rfl (e_convr (l := _) rfl (conv_blk (s := [145, u8of x.P, u8of ((k : Int) - (i : Int)), 0]) Try.underlying35 Try.underlying5 Try.underlying9 hb75 rfl)) rfl rfl (Ext.rfl' _)
              · intro Q act_ wI hxI ha hp
                have xw_wI : Ext w wI := Ext.tr xw_w8 hxI
                exact h_callA ha ent18 rfl rfl rfl (rep0_c _ wI (by omega) (by omega)) rfl (by rintro _ w1 ⟨rfl, hR⟩; exact ⟨rfl, hR⟩)
              · intro Q act_ wI hxI ha hp
                have xw_wI : Ext w wI := Ext.tr xw_w8 hxI
                have ha := ha.add (show act_.tmps.getD 76 undef = .string (B [145, u8of x.P, u8of ((k : Int) - (i : Int)), 0]) from hp 13 (by kernel_rfl) (by decide))
                have ha := ha.add (show act_.tmps.getD 77 undef = .string (B (zeros 28)) from hp 14 (by kernel_rfl) (by decide))
                exact h_evA (v := .string (B ([145, u8of x.P, u8of ((k : Int) - (i : Int)), 0] ++ (zeros 28)))) ha rfl (e_sadd rfl rfl (by simp)) rfl rfl (Ext.rfl' _)
              · intro Q act_ wI hxI ha hp
                have xw_wI : Ext w wI := Ext.tr xw_w8 hxI
                have ha := ha.add (show act_.tmps.getD 63 undef = .string (B t) from hp 0 (by kernel_rfl) (by decide))
                have ha := ha.add (show act_.tmps.getD 78 undef = .string (B ([145, u8of x.P, u8of ((k : Int) - (i : Int)), 0] ++ (zeros 28))) from hp 15 (by kernel_rfl) (by decide))
                exact h_evA (v := .string (B (t ++ ([145, u8of x.P, u8of ((k : Int) - (i : Int)), 0] ++ (zeros 28))))) ha rfl (e_sadd rfl rfl (by have hEl := hE.length; simp; omega)) rfl rfl (Ext.rfl' _)
              intro vs_ w9 hx_w9 hvs act_ ha hv
              have xw_w9 : Ext w w9 := Ext.tr xw_w8 hx_w9
              have ha := ha.add ((hv 16 (by decide)).trans (show vs_ 16 = .string (B (t ++ ([145, u8of x.P, u8of ((k : Int) - (i : Int)), 0] ++ (zeros 28)))) from hvs 16 (by decide)))
              refine st_go ha ?_
              clear ha hv hvs
              refine st_ev (v := .string (B (t ++ ([145, u8of x.P, u8of ((k : Int) - (i : Int)), 0] ++ (zeros 28))))) rfl (e_assign rfl) ?_
              refine st_nil (nrm_k ?_)
              refine sc_block ?_
              refine sc_loop (fun m_ l_ w_ => ∃ (m : Nat) (t2 : List UInt8) (es2 : List (List UInt8)), m_ = k - m ∧ l_ = [(6, .int .i64 (m : Int)), (5, .string (B t2)), (0, .slice A l.length c), (3, .string (B ((encR l).1))), (7, .int .i64 (k : Int))] ∧ Ext w w_ ∧ (i ≤ m ∧ m ≤ k) ∧ Ents t2 es2 ∧ es2.length ≤ i + m + 1 ∧ (∀ zs, runS init (es2 ++ zs) = runF ⟨x.P, (k : Int) - (m : Int), decide (kd = 144), false, h + 1, l.take m⟩ zs)) _ [(6, .int .i64 (i : Int)), (5, .string (B _)), (0, .slice A l.length c), (3, .string (B ((encR l).1))), (7, .int .i64 (k : Int))] ⟨i, _, es ++ [secB kd x.P ((k : Int) - (i : Int))], rfl, rfl, xw_w9, ⟨⟨by omega, by omega⟩, sec_hdr hE hkd, by simp; omega, fun zs => by
                rw [List.append_assoc, hrun0]
                exact runS_inl (step_sec hkd2 hpl ⟨by omega, by omega⟩)⟩⟩ (.cons rfl (.cons rfl (.cons rfl (.cons rfl (.cons rfl (.nil)))))) ?_
              rintro j11 _ w10 ⟨m, t2, es2, rfl, rfl, xw_w10, ⟨hm, hE2, hel2, hrun2⟩⟩
              refine sc_seq ?_
              refine sc_seq ?_
              refine sc_reg ?_
              refine Go.XK.s (v := .int .i64 (m : Int)) (e_move rfl) ?_
              refine Go.XK.s (v := .int .i64 (k : Int)) (e_move rfl) ?_
              refine Go.XK.s (v := .bool (decide ((m : Int) < (k : Int)))) (e_lt rfl rfl) ?_
              refine sl_nil (nrm_k ?_)
              refine sc_ifd rfl (fun c82 => ?_) (fun c82 => ?_)
              ·
                obtain ⟨y2, hy2⟩ : ∃ y2, l[m]? = some y2 := ⟨_, List.getElem?_eq_getElem (by omega)⟩
                have hv2 := all_at hall hy2
                have hEl2 := hE2.length
                refine sc_skip (nrm_k ?_)
                refine sc_seq ?_
                refine sc_block ?_
                refine sc_reg ?_
                refine Go.XK.s (v := .string (B t2)) (e_move rfl) ?_
                refine Go.XK.s (v := .string (B ((encR l).1))) (e_move rfl) ?_
                refine Go.XK.s (v := .int .i64 (m : Int)) (e_move rfl) ?_
                refine Go.XK.s (v := .int .i64 ((64 : Int) * (m : Int))) (e_mul rfl rfl (by omega)) ?_
                refine Go.XK.s (v := .int .i64 ((32 : Int) + ((64 : Int) * (m : Int)))) (e_add rfl rfl (by omega)) ?_
                refine Go.XK.s (v := .int .i64 (m : Int)) (e_move rfl) ?_
                refine Go.XK.s (v := .int .i64 ((64 : Int) * (m : Int))) (e_mul rfl rfl (by omega)) ?_
                refine Go.XK.s (v := .int .i64 ((64 : Int) + ((64 : Int) * (m : Int)))) (e_add rfl rfl (by omega)) ?_
                refine Go.XK.s (v := .string (B (imgB y2))) (e_eqs (enc_img_at he0 hy2) (e_sslice (lo := 32 + 64 * m) (hi := 64 + 64 * m) Try.underlying9 rfl (Bd.at_ rfl (by omega)) (Bd.at_ rfl (by omega)) (by omega) (by omega))) ?_
                refine Go.XK.s (v := .string (B (t2 ++ (imgB y2)))) (e_sadd rfl rfl (by rw [imgB_length]; omega)) ?_
                refine Go.XK.s (v := .string (B (t2 ++ (imgB y2)))) (e_assign rfl) ?_
                refine sl_nil (nrm_k ?_)
                refine sc_reg ?_
                refine Go.XK.s (v := .int .i64 (m : Int)) (e_move rfl) ?_
                refine Go.XK.s (v := .int .i64 ((m : Int) + 1)) (e_add rfl rfl (by omega)) ?_
                refine Go.XK.s (v := .int .i64 ((m : Int) + 1)) (e_assign rfl) ?_
                refine sl_nil ?_
                exact nrm_loopq rfl _ _ (by omega) ⟨m + 1, _, es2 ++ [imgB y2], rfl, rfl, xw_w10, ⟨⟨by omega, by omega⟩, hE2.snoc (imgB_length y2), by simp; omega, fun zs => by
                  rw [List.append_assoc, hrun2, runF_go (by simp; omega)]
                  rw [List.singleton_append, runS_inl (by rw [step_img (by show (0 : Int) < _; omega), ← hsame m y2 (by omega) (by omega) hy2, readR_img hv2]; rfl)]
                  rw [hsame m y2 (by omega) (by omega) hy2, List.take_add_one, hy2]
                  congr 2
                  omega⟩⟩ (.cons rfl (.cons rfl (.cons rfl (.cons rfl (.cons rfl (.nil))))))
              ·
                refine sc_exit rfl ?_
                exact nrm_loopq rfl _ _ (by omega) ⟨m, t2, es2, rfl, rfl, xw_w10, ⟨⟨by omega, by omega⟩, hE2, by omega, fun hkl => ⟨x.P, h + 1, by omega, fun zs => by rw [hrun2, show (k : Int) - (m : Int) = 0 from by omega, hkind (by omega)]; exact runF_go (by simp)⟩, fun hkl zs => by rw [hrun2, show (k : Int) - (m : Int) = 0 from by omega, hkind2 (by omega), hkl, List.take_length]; exact runF_stop rfl rfl⟩⟩ (.cons rfl (.cons rfl (.cons rfl (.cons rfl (.nil)))))
            ·
              obtain ⟨kd, hkd⟩ : ∃ kd : UInt8, kd = 144 := ⟨_, rfl⟩
              have hkd2 : kd = 144 ∨ kd = 145 := .inl hkd
              have hkind : k < l.length → decide (kd = 144) = true := fun _ => by rw [hkd]; rfl
              have hkind2 : k = l.length → decide (kd = 144) = false := fun h_ => by omega
              refine sc_skip (nrm_k ?_)
              refine sc_seq ?_
              refine sc_free [(62, .bool (decide ((k : Int) = (l.length : Int)))), (61, .int .i64 (l.length : Int)), (60, .slice A l.length c), (59, .int .i64 (k : Int)), (8, .int .u8 144), (56, .bool (decide (y.P = x.P))), (7, .int .i64 (k : Int)), (0, .slice A l.length c), (3, .string (B ((encR l).1))), (5, .string (B t)), (6, .int .i64 (i : Int))] [63, 64, 65, 66, 67, 68, 69, 70, 71, 72, 73, 74, 75, 76, 77, 78, 79] [(Is (.string (B t))), (Is (.int .u8 144)), (Is (.slice A l.length c)), (Is (.int .i64 (i : Int))), (Is (.pointer (some (el A 6 (i : Int) 0)))), (Is (.pointer (some (el A 6 (i : Int) 0)))), (Is (.int .i64 x.P)), (Is (.int .u8 ((u8of x.P).toNat))), (Is (.int .i64 (k : Int))), (Is (.int .i64 (i : Int))), (Is (.int .i64 ((k : Int) - (i : Int)))), (Is (.int .u8 ((u8of ((k : Int) - (i : Int))).toNat))), (fun VV WV => ∃ b_, VV = Value.slice (some ⟨b_, 0, none⟩) 4 4 ∧ Blk WV b_ 5 [.int .u8 144, .int .u8 ((u8of x.P).toNat), .int .u8 ((u8of ((k : Int) - (i : Int))).toNat), .int .u8 0]), (Is (.string (B [144, u8of x.P, u8of ((k : Int) - (i : Int)), 0]))), (Is (.string (B (zeros 28)))), (Is (.string (B ([144, u8of x.P, u8of ((k : Int) - (i : Int)), 0] ++ (zeros 28))))), (Is (.string (B (t ++ ([144, u8of x.P, u8of ((k : Int) - (i : Int)), 0] ++ (zeros 28))))))] [17] (by kernel_rfl) (Sub.refl _) (by kernel_rfl) (by kernel_rfl) (by kernel_rfl) rfl (by kernel_rfl) (ds_ext (Stays.spec (.is _ (.is _ (.is _ (.is _ (.is _ (.is _ (.is _ (.is _ (.is _ (.is _ (.is _ (.is _ (.any (fun _ _ _ ⟨b_, e_, h_⟩ hx_ => ⟨b_, e_, h_.ext hx_⟩) (.is _ (.is _ (.is _ (.is _ (.nil)))))))))))))))))))) ⟨?_, ?_, ?_, ?_, ?_, ?_, ?_, ?_, ?_, ?_, ?_, ?_, ?_, ?_, ?_, ?_, ?_, trivial⟩ ?_
              · intro Q act_ wI hxI ha hp
                have xw_wI : Ext w wI := Ext.tr xw_w8 hxI
                exact h_evA (v := .string (B t)) ha rfl (e_move rfl) rfl rfl (Ext.rfl' _)
              · intro Q act_ wI hxI ha hp
                have xw_wI : Ext w wI := Ext.tr xw_w8 hxI
                exact h_evA (v := .int .u8 144) ha rfl (e_move rfl) rfl rfl (Ext.rfl' _)
              · intro Q act_ wI hxI ha hp
                have xw_wI : Ext w wI := Ext.tr xw_w8 hxI
                exact h_evA (v := .slice A l.length c) ha rfl (e_move rfl) rfl rfl (Ext.rfl' _)
              · intro Q act_ wI hxI ha hp
                have xw_wI : Ext w wI := Ext.tr xw_w8 hxI
                exact h_evA (v := .int .i64 (i : Int)) ha rfl (e_move rfl) rfl rfl (Ext.rfl' _)
              · intro Q act_ wI hxI ha hp
                have xw_wI : Ext w wI := Ext.tr xw_w8 hxI
                have ha := ha.add (show act_.tmps.getD 65 undef = .slice A l.length c from hp 2 (by kernel_rfl) (by decide))
                have ha := ha.add (show act_.tmps.getD 66 undef = .int .i64 (i : Int) from hp 3 (by kernel_rfl) (by decide))
                exact h_evA (v := .pointer (some (el A 6 (i : Int) 0))) ha rfl (e_idxEl (e := x) Try.underlying22 Try.sizeOf34 rfl rfl (hl.ext xw_wI) hx (by omega) rfl) rfl rfl (Ext.rfl' _)
              · intro Q act_ wI hxI ha hp
                have xw_wI : Ext w wI := Ext.tr xw_w8 hxI
                have ha := ha.add (show act_.tmps.getD 67 undef = .pointer (some (el A 6 (i : Int) 0)) from hp 4 (by kernel_rfl) (by decide))
                exact h_evA (v := .pointer (some (el A 6 (i : Int) 0))) ha rfl (e_fieldEl (fsz := 1) Try.underlying34 rfl Try.sizeOf3 (by decide) rfl rfl) rfl rfl (Ext.rfl' _)
              · intro Q act_ wI hxI ha hp
                have xw_wI : Ext w wI := Ext.tr xw_w8 hxI
                have ha := ha.add (show act_.tmps.getD 68 undef = .pointer (some (el A 6 (i : Int) 0)) from hp 5 (by kernel_rfl) (by decide))
                exact h_evA (v := .int .i64 x.P) ha rfl (e_ldEl (xs := l) (enc := Img.enc) (e := x) rfl (hl.ext xw_wI) hx Try.isAgg3 rfl) rfl rfl (Ext.rfl' _)
              · intro Q act_ wI hxI ha hp
                have xw_wI : Ext w wI := Ext.tr xw_w8 hxI
                have ha := ha.add (show act_.tmps.getD 69 undef = .int .i64 x.P from hp 6 (by kernel_rfl) (by decide))
                exact h_evA (v := .int .u8 ((u8of x.P).toNat)) ha rfl (e_intu8 Try.underlying3 Try.underlying5 rfl) rfl rfl (Ext.rfl' _)
              · intro Q act_ wI hxI ha hp
                have xw_wI : Ext w wI := Ext.tr xw_w8 hxI
                exact h_evA (v := .int .i64 (k : Int)) ha rfl (e_move rfl) rfl rfl (Ext.rfl' _)
              · intro Q act_ wI hxI ha hp
                have xw_wI : Ext w wI := Ext.tr xw_w8 hxI
                exact h_evA (v := .int .i64 (i : Int)) ha rfl (e_move rfl) rfl rfl (Ext.rfl' _)
              · intro Q act_ wI hxI ha hp
                have xw_wI : Ext w wI := Ext.tr xw_w8 hxI
                have ha := ha.add (show act_.tmps.getD 71 undef = .int .i64 (k : Int) from hp 8 (by kernel_rfl) (by decide))
                have ha := ha.add (show act_.tmps.getD 72 undef = .int .i64 (i : Int) from hp 9 (by kernel_rfl) (by decide))
                exact h_evA (v := .int .i64 ((k : Int) - (i : Int))) ha rfl (e_sub rfl rfl (by omega)) rfl rfl (Ext.rfl' _)
              · intro Q act_ wI hxI ha hp
                have xw_wI : Ext w wI := Ext.tr xw_w8 hxI
                have ha := ha.add (show act_.tmps.getD 73 undef = .int .i64 ((k : Int) - (i : Int)) from hp 10 (by kernel_rfl) (by decide))
                exact h_evA (v := .int .u8 ((u8of ((k : Int) - (i : Int))).toNat)) ha rfl (e_intu8 Try.underlying3 Try.underlying5 rfl) rfl rfl (Ext.rfl' _)
              · intro Q act_ wI hxI ha hp
                have xw_wI : Ext w wI := Ext.tr xw_w8 hxI
                have ha := ha.add (show act_.tmps.getD 64 undef = .int .u8 144 from hp 1 (by kernel_rfl) (by decide))
                have ha := ha.add (show act_.tmps.getD 70 undef = .int .u8 ((u8of x.P).toNat) from hp 7 (by kernel_rfl) (by decide))
                have ha := ha.add (show act_.tmps.getD 74 undef = .int .u8 ((u8of ((k : Int) - (i : Int))).toNat) from hp 11 (by kernel_rfl) (by decide))
                exact h_evA ha rfl (e_buildSlice (vs := [(0, .int .u8 144), (1, .int .u8 ((u8of x.P).toNat)), (2, .int .u8 ((u8of ((k : Int) - (i : Int))).toNat)), (3, .int .u8 0)]) (v := .slice (some ⟨wI.heap.size, 0, none⟩) 4 4) (w1 := wI.alloc (.cells ([.int .u8 144, .int .u8 ((u8of x.P).toNat), .int .u8 ((u8of ((k : Int) - (i : Int))).toNat), .int .u8 0] : List Value).toArray 5)) rfl (by kernel_rfl)) rfl ⟨_, rfl, Blk.new wI 5 [.int .u8 144, .int .u8 ((u8of x.P).toNat), .int .u8 ((u8of ((k : Int) - (i : Int))).toNat), .int .u8 0]⟩ (Ext.alloc _ _)
              · intro Q act_ wI hxI ha hp
                have xw_wI : Ext w wI := Ext.tr xw_w8 hxI
                obtain ⟨b75, e75, hb75⟩ := (show ∃ b_, act_.tmps.getD 75 undef = Value.slice (some ⟨b_, 0, none⟩) 4 4 ∧ Blk wI b_ 5 [.int .u8 144, .int .u8 ((u8of x.P).toNat), .int .u8 ((u8of ((k : Int) - (i : Int))).toNat), .int .u8 0] from hp 12 (by kernel_rfl) (by decide))
                have ha := ha.add e75
                exact h_evA (v := .string (B [144, u8of x.P, u8of ((k : Int) - (i : Int)), 0])) ha rfl (e_convr (l := _) rfl (conv_blk (s := [144, u8of x.P, u8of ((k : Int) - (i : Int)), 0]) Try.underlying35 Try.underlying5 Try.underlying9 hb75 rfl)) rfl rfl (Ext.rfl' _)
              · intro Q act_ wI hxI ha hp
                have xw_wI : Ext w wI := Ext.tr xw_w8 hxI
                exact h_callA ha ent18 rfl rfl rfl (rep0_c _ wI (by omega) (by omega)) rfl (by rintro _ w1 ⟨rfl, hR⟩; exact ⟨rfl, hR⟩)
              · intro Q act_ wI hxI ha hp
                have xw_wI : Ext w wI := Ext.tr xw_w8 hxI
                have ha := ha.add (show act_.tmps.getD 76 undef = .string (B [144, u8of x.P, u8of ((k : Int) - (i : Int)), 0]) from hp 13 (by kernel_rfl) (by decide))
                have ha := ha.add (show act_.tmps.getD 77 undef = .string (B (zeros 28)) from hp 14 (by kernel_rfl) (by decide))
                exact h_evA (v := .string (B ([144, u8of x.P, u8of ((k : Int) - (i : Int)), 0] ++ (zeros 28)))) ha rfl (e_sadd rfl rfl (by simp)) rfl rfl (Ext.rfl' _)
              · intro Q act_ wI hxI ha hp
                have xw_wI : Ext w wI := Ext.tr xw_w8 hxI
                have ha := ha.add (show act_.tmps.getD 63 undef = .string (B t) from hp 0 (by kernel_rfl) (by decide))
                have ha := ha.add (show act_.tmps.getD 78 undef = .string (B ([144, u8of x.P, u8of ((k : Int) - (i : Int)), 0] ++ (zeros 28))) from hp 15 (by kernel_rfl) (by decide))
                exact h_evA (v := .string (B (t ++ ([144, u8of x.P, u8of ((k : Int) - (i : Int)), 0] ++ (zeros 28))))) ha rfl (e_sadd rfl rfl (by have hEl := hE.length; simp; omega)) rfl rfl (Ext.rfl' _)
              intro vs_ w12 hx_w12 hvs act_ ha hv
              have xw_w12 : Ext w w12 := Ext.tr xw_w8 hx_w12
              have ha := ha.add ((hv 16 (by decide)).trans (show vs_ 16 = .string (B (t ++ ([144, u8of x.P, u8of ((k : Int) - (i : Int)), 0] ++ (zeros 28)))) from hvs 16 (by decide)))
              refine st_go ha ?_
              clear ha hv hvs
              refine st_ev (v := .string (B (t ++ ([144, u8of x.P, u8of ((k : Int) - (i : Int)), 0] ++ (zeros 28))))) rfl (e_assign rfl) ?_
              refine st_nil (nrm_k ?_)
              refine sc_block ?_
              refine sc_loop (fun m_ l_ w_ => ∃ (m : Nat) (t2 : List UInt8) (es2 : List (List UInt8)), m_ = k - m ∧ l_ = [(6, .int .i64 (m : Int)), (5, .string (B t2)), (0, .slice A l.length c), (3, .string (B ((encR l).1))), (7, .int .i64 (k : Int))] ∧ Ext w w_ ∧ (i ≤ m ∧ m ≤ k) ∧ Ents t2 es2 ∧ es2.length ≤ i + m + 1 ∧ (∀ zs, runS init (es2 ++ zs) = runF ⟨x.P, (k : Int) - (m : Int), decide (kd = 144), false, h + 1, l.take m⟩ zs)) _ [(6, .int .i64 (i : Int)), (5, .string (B _)), (0, .slice A l.length c), (3, .string (B ((encR l).1))), (7, .int .i64 (k : Int))] ⟨i, _, es ++ [secB kd x.P ((k : Int) - (i : Int))], rfl, rfl, xw_w12, ⟨⟨by omega, by omega⟩, sec_hdr hE hkd, by simp; omega, fun zs => by
                rw [List.append_assoc, hrun0]
                exact runS_inl (step_sec hkd2 hpl ⟨by omega, by omega⟩)⟩⟩ (.cons rfl (.cons rfl (.cons rfl (.cons rfl (.cons rfl (.nil)))))) ?_
              rintro j14 _ w13 ⟨m, t2, es2, rfl, rfl, xw_w13, ⟨hm, hE2, hel2, hrun2⟩⟩
              refine sc_seq ?_
              refine sc_seq ?_
              refine sc_reg ?_
              refine Go.XK.s (v := .int .i64 (m : Int)) (e_move rfl) ?_
              refine Go.XK.s (v := .int .i64 (k : Int)) (e_move rfl) ?_
              refine Go.XK.s (v := .bool (decide ((m : Int) < (k : Int)))) (e_lt rfl rfl) ?_
              refine sl_nil (nrm_k ?_)
              refine sc_ifd rfl (fun c82 => ?_) (fun c82 => ?_)
              ·
                obtain ⟨y2, hy2⟩ : ∃ y2, l[m]? = some y2 := ⟨_, List.getElem?_eq_getElem (by omega)⟩
                have hv2 := all_at hall hy2
                have hEl2 := hE2.length
                refine sc_skip (nrm_k ?_)
                refine sc_seq ?_
                refine sc_block ?_
                refine sc_reg ?_
                refine Go.XK.s (v := .string (B t2)) (e_move rfl) ?_
                refine Go.XK.s (v := .string (B ((encR l).1))) (e_move rfl) ?_
                refine Go.XK.s (v := .int .i64 (m : Int)) (e_move rfl) ?_
                refine Go.XK.s (v := .int .i64 ((64 : Int) * (m : Int))) (e_mul rfl rfl (by omega)) ?_
                refine Go.XK.s (v := .int .i64 ((32 : Int) + ((64 : Int) * (m : Int)))) (e_add rfl rfl (by omega)) ?_
                refine Go.XK.s (v := .int .i64 (m : Int)) (e_move rfl) ?_
                refine Go.XK.s (v := .int .i64 ((64 : Int) * (m : Int))) (e_mul rfl rfl (by omega)) ?_
                refine Go.XK.s (v := .int .i64 ((64 : Int) + ((64 : Int) * (m : Int)))) (e_add rfl rfl (by omega)) ?_
                refine Go.XK.s (v := .string (B (imgB y2))) (e_eqs (enc_img_at he0 hy2) (e_sslice (lo := 32 + 64 * m) (hi := 64 + 64 * m) Try.underlying9 rfl (Bd.at_ rfl (by omega)) (Bd.at_ rfl (by omega)) (by omega) (by omega))) ?_
                refine Go.XK.s (v := .string (B (t2 ++ (imgB y2)))) (e_sadd rfl rfl (by rw [imgB_length]; omega)) ?_
                refine Go.XK.s (v := .string (B (t2 ++ (imgB y2)))) (e_assign rfl) ?_
                refine sl_nil (nrm_k ?_)
                refine sc_reg ?_
                refine Go.XK.s (v := .int .i64 (m : Int)) (e_move rfl) ?_
                refine Go.XK.s (v := .int .i64 ((m : Int) + 1)) (e_add rfl rfl (by omega)) ?_
                refine Go.XK.s (v := .int .i64 ((m : Int) + 1)) (e_assign rfl) ?_
                refine sl_nil ?_
                exact nrm_loopq rfl _ _ (by omega) ⟨m + 1, _, es2 ++ [imgB y2], rfl, rfl, xw_w13, ⟨⟨by omega, by omega⟩, hE2.snoc (imgB_length y2), by simp; omega, fun zs => by
                  rw [List.append_assoc, hrun2, runF_go (by simp; omega)]
                  rw [List.singleton_append, runS_inl (by rw [step_img (by show (0 : Int) < _; omega), ← hsame m y2 (by omega) (by omega) hy2, readR_img hv2]; rfl)]
                  rw [hsame m y2 (by omega) (by omega) hy2, List.take_add_one, hy2]
                  congr 2
                  omega⟩⟩ (.cons rfl (.cons rfl (.cons rfl (.cons rfl (.cons rfl (.nil))))))
              ·
                refine sc_exit rfl ?_
                exact nrm_loopq rfl _ _ (by omega) ⟨m, t2, es2, rfl, rfl, xw_w13, ⟨⟨by omega, by omega⟩, hE2, by omega, fun hkl => ⟨x.P, h + 1, by omega, fun zs => by rw [hrun2, show (k : Int) - (m : Int) = 0 from by omega, hkind (by omega)]; exact runF_go (by simp)⟩, fun hkl zs => by rw [hrun2, show (k : Int) - (m : Int) = 0 from by omega, hkind2 (by omega), hkl, List.take_length]; exact runF_stop rfl rfl⟩⟩ (.cons rfl (.cons rfl (.cons rfl (.cons rfl (.nil)))))
        ·
          refine sc_free [(7, .int .i64 (k : Int)), (0, .slice A l.length c), (3, .string (B ((encR l).1))), (5, .string (B t)), (6, .int .i64 (i : Int))] [40, 41, 42, 43, 44, 45, 46, 47, 48, 49, 50, 51, 52, 53, 54, 55, 56] [(Is (.int .i64 (k : Int))), (Is (.slice A l.length c)), (Is (.int .i64 (l.length : Int))), (Is (.bool (decide ((k : Int) < (l.length : Int))))), (Is (.bool (decide ((k : Int) < (l.length : Int))))), (Is undef), (Is undef), (Is undef), (Is undef), (Is undef), (Is undef), (Is undef), (Is undef), (Is undef), (Is undef), (Is undef), (Is (.bool false))] [] (by kernel_rfl) (Sub.refl _) (by kernel_rfl) (by kernel_rfl) (by kernel_rfl) rfl (by kernel_rfl) (ds_ext (Stays.spec (.is _ (.is _ (.is _ (.is _ (.is _ (.is _ (.is _ (.is _ (.is _ (.is _ (.is _ (.is _ (.is _ (.is _ (.is _ (.is _ (.is _ (.nil)))))))))))))))))))) ⟨?_, ?_, ?_, ?_, ?_, ?_, ?_, ?_, ?_, ?_, ?_, ?_, ?_, ?_, ?_, ?_, ?_, trivial⟩ ?_
          · intro Q act_ wI hxI ha hp
            have xw_wI : Ext w wI := Ext.tr xw_w5 hxI
            exact h_evA (v := .int .i64 (k : Int)) ha rfl (e_move rfl) rfl rfl (Ext.rfl' _)
          · intro Q act_ wI hxI ha hp
            have xw_wI : Ext w wI := Ext.tr xw_w5 hxI
            exact h_evA (v := .slice A l.length c) ha rfl (e_move rfl) rfl rfl (Ext.rfl' _)
          · intro Q act_ wI hxI ha hp
            have xw_wI : Ext w wI := Ext.tr xw_w5 hxI
            have ha := ha.add (show act_.tmps.getD 41 undef = .slice A l.length c from hp 1 (by kernel_rfl) (by decide))
            exact h_evA (v := .int .i64 (l.length : Int)) ha rfl (e_len Try.underlying22 rfl) rfl rfl (Ext.rfl' _)
          · intro Q act_ wI hxI ha hp
            have xw_wI : Ext w wI := Ext.tr xw_w5 hxI
            have ha := ha.add (show act_.tmps.getD 40 undef = .int .i64 (k : Int) from hp 0 (by kernel_rfl) (by decide))
            have ha := ha.add (show act_.tmps.getD 42 undef = .int .i64 (l.length : Int) from hp 2 (by kernel_rfl) (by decide))
            exact h_evA (v := .bool (decide ((k : Int) < (l.length : Int)))) ha rfl (e_lt rfl rfl) rfl rfl (Ext.rfl' _)
          · intro Q act_ wI hxI ha hp
            have xw_wI : Ext w wI := Ext.tr xw_w5 hxI
            have ha := ha.add (show act_.tmps.getD 43 undef = .bool (decide ((k : Int) < (l.length : Int))) from hp 3 (by kernel_rfl) (by decide))
            exact h_evA (v := .bool (decide ((k : Int) < (l.length : Int)))) ha rfl (e_move rfl) rfl rfl (Ext.rfl' _)
          · intro Q act_ wI hxI ha hp
            have xw_wI : Ext w wI := Ext.tr xw_w5 hxI
            have ha := ha.add (show act_.tmps.getD 44 undef = .bool (decide ((k : Int) < (l.length : Int))) from hp 4 (by kernel_rfl) (by decide))
            exact h_gskip rfl rfl rfl (decide_eq_false g7) ha rfl rfl
          · intro Q act_ wI hxI ha hp
            have xw_wI : Ext w wI := Ext.tr xw_w5 hxI
            have ha := ha.add (show act_.tmps.getD 44 undef = .bool (decide ((k : Int) < (l.length : Int))) from hp 4 (by kernel_rfl) (by decide))
            exact h_gskip rfl rfl rfl (decide_eq_false g7) ha rfl rfl
          · intro Q act_ wI hxI ha hp
            have xw_wI : Ext w wI := Ext.tr xw_w5 hxI
            have ha := ha.add (show act_.tmps.getD 44 undef = .bool (decide ((k : Int) < (l.length : Int))) from hp 4 (by kernel_rfl) (by decide))
            have ha := ha.add (show act_.tmps.getD 45 undef = undef from hp 5 (by kernel_rfl) (by decide))
            have ha := ha.add (show act_.tmps.getD 46 undef = undef from hp 6 (by kernel_rfl) (by decide))
            exact h_gskip rfl rfl rfl (decide_eq_false g7) ha rfl rfl
          · intro Q act_ wI hxI ha hp
            have xw_wI : Ext w wI := Ext.tr xw_w5 hxI
            have ha := ha.add (show act_.tmps.getD 44 undef = .bool (decide ((k : Int) < (l.length : Int))) from hp 4 (by kernel_rfl) (by decide))
            have ha := ha.add (show act_.tmps.getD 47 undef = undef from hp 7 (by kernel_rfl) (by decide))
            exact h_gskip rfl rfl rfl (decide_eq_false g7) ha rfl rfl
          · intro Q act_ wI hxI ha hp
            have xw_wI : Ext w wI := Ext.tr xw_w5 hxI
            have ha := ha.add (show act_.tmps.getD 44 undef = .bool (decide ((k : Int) < (l.length : Int))) from hp 4 (by kernel_rfl) (by decide))
            have ha := ha.add (show act_.tmps.getD 48 undef = undef from hp 8 (by kernel_rfl) (by decide))
            exact h_gskip rfl rfl rfl (decide_eq_false g7) ha rfl rfl
          · intro Q act_ wI hxI ha hp
            have xw_wI : Ext w wI := Ext.tr xw_w5 hxI
            have ha := ha.add (show act_.tmps.getD 44 undef = .bool (decide ((k : Int) < (l.length : Int))) from hp 4 (by kernel_rfl) (by decide))
            exact h_gskip rfl rfl rfl (decide_eq_false g7) ha rfl rfl
          · intro Q act_ wI hxI ha hp
            have xw_wI : Ext w wI := Ext.tr xw_w5 hxI
            have ha := ha.add (show act_.tmps.getD 44 undef = .bool (decide ((k : Int) < (l.length : Int))) from hp 4 (by kernel_rfl) (by decide))
            exact h_gskip rfl rfl rfl (decide_eq_false g7) ha rfl rfl
          · intro Q act_ wI hxI ha hp
            have xw_wI : Ext w wI := Ext.tr xw_w5 hxI
            have ha := ha.add (show act_.tmps.getD 44 undef = .bool (decide ((k : Int) < (l.length : Int))) from hp 4 (by kernel_rfl) (by decide))
            have ha := ha.add (show act_.tmps.getD 50 undef = undef from hp 10 (by kernel_rfl) (by decide))
            have ha := ha.add (show act_.tmps.getD 51 undef = undef from hp 11 (by kernel_rfl) (by decide))
            exact h_gskip rfl rfl rfl (decide_eq_false g7) ha rfl rfl
          · intro Q act_ wI hxI ha hp
            have xw_wI : Ext w wI := Ext.tr xw_w5 hxI
            have ha := ha.add (show act_.tmps.getD 44 undef = .bool (decide ((k : Int) < (l.length : Int))) from hp 4 (by kernel_rfl) (by decide))
            have ha := ha.add (show act_.tmps.getD 52 undef = undef from hp 12 (by kernel_rfl) (by decide))
            exact h_gskip rfl rfl rfl (decide_eq_false g7) ha rfl rfl
          · intro Q act_ wI hxI ha hp
            have xw_wI : Ext w wI := Ext.tr xw_w5 hxI
            have ha := ha.add (show act_.tmps.getD 44 undef = .bool (decide ((k : Int) < (l.length : Int))) from hp 4 (by kernel_rfl) (by decide))
            have ha := ha.add (show act_.tmps.getD 53 undef = undef from hp 13 (by kernel_rfl) (by decide))
            exact h_gskip rfl rfl rfl (decide_eq_false g7) ha rfl rfl
          · intro Q act_ wI hxI ha hp
            have xw_wI : Ext w wI := Ext.tr xw_w5 hxI
            have ha := ha.add (show act_.tmps.getD 44 undef = .bool (decide ((k : Int) < (l.length : Int))) from hp 4 (by kernel_rfl) (by decide))
            have ha := ha.add (show act_.tmps.getD 49 undef = undef from hp 9 (by kernel_rfl) (by decide))
            have ha := ha.add (show act_.tmps.getD 54 undef = undef from hp 14 (by kernel_rfl) (by decide))
            exact h_gskip rfl rfl rfl (decide_eq_false g7) ha rfl rfl
          · intro Q act_ wI hxI ha hp
            have xw_wI : Ext w wI := Ext.tr xw_w5 hxI
            have ha := ha.add (show act_.tmps.getD 44 undef = .bool (decide ((k : Int) < (l.length : Int))) from hp 4 (by kernel_rfl) (by decide))
            have ha := ha.add (show act_.tmps.getD 55 undef = undef from hp 15 (by kernel_rfl) (by decide))
            exact h_evA (v := .bool false) ha rfl (e_pickF rfl (decide_eq_false g7) rfl) rfl rfl (Ext.rfl' _)
          intro vs_ w15 hx_w15 hvs act_ ha hv
          have xw_w15 : Ext w w15 := Ext.tr xw_w5 hx_w15
          have ha := ha.add ((hv 16 (by decide)).trans (show vs_ 16 = .bool false from hvs 16 (by decide)))
          refine st_go ha ?_
          clear ha hv hvs
          refine st_nil (nrm_k ?_)
          refine sc_no rfl rfl ?_
          refine sc_exit rfl (nrm_k ?_)
          refine sc_seq ?_
          have hki : i + 1 ≤ k := by
            first
              | omega
              | (rcases Nat.lt_or_ge i k with h_ | h_
                 · exact h_
                 · have he_ : k = i := by omega
                   subst he_
                   rw [hx] at hy
                   exact absurd (by rw [Option.some.inj (hy (by omega))]) c56)
          refine sc_reg ?_
          refine Go.XK.s (v := .int .u8 144) (e_assign rfl) ?_
          refine sl_nil (nrm_k ?_)
          refine sc_seq ?_
          refine sc_seq ?_
          refine sc_reg ?_
          refine Go.XK.s (v := .int .i64 (k : Int)) (e_move rfl) ?_
          refine Go.XK.s (v := .slice A l.length c) (e_move rfl) ?_
          refine Go.XK.s (v := .int .i64 (l.length : Int)) (e_len Try.underlying22 rfl) ?_
          refine Go.XK.s (v := .bool (decide ((k : Int) = (l.length : Int)))) (e_eq rfl rfl) ?_
          refine sl_nil (nrm_k ?_)
          refine sc_ifd rfl (fun c62 => ?_) (fun c62 => ?_)
          ·
            obtain ⟨kd, hkd⟩ : ∃ kd : UInt8, kd = 145 := ⟨_, rfl⟩
            have hkd2 : kd = 144 ∨ kd = 145 := .inr hkd
            have hkind : k < l.length → decide (kd = 144) = true := fun h_ => by omega
            have hkind2 : k = l.length → decide (kd = 144) = false := fun _ => by rw [hkd]; rfl
            refine sc_reg ?_
            refine Go.XK.s (v := .int .u8 145) (e_assign rfl) ?_
            refine sl_nil (nrm_k ?_)
            refine sc_seq ?_
            refine sc_free [(8, .int .u8 145), (62, .bool (decide ((k : Int) = (l.length : Int)))), (61, .int .i64 (l.length : Int)), (60, .slice A l.length c), (59, .int .i64 (k : Int)), (56, .bool false), (7, .int .i64 (k : Int)), (0, .slice A l.length c), (3, .string (B ((encR l).1))), (5, .string (B t)), (6, .int .i64 (i : Int))] [63, 64, 65, 66, 67, 68, 69, 70, 71, 72, 73, 74, 75, 76, 77, 78, 79] [(Is (.string (B t))), (Is (.int .u8 145)), (Is (.slice A l.length c)), (Is (.int .i64 (i : Int))), (Is (.pointer (some (el A 6 (i : Int) 0)))), (Is (.pointer (some (el A 6 (i : Int) 0)))), (Is (.int .i64 x.P)), (Is (.int .u8 ((u8of x.P).toNat))), (Is (.int .i64 (k : Int))), (Is (.int .i64 (i : Int))), (Is (.int .i64 ((k : Int) - (i : Int)))), (Is (.int .u8 ((u8of ((k : Int) - (i : Int))).toNat))), (fun VV WV => ∃ b_, VV = Value.slice (some ⟨b_, 0, none⟩) 4 4 ∧ Blk WV b_ 5 [.int .u8 145, .int .u8 ((u8of x.P).toNat), .int .u8 ((u8of ((k : Int) - (i : Int))).toNat), .int .u8 0]), (Is (.string (B [145, u8of x.P, u8of ((k : Int) - (i : Int)), 0]))), (Is (.string (B (zeros 28)))), (Is (.string (B ([145, u8of x.P, u8of ((k : Int) - (i : Int)), 0] ++ (zeros 28))))), (Is (.string (B (t ++ ([145, u8of x.P, u8of ((k : Int) - (i : Int)), 0] ++ (zeros 28))))))] [17] (by kernel_rfl) ((.cons rfl (.cons rfl (.cons rfl (.cons rfl (.cons rfl (.cons rfl (.cons rfl (.cons rfl (.cons rfl (.cons rfl (.cons rfl .nil)))))))))))) (by kernel_rfl) (by kernel_rfl) (by kernel_rfl) rfl (by kernel_rfl) (ds_ext (Stays.spec (.is _ (.is _ (.is _ (.is _ (.is _ (.is _ (.is _ (.is _ (.is _ (.is _ (.is _ (.is _ (.any (fun _ _ _ ⟨b_, e_, h_⟩ hx_ => ⟨b_, e_, h_.ext hx_⟩) (.is _ (.is _ (.is _ (.is _ (.nil)))))))))))))))))))) ⟨?_, ?_, ?_, ?_, ?_, ?_, ?_, ?_, ?_, ?_, ?_, ?_, ?_, ?_, ?_, ?_, ?_, trivial⟩ ?_
            · intro Q act_ wI hxI ha hp
              have xw_wI : Ext w wI := Ext.tr xw_w15 hxI
              exact h_evA (v := .string (B t)) ha rfl (e_move rfl) rfl rfl (Ext.rfl' _)
            · intro Q act_ wI hxI ha hp
              have xw_wI : Ext w wI := Ext.tr xw_w15 hxI
              exact h_evA (v := .int .u8 145) ha rfl (e_move rfl) rfl rfl (Ext.rfl' _)
            · intro Q act_ wI hxI ha hp
              have xw_wI : Ext w wI := Ext.tr xw_w15 hxI
              exact h_evA (v := .slice A l.length c) ha rfl (e_move rfl) rfl rfl (Ext.rfl' _)
            · intro Q act_ wI hxI ha hp
              have xw_wI : Ext w wI := Ext.tr xw_w15 hxI
              exact h_evA (v := .int .i64 (i : Int)) ha rfl (e_move rfl) rfl rfl (Ext.rfl' _)
            · intro Q act_ wI hxI ha hp
              have xw_wI : Ext w wI := Ext.tr xw_w15 hxI
              have ha := ha.add (show act_.tmps.getD 65 undef = .slice A l.length c from hp 2 (by kernel_rfl) (by decide))
              have ha := ha.add (show act_.tmps.getD 66 undef = .int .i64 (i : Int) from hp 3 (by kernel_rfl) (by decide))
              exact h_evA (v := .pointer (some (el A 6 (i : Int) 0))) ha rfl (e_idxEl (e := x) Try.underlying22 Try.sizeOf34 rfl rfl (hl.ext xw_wI) hx (by omega) rfl) rfl rfl (Ext.rfl' _)
            · intro Q act_ wI hxI ha hp
              have xw_wI : Ext w wI := Ext.tr xw_w15 hxI
              have ha := ha.add (show act_.tmps.getD 67 undef = .pointer (some (el A 6 (i : Int) 0)) from hp 4 (by kernel_rfl) (by decide))
              exact h_evA (v := .pointer (some (el A 6 (i : Int) 0))) ha rfl (e_fieldEl (fsz := 1) Try.underlying34 rfl Try.sizeOf3 (by decide) rfl rfl) rfl rfl (Ext.rfl' _)
            · intro Q act_ wI hxI ha hp
              have xw_wI : Ext w wI := Ext.tr xw_w15 hxI
              have ha := ha.add (show act_.tmps.getD 68 undef = .pointer (some (el A 6 (i : Int) 0)) from hp 5 (by kernel_rfl) (by decide))
              exact h_evA (v := .int .i64 x.P) ha rfl (e_ldEl (xs := l) (enc := Img.enc) (e := x) rfl (hl.ext xw_wI) hx Try.isAgg3 rfl) rfl rfl (Ext.rfl' _)
            · intro Q act_ wI hxI ha hp
              have xw_wI : Ext w wI := Ext.tr xw_w15 hxI
              have ha := ha.add (show act_.tmps.getD 69 undef = .int .i64 x.P from hp 6 (by kernel_rfl) (by decide))
              exact h_evA (v := .int .u8 ((u8of x.P).toNat)) ha rfl (e_intu8 Try.underlying3 Try.underlying5 rfl) rfl rfl (Ext.rfl' _)
            · intro Q act_ wI hxI ha hp
              have xw_wI : Ext w wI := Ext.tr xw_w15 hxI
              exact h_evA (v := .int .i64 (k : Int)) ha rfl (e_move rfl) rfl rfl (Ext.rfl' _)
            · intro Q act_ wI hxI ha hp
              have xw_wI : Ext w wI := Ext.tr xw_w15 hxI
              exact h_evA (v := .int .i64 (i : Int)) ha rfl (e_move rfl) rfl rfl (Ext.rfl' _)
            · intro Q act_ wI hxI ha hp
              have xw_wI : Ext w wI := Ext.tr xw_w15 hxI
              have ha := ha.add (show act_.tmps.getD 71 undef = .int .i64 (k : Int) from hp 8 (by kernel_rfl) (by decide))
              have ha := ha.add (show act_.tmps.getD 72 undef = .int .i64 (i : Int) from hp 9 (by kernel_rfl) (by decide))
              exact h_evA (v := .int .i64 ((k : Int) - (i : Int))) ha rfl (e_sub rfl rfl (by omega)) rfl rfl (Ext.rfl' _)
            · intro Q act_ wI hxI ha hp
              have xw_wI : Ext w wI := Ext.tr xw_w15 hxI
              have ha := ha.add (show act_.tmps.getD 73 undef = .int .i64 ((k : Int) - (i : Int)) from hp 10 (by kernel_rfl) (by decide))
              exact h_evA (v := .int .u8 ((u8of ((k : Int) - (i : Int))).toNat)) ha rfl (e_intu8 Try.underlying3 Try.underlying5 rfl) rfl rfl (Ext.rfl' _)
            · intro Q act_ wI hxI ha hp
              have xw_wI : Ext w wI := Ext.tr xw_w15 hxI
              have ha := ha.add (show act_.tmps.getD 64 undef = .int .u8 145 from hp 1 (by kernel_rfl) (by decide))
              have ha := ha.add (show act_.tmps.getD 70 undef = .int .u8 ((u8of x.P).toNat) from hp 7 (by kernel_rfl) (by decide))
              have ha := ha.add (show act_.tmps.getD 74 undef = .int .u8 ((u8of ((k : Int) - (i : Int))).toNat) from hp 11 (by kernel_rfl) (by decide))
              exact h_evA ha rfl (e_buildSlice (vs := [(0, .int .u8 145), (1, .int .u8 ((u8of x.P).toNat)), (2, .int .u8 ((u8of ((k : Int) - (i : Int))).toNat)), (3, .int .u8 0)]) (v := .slice (some ⟨wI.heap.size, 0, none⟩) 4 4) (w1 := wI.alloc (.cells ([.int .u8 145, .int .u8 ((u8of x.P).toNat), .int .u8 ((u8of ((k : Int) - (i : Int))).toNat), .int .u8 0] : List Value).toArray 5)) rfl (by kernel_rfl)) rfl ⟨_, rfl, Blk.new wI 5 [.int .u8 145, .int .u8 ((u8of x.P).toNat), .int .u8 ((u8of ((k : Int) - (i : Int))).toNat), .int .u8 0]⟩ (Ext.alloc _ _)
            · intro Q act_ wI hxI ha hp
              have xw_wI : Ext w wI := Ext.tr xw_w15 hxI
              obtain ⟨b75, e75, hb75⟩ := (show ∃ b_, act_.tmps.getD 75 undef = Value.slice (some ⟨b_, 0, none⟩) 4 4 ∧ Blk wI b_ 5 [.int .u8 145, .int .u8 ((u8of x.P).toNat), .int .u8 ((u8of ((k : Int) - (i : Int))).toNat), .int .u8 0] from hp 12 (by kernel_rfl) (by decide))
              have ha := ha.add e75
              exact h_evA (v := .string (B [145, u8of x.P, u8of ((k : Int) - (i : Int)), 0])) ha rfl (e_convr (l := _) rfl (conv_blk (s := [145, u8of x.P, u8of ((k : Int) - (i : Int)), 0]) Try.underlying35 Try.underlying5 Try.underlying9 hb75 rfl)) rfl rfl (Ext.rfl' _)
            · intro Q act_ wI hxI ha hp
              have xw_wI : Ext w wI := Ext.tr xw_w15 hxI
              exact h_callA ha ent18 rfl rfl rfl (rep0_c _ wI (by omega) (by omega)) rfl (by rintro _ w1 ⟨rfl, hR⟩; exact ⟨rfl, hR⟩)
            · intro Q act_ wI hxI ha hp
              have xw_wI : Ext w wI := Ext.tr xw_w15 hxI
              have ha := ha.add (show act_.tmps.getD 76 undef = .string (B [145, u8of x.P, u8of ((k : Int) - (i : Int)), 0]) from hp 13 (by kernel_rfl) (by decide))
              have ha := ha.add (show act_.tmps.getD 77 undef = .string (B (zeros 28)) from hp 14 (by kernel_rfl) (by decide))
              exact h_evA (v := .string (B ([145, u8of x.P, u8of ((k : Int) - (i : Int)), 0] ++ (zeros 28)))) ha rfl (e_sadd rfl rfl (by simp)) rfl rfl (Ext.rfl' _)
            · intro Q act_ wI hxI ha hp
              have xw_wI : Ext w wI := Ext.tr xw_w15 hxI
              have ha := ha.add (show act_.tmps.getD 63 undef = .string (B t) from hp 0 (by kernel_rfl) (by decide))
              have ha := ha.add (show act_.tmps.getD 78 undef = .string (B ([145, u8of x.P, u8of ((k : Int) - (i : Int)), 0] ++ (zeros 28))) from hp 15 (by kernel_rfl) (by decide))
              exact h_evA (v := .string (B (t ++ ([145, u8of x.P, u8of ((k : Int) - (i : Int)), 0] ++ (zeros 28))))) ha rfl (e_sadd rfl rfl (by have hEl := hE.length; simp; omega)) rfl rfl (Ext.rfl' _)
            intro vs_ w16 hx_w16 hvs act_ ha hv
            have xw_w16 : Ext w w16 := Ext.tr xw_w15 hx_w16
            have ha := ha.add ((hv 16 (by decide)).trans (show vs_ 16 = .string (B (t ++ ([145, u8of x.P, u8of ((k : Int) - (i : Int)), 0] ++ (zeros 28)))) from hvs 16 (by decide)))
            refine st_go ha ?_
            clear ha hv hvs
            refine st_ev (v := .string (B (t ++ ([145, u8of x.P, u8of ((k : Int) - (i : Int)), 0] ++ (zeros 28))))) rfl (e_assign rfl) ?_
            refine st_nil (nrm_k ?_)
            refine sc_block ?_
            refine sc_loop (fun m_ l_ w_ => ∃ (m : Nat) (t2 : List UInt8) (es2 : List (List UInt8)), m_ = k - m ∧ l_ = [(6, .int .i64 (m : Int)), (5, .string (B t2)), (0, .slice A l.length c), (3, .string (B ((encR l).1))), (7, .int .i64 (k : Int))] ∧ Ext w w_ ∧ (i ≤ m ∧ m ≤ k) ∧ Ents t2 es2 ∧ es2.length ≤ i + m + 1 ∧ (∀ zs, runS init (es2 ++ zs) = runF ⟨x.P, (k : Int) - (m : Int), decide (kd = 144), false, h + 1, l.take m⟩ zs)) _ [(6, .int .i64 (i : Int)), (5, .string (B _)), (0, .slice A l.length c), (3, .string (B ((encR l).1))), (7, .int .i64 (k : Int))] ⟨i, _, es ++ [secB kd x.P ((k : Int) - (i : Int))], rfl, rfl, xw_w16, ⟨⟨by omega, by omega⟩, sec_hdr hE hkd, by simp; omega, fun zs => by
              rw [List.append_assoc, hrun0]
              exact runS_inl (step_sec hkd2 hpl ⟨by omega, by omega⟩)⟩⟩ (.cons rfl (.cons rfl (.cons rfl (.cons rfl (.cons rfl (.nil)))))) ?_
            rintro j18 _ w17 ⟨m, t2, es2, rfl, rfl, xw_w17, ⟨hm, hE2, hel2, hrun2⟩⟩
            refine sc_seq ?_
            refine sc_seq ?_
            refine sc_reg ?_
            refine Go.XK.s (v := .int .i64 (m : Int)) (e_move rfl) ?_
            refine Go.XK.s (v := .int .i64 (k : Int)) (e_move rfl) ?_
            refine Go.XK.s (v := .bool (decide ((m : Int) < (k : Int)))) (e_lt rfl rfl) ?_
            refine sl_nil (nrm_k ?_)
            refine sc_ifd rfl (fun c82 => ?_) (fun c82 => ?_)
            ·
              obtain ⟨y2, hy2⟩ : ∃ y2, l[m]? = some y2 := ⟨_, List.getElem?_eq_getElem (by omega)⟩
              have hv2 := all_at hall hy2
              have hEl2 := hE2.length
              refine sc_skip (nrm_k ?_)
              refine sc_seq ?_
              refine sc_block ?_
              refine sc_reg ?_
              refine Go.XK.s (v := .string (B t2)) (e_move rfl) ?_
              refine Go.XK.s (v := .string (B ((encR l).1))) (e_move rfl) ?_
              refine Go.XK.s (v := .int .i64 (m : Int)) (e_move rfl) ?_
              refine Go.XK.s (v := .int .i64 ((64 : Int) * (m : Int))) (e_mul rfl rfl (by omega)) ?_
              refine Go.XK.s (v := .int .i64 ((32 : Int) + ((64 : Int) * (m : Int)))) (e_add rfl rfl (by omega)) ?_
              refine Go.XK.s (v := .int .i64 (m : Int)) (e_move rfl) ?_
              refine Go.XK.s (v := .int .i64 ((64 : Int) * (m : Int))) (e_mul rfl rfl (by omega)) ?_
              refine Go.XK.s (v := .int .i64 ((64 : Int) + ((64 : Int) * (m : Int)))) (e_add rfl rfl (by omega)) ?_
              refine Go.XK.s (v := .string (B (imgB y2))) (e_eqs (enc_img_at he0 hy2) (e_sslice (lo := 32 + 64 * m) (hi := 64 + 64 * m) Try.underlying9 rfl (Bd.at_ rfl (by omega)) (Bd.at_ rfl (by omega)) (by omega) (by omega))) ?_
              refine Go.XK.s (v := .string (B (t2 ++ (imgB y2)))) (e_sadd rfl rfl (by rw [imgB_length]; omega)) ?_
              refine Go.XK.s (v := .string (B (t2 ++ (imgB y2)))) (e_assign rfl) ?_
              refine sl_nil (nrm_k ?_)
              refine sc_reg ?_
              refine Go.XK.s (v := .int .i64 (m : Int)) (e_move rfl) ?_
              refine Go.XK.s (v := .int .i64 ((m : Int) + 1)) (e_add rfl rfl (by omega)) ?_
              refine Go.XK.s (v := .int .i64 ((m : Int) + 1)) (e_assign rfl) ?_
              refine sl_nil ?_
              exact nrm_loopq rfl _ _ (by omega) ⟨m + 1, _, es2 ++ [imgB y2], rfl, rfl, xw_w17, ⟨⟨by omega, by omega⟩, hE2.snoc (imgB_length y2), by simp; omega, fun zs => by
                rw [List.append_assoc, hrun2, runF_go (by simp; omega)]
                rw [List.singleton_append, runS_inl (by rw [step_img (by show (0 : Int) < _; omega), ← hsame m y2 (by omega) (by omega) hy2, readR_img hv2]; rfl)]
                rw [hsame m y2 (by omega) (by omega) hy2, List.take_add_one, hy2]
                congr 2
                omega⟩⟩ (.cons rfl (.cons rfl (.cons rfl (.cons rfl (.cons rfl (.nil))))))
            ·
              refine sc_exit rfl ?_
              exact nrm_loopq rfl _ _ (by omega) ⟨m, t2, es2, rfl, rfl, xw_w17, ⟨⟨by omega, by omega⟩, hE2, by omega, fun hkl => ⟨x.P, h + 1, by omega, fun zs => by rw [hrun2, show (k : Int) - (m : Int) = 0 from by omega, hkind (by omega)]; exact runF_go (by simp)⟩, fun hkl zs => by rw [hrun2, show (k : Int) - (m : Int) = 0 from by omega, hkind2 (by omega), hkl, List.take_length]; exact runF_stop rfl rfl⟩⟩ (.cons rfl (.cons rfl (.cons rfl (.cons rfl (.nil)))))
          ·
            obtain ⟨kd, hkd⟩ : ∃ kd : UInt8, kd = 144 := ⟨_, rfl⟩
            have hkd2 : kd = 144 ∨ kd = 145 := .inl hkd
            have hkind : k < l.length → decide (kd = 144) = true := fun _ => by rw [hkd]; rfl
            have hkind2 : k = l.length → decide (kd = 144) = false := fun h_ => by omega
            refine sc_skip (nrm_k ?_)
            refine sc_seq ?_
            refine sc_free [(62, .bool (decide ((k : Int) = (l.length : Int)))), (61, .int .i64 (l.length : Int)), (60, .slice A l.length c), (59, .int .i64 (k : Int)), (8, .int .u8 144), (56, .bool false), (7, .int .i64 (k : Int)), (0, .slice A l.length c), (3, .string (B ((encR l).1))), (5, .string (B t)), (6, .int .i64 (i : Int))] [63, 64, 65, 66, 67, 68, 69, 70, 71, 72, 73, 74, 75, 76, 77, 78, 79] [(Is (.string (B t))), (Is (.int .u8 144)), (Is (.slice A l.length c)), (Is (.int .i64 (i : Int))), (Is (.pointer (some (el A 6 (i : Int) 0)))), (Is (.pointer (some (el A 6 (i : Int) 0)))), (Is (.int .i64 x.P)), (Is (.int .u8 ((u8of x.P).toNat))), (Is (.int .i64 (k : Int))), (Is (.int .i64 (i : Int))), (Is (.int .i64 ((k : Int) - (i : Int)))), (Is (.int .u8 ((u8of ((k : Int) - (i : Int))).toNat))), (fun VV WV => ∃ b_, VV = Value.slice (some ⟨b_, 0, none⟩) 4 4 ∧ Blk WV b_ 5 [.int .u8 144, .int .u8 ((u8of x.P).toNat), .int .u8 ((u8of ((k : Int) - (i : Int))).toNat), .int .u8 0]), (Is (.string (B [144, u8of x.P, u8of ((k : Int) - (i : Int)), 0]))), (Is (.string (B (zeros 28)))), (Is (.string (B ([144, u8of x.P, u8of ((k : Int) - (i : Int)), 0] ++ (zeros 28))))), (Is (.string (B (t ++ ([144, u8of x.P, u8of ((k : Int) - (i : Int)), 0] ++ (zeros 28))))))] [17] (by kernel_rfl) (Sub.refl _) (by kernel_rfl) (by kernel_rfl) (by kernel_rfl) rfl (by kernel_rfl) (ds_ext (Stays.spec (.is _ (.is _ (.is _ (.is _ (.is _ (.is _ (.is _ (.is _ (.is _ (.is _ (.is _ (.is _ (.any (fun _ _ _ ⟨b_, e_, h_⟩ hx_ => ⟨b_, e_, h_.ext hx_⟩) (.is _ (.is _ (.is _ (.is _ (.nil)))))))))))))))))))) ⟨?_, ?_, ?_, ?_, ?_, ?_, ?_, ?_, ?_, ?_, ?_, ?_, ?_, ?_, ?_, ?_, ?_, trivial⟩ ?_
            · intro Q act_ wI hxI ha hp
              have xw_wI : Ext w wI := Ext.tr xw_w15 hxI
              exact h_evA (v := .string (B t)) ha rfl (e_move rfl) rfl rfl (Ext.rfl' _)
            · intro Q act_ wI hxI ha hp
              have xw_wI : Ext w wI := Ext.tr xw_w15 hxI
              exact h_evA (v := .int .u8 144) ha rfl (e_move rfl) rfl rfl (Ext.rfl' _)
            · intro Q act_ wI hxI ha hp
              have xw_wI : Ext w wI := Ext.tr xw_w15 hxI
              exact h_evA (v := .slice A l.length c) ha rfl (e_move rfl) rfl rfl (Ext.rfl' _)
            · intro Q act_ wI hxI ha hp
              have xw_wI : Ext w wI := Ext.tr xw_w15 hxI
              exact h_evA (v := .int .i64 (i : Int)) ha rfl (e_move rfl) rfl rfl (Ext.rfl' _)
            · intro Q act_ wI hxI ha hp
              have xw_wI : Ext w wI := Ext.tr xw_w15 hxI
              have ha := ha.add (show act_.tmps.getD 65 undef = .slice A l.length c from hp 2 (by kernel_rfl) (by decide))
              have ha := ha.add (show act_.tmps.getD 66 undef = .int .i64 (i : Int) from hp 3 (by kernel_rfl) (by decide))
              exact h_evA (v := .pointer (some (el A 6 (i : Int) 0))) ha rfl (e_idxEl (e := x) Try.underlying22 Try.sizeOf34 rfl rfl (hl.ext xw_wI) hx (by omega) rfl) rfl rfl (Ext.rfl' _)
            · intro Q act_ wI hxI ha hp
              have xw_wI : Ext w wI := Ext.tr xw_w15 hxI
              have ha := ha.add (show act_.tmps.getD 67 undef = .pointer (some (el A 6 (i : Int) 0)) from hp 4 (by kernel_rfl) (by decide))
              exact h_evA (v := .pointer (some (el A 6 (i : Int) 0))) ha rfl (e_fieldEl (fsz := 1) Try.underlying34 rfl Try.sizeOf3 (by decide) rfl rfl) rfl rfl (Ext.rfl' _)
            · intro Q act_ wI hxI ha hp
              have xw_wI : Ext w wI := Ext.tr xw_w15 hxI
              have ha := ha.add (show act_.tmps.getD 68 undef = .pointer (some (el A 6 (i : Int) 0)) from hp 5 (by kernel_rfl) (by decide))
              exact h_evA (v := .int .i64 x.P) ha rfl (e_ldEl (xs := l) (enc := Img.enc) (e := x) rfl (hl.ext xw_wI) hx Try.isAgg3 rfl) rfl rfl (Ext.rfl' _)
            · intro Q act_ wI hxI ha hp
              have xw_wI : Ext w wI := Ext.tr xw_w15 hxI
              have ha := ha.add (show act_.tmps.getD 69 undef = .int .i64 x.P from hp 6 (by kernel_rfl) (by decide))
              exact h_evA (v := .int .u8 ((u8of x.P).toNat)) ha rfl (e_intu8 Try.underlying3 Try.underlying5 rfl) rfl rfl (Ext.rfl' _)
            · intro Q act_ wI hxI ha hp
              have xw_wI : Ext w wI := Ext.tr xw_w15 hxI
              exact h_evA (v := .int .i64 (k : Int)) ha rfl (e_move rfl) rfl rfl (Ext.rfl' _)
            · intro Q act_ wI hxI ha hp
              have xw_wI : Ext w wI := Ext.tr xw_w15 hxI
              exact h_evA (v := .int .i64 (i : Int)) ha rfl (e_move rfl) rfl rfl (Ext.rfl' _)
            · intro Q act_ wI hxI ha hp
              have xw_wI : Ext w wI := Ext.tr xw_w15 hxI
              have ha := ha.add (show act_.tmps.getD 71 undef = .int .i64 (k : Int) from hp 8 (by kernel_rfl) (by decide))
              have ha := ha.add (show act_.tmps.getD 72 undef = .int .i64 (i : Int) from hp 9 (by kernel_rfl) (by decide))
              exact h_evA (v := .int .i64 ((k : Int) - (i : Int))) ha rfl (e_sub rfl rfl (by omega)) rfl rfl (Ext.rfl' _)
            · intro Q act_ wI hxI ha hp
              have xw_wI : Ext w wI := Ext.tr xw_w15 hxI
              have ha := ha.add (show act_.tmps.getD 73 undef = .int .i64 ((k : Int) - (i : Int)) from hp 10 (by kernel_rfl) (by decide))
              exact h_evA (v := .int .u8 ((u8of ((k : Int) - (i : Int))).toNat)) ha rfl (e_intu8 Try.underlying3 Try.underlying5 rfl) rfl rfl (Ext.rfl' _)
            · intro Q act_ wI hxI ha hp
              have xw_wI : Ext w wI := Ext.tr xw_w15 hxI
              have ha := ha.add (show act_.tmps.getD 64 undef = .int .u8 144 from hp 1 (by kernel_rfl) (by decide))
              have ha := ha.add (show act_.tmps.getD 70 undef = .int .u8 ((u8of x.P).toNat) from hp 7 (by kernel_rfl) (by decide))
              have ha := ha.add (show act_.tmps.getD 74 undef = .int .u8 ((u8of ((k : Int) - (i : Int))).toNat) from hp 11 (by kernel_rfl) (by decide))
              exact h_evA ha rfl (e_buildSlice (vs := [(0, .int .u8 144), (1, .int .u8 ((u8of x.P).toNat)), (2, .int .u8 ((u8of ((k : Int) - (i : Int))).toNat)), (3, .int .u8 0)]) (v := .slice (some ⟨wI.heap.size, 0, none⟩) 4 4) (w1 := wI.alloc (.cells ([.int .u8 144, .int .u8 ((u8of x.P).toNat), .int .u8 ((u8of ((k : Int) - (i : Int))).toNat), .int .u8 0] : List Value).toArray 5)) rfl (by kernel_rfl)) rfl ⟨_, rfl, Blk.new wI 5 [.int .u8 144, .int .u8 ((u8of x.P).toNat), .int .u8 ((u8of ((k : Int) - (i : Int))).toNat), .int .u8 0]⟩ (Ext.alloc _ _)
            · intro Q act_ wI hxI ha hp
              have xw_wI : Ext w wI := Ext.tr xw_w15 hxI
              obtain ⟨b75, e75, hb75⟩ := (show ∃ b_, act_.tmps.getD 75 undef = Value.slice (some ⟨b_, 0, none⟩) 4 4 ∧ Blk wI b_ 5 [.int .u8 144, .int .u8 ((u8of x.P).toNat), .int .u8 ((u8of ((k : Int) - (i : Int))).toNat), .int .u8 0] from hp 12 (by kernel_rfl) (by decide))
              have ha := ha.add e75
              exact h_evA (v := .string (B [144, u8of x.P, u8of ((k : Int) - (i : Int)), 0])) ha rfl (e_convr (l := _) rfl (conv_blk (s := [144, u8of x.P, u8of ((k : Int) - (i : Int)), 0]) Try.underlying35 Try.underlying5 Try.underlying9 hb75 rfl)) rfl rfl (Ext.rfl' _)
            · intro Q act_ wI hxI ha hp
              have xw_wI : Ext w wI := Ext.tr xw_w15 hxI
              exact h_callA ha ent18 rfl rfl rfl (rep0_c _ wI (by omega) (by omega)) rfl (by rintro _ w1 ⟨rfl, hR⟩; exact ⟨rfl, hR⟩)
            · intro Q act_ wI hxI ha hp
              have xw_wI : Ext w wI := Ext.tr xw_w15 hxI
              have ha := ha.add (show act_.tmps.getD 76 undef = .string (B [144, u8of x.P, u8of ((k : Int) - (i : Int)), 0]) from hp 13 (by kernel_rfl) (by decide))
              have ha := ha.add (show act_.tmps.getD 77 undef = .string (B (zeros 28)) from hp 14 (by kernel_rfl) (by decide))
              exact h_evA (v := .string (B ([144, u8of x.P, u8of ((k : Int) - (i : Int)), 0] ++ (zeros 28)))) ha rfl (e_sadd rfl rfl (by simp)) rfl rfl (Ext.rfl' _)
            · intro Q act_ wI hxI ha hp
              have xw_wI : Ext w wI := Ext.tr xw_w15 hxI
              have ha := ha.add (show act_.tmps.getD 63 undef = .string (B t) from hp 0 (by kernel_rfl) (by decide))
              have ha := ha.add (show act_.tmps.getD 78 undef = .string (B ([144, u8of x.P, u8of ((k : Int) - (i : Int)), 0] ++ (zeros 28))) from hp 15 (by kernel_rfl) (by decide))
              exact h_evA (v := .string (B (t ++ ([144, u8of x.P, u8of ((k : Int) - (i : Int)), 0] ++ (zeros 28))))) ha rfl (e_sadd rfl rfl (by have hEl := hE.length; simp; omega)) rfl rfl (Ext.rfl' _)
            intro vs_ w19 hx_w19 hvs act_ ha hv
            have xw_w19 : Ext w w19 := Ext.tr xw_w15 hx_w19
            have ha := ha.add ((hv 16 (by decide)).trans (show vs_ 16 = .string (B (t ++ ([144, u8of x.P, u8of ((k : Int) - (i : Int)), 0] ++ (zeros 28)))) from hvs 16 (by decide)))
            refine st_go ha ?_
            clear ha hv hvs
            refine st_ev (v := .string (B (t ++ ([144, u8of x.P, u8of ((k : Int) - (i : Int)), 0] ++ (zeros 28))))) rfl (e_assign rfl) ?_
            refine st_nil (nrm_k ?_)
            refine sc_block ?_
            refine sc_loop (fun m_ l_ w_ => ∃ (m : Nat) (t2 : List UInt8) (es2 : List (List UInt8)), m_ = k - m ∧ l_ = [(6, .int .i64 (m : Int)), (5, .string (B t2)), (0, .slice A l.length c), (3, .string (B ((encR l).1))), (7, .int .i64 (k : Int))] ∧ Ext w w_ ∧ (i ≤ m ∧ m ≤ k) ∧ Ents t2 es2 ∧ es2.length ≤ i + m + 1 ∧ (∀ zs, runS init (es2 ++ zs) = runF ⟨x.P, (k : Int) - (m : Int), decide (kd = 144), false, h + 1, l.take m⟩ zs)) _ [(6, .int .i64 (i : Int)), (5, .string (B _)), (0, .slice A l.length c), (3, .string (B ((encR l).1))), (7, .int .i64 (k : Int))] ⟨i, _, es ++ [secB kd x.P ((k : Int) - (i : Int))], rfl, rfl, xw_w19, ⟨⟨by omega, by omega⟩, sec_hdr hE hkd, by simp; omega, fun zs => by
              rw [List.append_assoc, hrun0]
              exact runS_inl (step_sec hkd2 hpl ⟨by omega, by omega⟩)⟩⟩ (.cons rfl (.cons rfl (.cons rfl (.cons rfl (.cons rfl (.nil)))))) ?_
            rintro j21 _ w20 ⟨m, t2, es2, rfl, rfl, xw_w20, ⟨hm, hE2, hel2, hrun2⟩⟩
            refine sc_seq ?_
            refine sc_seq ?_
            refine sc_reg ?_
            refine Go.XK.s (v := .int .i64 (m : Int)) (e_move rfl) ?_
            refine Go.XK.s (v := .int .i64 (k : Int)) (e_move rfl) ?_
            refine Go.XK.s (v := .bool (decide ((m : Int) < (k : Int)))) (e_lt rfl rfl) ?_
            refine sl_nil (nrm_k ?_)
            refine sc_ifd rfl (fun c82 => ?_) (fun c82 => ?_)
            ·
              obtain ⟨y2, hy2⟩ : ∃ y2, l[m]? = some y2 := ⟨_, List.getElem?_eq_getElem (by omega)⟩
              have hv2 := all_at hall hy2
              have hEl2 := hE2.length
              refine sc_skip (nrm_k ?_)
              refine sc_seq ?_
              refine sc_block ?_
              refine sc_reg ?_
              refine Go.XK.s (v := .string (B t2)) (e_move rfl) ?_
              refine Go.XK.s (v := .string (B ((encR l).1))) (e_move rfl) ?_
              refine Go.XK.s (v := .int .i64 (m : Int)) (e_move rfl) ?_
              refine Go.XK.s (v := .int .i64 ((64 : Int) * (m : Int))) (e_mul rfl rfl (by omega)) ?_
              refine Go.XK.s (v := .int .i64 ((32 : Int) + ((64 : Int) * (m : Int)))) (e_add rfl rfl (by omega)) ?_
              refine Go.XK.s (v := .int .i64 (m : Int)) (e_move rfl) ?_
              refine Go.XK.s (v := .int .i64 ((64 : Int) * (m : Int))) (e_mul rfl rfl (by omega)) ?_
              refine Go.XK.s (v := .int .i64 ((64 : Int) + ((64 : Int) * (m : Int)))) (e_add rfl rfl (by omega)) ?_
              refine Go.XK.s (v := .string (B (imgB y2))) (e_eqs (enc_img_at he0 hy2) (e_sslice (lo := 32 + 64 * m) (hi := 64 + 64 * m) Try.underlying9 rfl (Bd.at_ rfl (by omega)) (Bd.at_ rfl (by omega)) (by omega) (by omega))) ?_
              refine Go.XK.s (v := .string (B (t2 ++ (imgB y2)))) (e_sadd rfl rfl (by rw [imgB_length]; omega)) ?_
              refine Go.XK.s (v := .string (B (t2 ++ (imgB y2)))) (e_assign rfl) ?_
              refine sl_nil (nrm_k ?_)
              refine sc_reg ?_
              refine Go.XK.s (v := .int .i64 (m : Int)) (e_move rfl) ?_
              refine Go.XK.s (v := .int .i64 ((m : Int) + 1)) (e_add rfl rfl (by omega)) ?_
              refine Go.XK.s (v := .int .i64 ((m : Int) + 1)) (e_assign rfl) ?_
              refine sl_nil ?_
              exact nrm_loopq rfl _ _ (by omega) ⟨m + 1, _, es2 ++ [imgB y2], rfl, rfl, xw_w20, ⟨⟨by omega, by omega⟩, hE2.snoc (imgB_length y2), by simp; omega, fun zs => by
                rw [List.append_assoc, hrun2, runF_go (by simp; omega)]
                rw [List.singleton_append, runS_inl (by rw [step_img (by show (0 : Int) < _; omega), ← hsame m y2 (by omega) (by omega) hy2, readR_img hv2]; rfl)]
                rw [hsame m y2 (by omega) (by omega) hy2, List.take_add_one, hy2]
                congr 2
                omega⟩⟩ (.cons rfl (.cons rfl (.cons rfl (.cons rfl (.cons rfl (.nil))))))
            ·
              refine sc_exit rfl ?_
              exact nrm_loopq rfl _ _ (by omega) ⟨m, t2, es2, rfl, rfl, xw_w20, ⟨⟨by omega, by omega⟩, hE2, by omega, fun hkl => ⟨x.P, h + 1, by omega, fun zs => by rw [hrun2, show (k : Int) - (m : Int) = 0 from by omega, hkind (by omega)]; exact runF_go (by simp)⟩, fun hkl zs => by rw [hrun2, show (k : Int) - (m : Int) = 0 from by omega, hkind2 (by omega), hkl, List.take_length]; exact runF_stop rfl rfl⟩⟩ (.cons rfl (.cons rfl (.cons rfl (.cons rfl (.nil)))))
      ·
        have hil : i = l.length := by omega
        have hEl := hE.length
        have hdec : decR (t ++ zeros ((2048 : Int) - (t.length : Int)).toNat) = (l, 0) := by
          rw [show ((2048 : Int) - (t.length : Int)).toNat = 2048 - t.length from by omega, hE.dec (by omega)]; exact hfin hil _
        refine sc_exit rfl (nrm_k ?_)
        refine sc_seq ?_
        refine sc_reg ?_
        refine Go.XK.s (v := .string (B t)) (e_move rfl) ?_
        refine Go.XK.s (v := .string (B t)) (e_move rfl) ?_
        refine Go.XK.s (v := .int .i64 (t.length : Int)) (e_slen Try.underlying9 rfl) ?_
        refine Go.XK.s (v := .int .i64 ((2048 : Int) - (t.length : Int))) (e_sub rfl rfl (by omega)) ?_
        refine sl_call ent18 rfl rfl (rep0_c _ w3 (by omega) (by omega)) (by decide) ?_
        rintro _ w22 ⟨rfl, hw22⟩
        have xw_w22 : Ext w w22 := Ext.tr xw_w3 hw22
        refine Go.XK.s (v := .string (B (t ++ (zeros ((2048 : Int) - (t.length : Int)).toNat)))) (e_sadd rfl rfl (by first | omega | (simp; omega))) ?_
        refine sl_call ent13 rfl rfl (decode_c (t ++ (zeros ((2048 : Int) - (t.length : Int)).toNat)) w22) (by decide) ?_
        rintro _ w23 ⟨vsX, eX, oX, rfl, hdecX, hoDX, hw23⟩
        rw [hdec] at hdecX
        obtain ⟨e1_, e2_⟩ := Prod.mk.inj hdecX
        subst e1_ e2_
        obtain ⟨AX, cX, hvsX, hlcX, hcmX, hrX⟩ := Own.shape hoDX (fun _ => rfl)
        subst hvsX
        have xw_w23 : Ext w w23 := Ext.tr xw_w22 hw23
        refine Go.XK.s (v := .tuple #[.slice AX l.length cX, .int .i64 0]) (e_move rfl) ?_
        refine Go.XK.s (v := .slice AX l.length cX) (e_extract (vs := [.slice AX l.length cX, .int .i64 0]) rfl rfl) ?_
        refine Go.XK.s (v := .int .i64 0) (e_extract (vs := [.slice AX l.length cX, .int .i64 0]) rfl rfl) ?_
        refine Go.XK.s (v := .slice AX l.length cX) (e_assign rfl) ?_
        refine Go.XK.s (v := .int .i64 0) (e_assign rfl) ?_
        refine sl_nil (nrm_k ?_)
        refine sc_seq ?_
        refine sc_reg ?_
        refine Go.XK.s (v := .int .i64 0) (e_move rfl) ?_
        refine Go.XK.s (v := .bool (decide ((0 : Int) = 0))) (e_eq rfl rfl) ?_
        refine Go.XK.s (v := .bool (decide ((0 : Int) = 0))) (e_move rfl) ?_
        refine sl_mergeW 4 111 (.bool ((decide ((0 : Int) = 0)) && (decide (l = l)))) (fun w_ => Ext w23 w_) ?_ (fun w24 hw24 => ?_)
        · refine sl_case (t := 107) rfl (fun g22_2 => ?_) (fun g22_2 => ?_)
          ·
            refine sl_gev (v := .slice AX l.length cX) rfl rfl g22_2 (e_move rfl) rfl (by decide) ?_
            refine sl_gev (v := .slice A l.length c) rfl rfl g22_2 (e_move rfl) rfl (by decide) ?_
            refine sl_gcall rfl rfl g22_2 ent15 rfl rfl (same_c l l _ _ _ _ w23 hrX (hl.ext xw_w23) (by omega)) (by decide) ?_
            rintro _ w25 ⟨rfl, hw25⟩
            have xw_w25 : Ext w w25 := Ext.tr xw_w23 hw25
            have xw23_w25 : Ext w23 w25 := Ext.tr (Ext.rfl' w23) hw25
            replace hrX := hrX.ext hw25
            refine Go.XK.s (v := .bool (decide (l = l))) (e_pickT rfl g22_2 rfl) ?_
            exact sl_nil (fun a ha => ⟨xw23_w25, ha.sub (.cons (by rw [g22_2]; rfl) (sub_self_cons (sub_self_cons (sub_self_cons (sub_self_cons (Sub.refl _) rfl) rfl) rfl) rfl))⟩)
          ·
            refine sl_gskip rfl rfl g22_2 (by decide) ?_
            refine sl_gskip rfl rfl g22_2 (by decide) ?_
            refine sl_gskip rfl rfl g22_2 (by decide) ?_
            refine Go.XK.s (v := .bool false) (e_pickF rfl g22_2 rfl) ?_
            exact sl_nil (fun a ha => ⟨(Ext.rfl' w23), ha.sub (.cons (by rw [g22_2]; rfl) (sub_self_cons (sub_self_cons (sub_self_cons (sub_self_cons (Sub.refl _) rfl) rfl) rfl) rfl))⟩)
        have xw_w24 : Ext w w24 := Ext.tr xw_w23 hw24
        replace hrX := hrX.ext hw24
        refine Go.XK.s (v := .bool ((decide ((0 : Int) = 0)) && (decide (l = l)))) (e_assign rfl) ?_
        refine sl_nil (nrm_k ?_)
        refine sc_retf rfl (ret1 Try.results6 (rvt rfl) ?_)
        exact ⟨by simp, xw_w24⟩

end Go.Proofs.Ytlgkjpmaekkpjaa
