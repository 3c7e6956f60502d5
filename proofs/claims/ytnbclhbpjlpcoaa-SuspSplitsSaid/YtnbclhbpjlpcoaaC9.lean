/- Chapter 24: C9. Printed by my program wip/tools/wk.py. -/
import Derived.Test.YtnbclhbpjlpcoaaC8
set_option linter.unusedVariables false
set_option linter.unusedSimpArgs false
set_option maxRecDepth 4000
set_option maxHeartbeats 800000
namespace Go.Proofs.Ytnbclhbpjlpcoaa
open Go.XK Go.RowKit
def jstep (gs : List (List En)) (ps : List Pl) (i : Nat) (os : List (List UInt8)) : List (List UInt8) × Int :=
  if (encR (gs.getD i [])).2 ≠ 0 then ([], (encR (gs.getD i [])).2) else if i = 0 then (os ++ [(encR (gs.getD i [])).1], 0) else
  if (conR (ps.getD (i - 1) ⟨0, 0⟩).b (ps.getD (i - 1) ⟨0, 0⟩).o ((lenL gs).getD i 0)).2 ≠ 0 then ([], (conR (ps.getD (i - 1) ⟨0, 0⟩).b (ps.getD (i - 1) ⟨0, 0⟩).o ((lenL gs).getD i 0)).2) else
  (os.set (i - 1) (os.getD (i - 1) [] ++ (encR [(conR (ps.getD (i - 1) ⟨0, 0⟩).b (ps.getD (i - 1) ⟨0, 0⟩).o ((lenL gs).getD i 0)).1]).1) ++ [(encR (gs.getD i [])).1], 0)
def joinAt (gs : List (List En)) (ps : List Pl) : Nat → List (List UInt8) × Int
  | 0 => ([], 0)
  | i + 1 => if (joinAt gs ps i).2 ≠ 0 then joinAt gs ps i else jstep gs ps i (joinAt gs ps i).1
def joinR (gs : List (List En)) (ps : List Pl) : List (List UInt8) × Int := if (decide ((gs.length : Int) = 0) || decide ((ps.length : Int) ≠ (gs.length : Int) - 1)) = true then ([], 1) else joinAt gs ps gs.length
theorem joinAt_ok {gs : List (List En)} {ps : List Pl} {i : Nat} {os : List (List UInt8)} (h : joinAt gs ps i = (os, 0)) : joinAt gs ps (i + 1) = jstep gs ps i os := by rw [joinAt, h]; simp
theorem joinAt_stop {gs : List (List En)} {ps : List Pl} {i : Nat} (h : (joinAt gs ps i).2 ≠ 0) (k : Nat) : joinAt gs ps (i + k) = joinAt gs ps i := by
  induction k with
  | zero => rfl
  | succ k ih => rw [← Nat.add_assoc, joinAt, ih, if_pos h]
theorem joinAt_bad {gs : List (List En)} {ps : List Pl} {i n : Nat} {os : List (List UInt8)} {e : Int} (h : joinAt gs ps i = (os, 0)) (hs : jstep gs ps i os = ([], e)) (he : e ≠ 0) (hn : i < n) : joinAt gs ps n = ([], e) := by
  have h1 := joinAt_ok h
  rw [hs] at h1
  have h2 := joinAt_stop (gs := gs) (ps := ps) (i := i + 1) (by rw [h1]; exact he) (n - (i + 1))
  rw [show i + 1 + (n - (i + 1)) = n by omega] at h2
  rw [h2, h1]
theorem getD_of {α : Type} {l : List α} {i : Nat} {x d : α} (h : l[i]? = some x) : l.getD i d = x := by rw [List.getD_eq_getElem?_getD, h]; rfl
theorem jstep_1 {gs : List (List En)} {ps : List Pl} {i : Nat} {os : List (List UInt8)} {x : List En} (hx : gs[i]? = some x) (h : (encR x).2 ≠ 0) : jstep gs ps i os = ([], (encR x).2) := by rw [jstep, getD_of hx, if_pos h]
theorem jstep_0 {gs : List (List En)} {ps : List Pl} {i : Nat} {os : List (List UInt8)} {x : List En} (hx : gs[i]? = some x) (h : ¬ (encR x).2 ≠ 0) (h0 : i = 0) : jstep gs ps i os = (os ++ [(encR x).1], 0) := by rw [jstep, getD_of hx, if_neg h, if_pos h0]
theorem jstep_2 {gs : List (List En)} {ps : List Pl} {i : Nat} {os : List (List UInt8)} {x : List En} {p : Pl} {n : Int} (hx : gs[i]? = some x) (h : ¬ (encR x).2 ≠ 0) (h0 : 0 < i) (hp : ps[i - 1]? = some p) (hn : (lenL gs)[i]? = some n) (hc : (conR p.b p.o n).2 ≠ 0) : jstep gs ps i os = ([], (conR p.b p.o n).2) := by rw [jstep, getD_of hx, getD_of hp, getD_of hn, if_neg h, if_neg (by omega), if_pos hc]
theorem jstep_3 {gs : List (List En)} {ps : List Pl} {i : Nat} {os : List (List UInt8)} {x : List En} {p : Pl} {n : Int} {o : List UInt8} (hx : gs[i]? = some x) (h : ¬ (encR x).2 ≠ 0) (h0 : 0 < i) (hp : ps[i - 1]? = some p) (hn : (lenL gs)[i]? = some n) (hc : ¬ (conR p.b p.o n).2 ≠ 0) (ho : os[i - 1]? = some o) : jstep gs ps i os = (os.set (i - 1) (o ++ (encR [(conR p.b p.o n).1]).1) ++ [(encR x).1], 0) := by rw [jstep, getD_of hx, getD_of hp, getD_of hn, getD_of ho, if_neg h, if_neg (by omega), if_neg hc]
theorem joinR_1 {gs : List Gp} {ps : List Pl} (h : (decide ((gs.length : Int) = 0) || decide ((ps.length : Int) ≠ (gs.length : Int) - 1)) = true) : joinR (gs.map (·.l)) ps = ([], 1) := by rw [joinR, List.length_map, if_pos h]
theorem joinR_2 {gs : List Gp} {ps : List Pl} {r : List (List UInt8) × Int} (h : (decide ((gs.length : Int) = 0) || decide ((ps.length : Int) ≠ (gs.length : Int) - 1)) = false) (hr : joinAt (gs.map (·.l)) ps gs.length = r) : joinR (gs.map (·.l)) ps = r := by rw [joinR, List.length_map, if_neg (by rw [h]; simp), hr]
theorem encR_len (l : List En) : (encR l).1.length ≤ 516096 := by
  by_cases h : chkR l = 0
  · rw [encR_ok h]
    have := enc_len (chkR_zero h) l.length
    rwa [List.take_length] at this
  · rw [encR_no h]; simp
theorem bnd_snoc {os : List (List UInt8)} {e : List UInt8} {i : Nat} (h : ∀ z ∈ os, z.length ≤ 516096 * (i + 1)) (he : e.length ≤ 516096) : ∀ z ∈ os ++ [e], z.length ≤ 516096 * (i + 1 + 1) := fun z hz => by
  rcases List.mem_append.1 hz with hz | hz
  · have := h z hz; omega
  · simp at hz; subst hz; omega
theorem bnd_set {os : List (List UInt8)} {e o c : List UInt8} {i k : Nat} (h : ∀ z ∈ os, z.length ≤ 516096 * (i + 1)) (he : e.length ≤ 516096) (ho : os[k]? = some o) (hc : c.length ≤ 516096) : ∀ z ∈ os.set k (o ++ c) ++ [e], z.length ≤ 516096 * (i + 1 + 1) := fun z hz => by
  have ho2 := h o (List.mem_of_getElem? ho)
  rcases List.mem_append.1 hz with hz | hz
  · rcases List.mem_or_eq_of_mem_set hz with hz | rfl
    · have := h z hz; omega
    · rw [List.length_append]; omega
  · simp at hz; subst hz; omega
theorem rep_flat {α : Type} (f : α → Value) (enc : α → List Value) (he : ∀ x, enc x = [f x]) (z : α) : ∀ n : Nat, (List.replicate n z).flatMap enc = List.replicate n (f z)
  | 0 => rfl
  | n + 1 => by rw [List.replicate_succ, List.flatMap_cons, rep_flat f enc he z n, he]; rfl
theorem slr_one {w : World} {b : Nat} {x : En} (h : Blk w b 41 [.string (B x.g), .int .i64 x.v, .string (B x.d)]) : SlR w (some ⟨b, 0, none⟩) 1 3 encE [x] := ⟨Rd.ofBlk (xs := [x]) h (fun _ => rfl), by simp, by decide, fun h_ => by cases h_⟩
theorem rep_get {os : List (List UInt8)} {i n : Nat} (h : os.length = i) (hi : i < n) : (os ++ List.replicate (n - i) ([] : List UInt8))[i]? = some [] := by
  rw [List.getElem?_append_right (by omega), h, Nat.sub_self, List.getElem?_replicate, if_pos (by omega)]
theorem rep_set {os : List (List UInt8)} {i n : Nat} (e : List UInt8) (h : os.length = i) (hi : i < n) : (os ++ List.replicate (n - i) ([] : List UInt8)).set (i : Int).toNat e = (os ++ [e]) ++ List.replicate (n - (i + 1)) [] := by
  rw [show ((i : Int)).toNat = i by omega, List.set_append_right _ _ (by omega), h, Nat.sub_self, show n - i = (n - (i + 1)) + 1 by omega, List.replicate_succ, List.set_cons_zero]
  simp
theorem rep_prev {os : List (List UInt8)} {i n : Nat} {o : List UInt8} (e : List UInt8) (h : os[i - 1]? = some o) : ((os ++ [e]) ++ List.replicate n ([] : List UInt8))[i - 1]? = some o := by
  have := (List.getElem?_eq_some_iff.1 h).1
  rw [List.getElem?_append_left (by simp; omega), List.getElem?_append_left this, h]
theorem rep_set2 {os : List (List UInt8)} {i n : Nat} (e z : List UInt8) (h : os.length = i) (h0 : 0 < i) : ((os ++ [e]) ++ List.replicate n ([] : List UInt8)).set ((i : Int) - 1).toNat z = (os.set (i - 1) z ++ [e]) ++ List.replicate n [] := by
  rw [show ((i : Int) - 1).toNat = i - 1 by omega, List.set_append_left _ _ (by simp; omega), List.set_append_left _ _ (by omega)]
theorem set2 {os : List (List UInt8)} {i : Nat} (z : List UInt8) (h0 : 0 < i) : os.set ((i : Int) - 1).toNat z = os.set (i - 1) z := by rw [show ((i : Int) - 1).toNat = i - 1 by omega]
theorem conR_g (b o n : Int) : (conR b o n).1.g.length ≤ 2 := by unfold conR; split <;> simp [conE]
theorem con_sl (b o n : Int) : ∀ x ∈ [(conR b o n).1], x.g.length ≤ 9223372036854775807 := fun x hx => by
  simp at hx; subst hx; have := conR_g b o n; omega

/-- masterdisc/susp.Join (function 33) -/
theorem join_c (gs : List Gp) (Ag : Option Addr) (cg : Nat) (ps : List Pl) (A2 : Option Addr) (c2 : Nat) (w : World) (hg : SlR w Ag cg 1 encG gs) (hin : InG w gs) (hps : SlR w A2 c2 2 encPl ps) (hbg : ∀ g ∈ gs, szL g.l ≤ 1000000) (hll : gs.length ≤ 1000000) (hsl : ∀ g ∈ gs, ∀ x ∈ g.l, x.g.length ≤ 9223372036854775807) : CallR Try.prog 33 [.slice Ag gs.length cg, .slice A2 ps.length c2] w (fun v w' => ∃ v1, v = .tuple #[v1, .int .i64 (joinR (gs.map (fun g_ : Gp => g_.l)) ps).2] ∧ Go.XK.Own w' w.heap.size 9 1 encS v1 (joinR (gs.map (fun g_ : Gp => g_.l)) ps).1 ∧ Ext w w') := by
  have hmx0 := hg.lenle
  simp only [maxLen] at hmx0
  have hmx1 := hps.lenle
  simp only [maxLen] at hmx1
  refine callR_of (n := 84) [(0, .slice Ag gs.length cg), (1, .slice A2 ps.length c2)] Try.func33 rfl rfl (Nat.le_of_ble_eq_true rfl) rfl ?_
  refine sc_seq ?_
  refine sc_reg ?_
  refine Go.XK.s (v := .slice none 0 0) (e_assign rfl) ?_
  refine Go.XK.s (v := .int .i64 0) (e_assign rfl) ?_
  refine sl_nil (nrm_k ?_)
  refine sc_seq ?_
  refine sc_seq ?_
  refine sc_reg ?_
  refine Go.XK.s (v := .slice Ag gs.length cg) (e_move rfl) ?_
  refine Go.XK.s (v := .int .i64 (gs.length : Int)) (e_len Try.underlying33 rfl) ?_
  refine Go.XK.s (v := .bool (decide ((gs.length : Int) = 0))) (e_eq rfl rfl) ?_
  refine Go.XK.s (v := .bool (decide ((gs.length : Int) = 0))) (e_move rfl) ?_
  refine sl_merge 7 25 (.bool ((decide ((gs.length : Int) = 0)) || (decide ((ps.length : Int) ≠ (gs.length : Int) - 1)))) ?_ ?_
  · refine sl_case (t := 18) rfl (fun g1_3 => ?_) (fun g1_3 => ?_)
    ·
      refine sl_gskip rfl rfl g1_3 (by decide) ?_
      refine sl_gskip rfl rfl g1_3 (by decide) ?_
      refine sl_gskip rfl rfl g1_3 (by decide) ?_
      refine sl_gskip rfl rfl g1_3 (by decide) ?_
      refine sl_gskip rfl rfl g1_3 (by decide) ?_
      refine sl_gskip rfl rfl g1_3 (by decide) ?_
      refine Go.XK.s (v := .bool true) (e_pickT rfl g1_3 rfl) ?_
      exact sl_nil (fun a ha => ⟨rfl, ha.sub (.cons (by rw [g1_3]; rfl) (sub_self_cons (sub_self_cons (sub_self_cons (sub_self_cons (sub_self_cons (sub_self_cons (sub_self_cons (Sub.refl _) rfl) rfl) rfl) rfl) rfl) rfl) rfl))⟩)
    ·
      refine sl_gev (v := .slice A2 ps.length c2) rfl rfl g1_3 (e_move rfl) rfl (by decide) ?_
      refine sl_gev (v := .int .i64 (ps.length : Int)) rfl rfl g1_3 (e_len Try.underlying51 rfl) rfl (by decide) ?_
      refine sl_gev (v := .slice Ag gs.length cg) rfl rfl g1_3 (e_move rfl) rfl (by decide) ?_
      refine sl_gev (v := .int .i64 (gs.length : Int)) rfl rfl g1_3 (e_len Try.underlying33 rfl) rfl (by decide) ?_
      refine sl_gev (v := .int .i64 ((gs.length : Int) - 1)) rfl rfl g1_3 (e_sub rfl rfl (by omega)) rfl (by decide) ?_
      refine sl_gev (v := .bool (decide ((ps.length : Int) ≠ (gs.length : Int) - 1))) rfl rfl g1_3 (e_ne rfl rfl) rfl (by decide) ?_
      refine Go.XK.s (v := .bool (decide ((ps.length : Int) ≠ (gs.length : Int) - 1))) (e_pickF rfl g1_3 rfl) ?_
      exact sl_nil (fun a ha => ⟨rfl, ha.sub (.cons (by rw [g1_3]; rfl) (sub_self_cons (sub_self_cons (sub_self_cons (sub_self_cons (sub_self_cons (sub_self_cons (sub_self_cons (Sub.refl _) rfl) rfl) rfl) rfl) rfl) rfl) rfl))⟩)
  refine sl_nil (nrm_k ?_)
  refine sc_if rfl (fun c25 => ?_) (fun c25 => ?_)
  ·
    refine sc_seq ?_
    refine sc_reg ?_
    refine Go.XK.s (v := .slice none 0 0) (e_assign rfl) ?_
    refine Go.XK.s (v := .int .i64 1) (e_assign rfl) ?_
    refine sl_nil (nrm_k ?_)
    refine sc_retf rfl (ret2 Try.results33 (rvt rfl) (rvt rfl) ?_)
    exact ⟨.slice none 0 0, by rw [joinR_1 c25], by rw [joinR_1 c25]; exact Go.XK.Own.nil _ _ _ _ _, (Ext.rfl' w)⟩
  ·
    refine sc_skip (nrm_k ?_)
    refine sc_seq ?_
    refine sc_reg ?_
    refine Go.XK.s (v := .slice Ag gs.length cg) (e_move rfl) ?_
    refine sl_call ent22 rfl rfl (lens_c _ _ _ w (hg.ext (Ext.rfl' w)) (hin.ext (Ext.rfl' w)) hbg (by omega)) (by decide) ?_
    rintro vD1 w1 ⟨hoD1, hw1⟩
    replace hoD1 := Own.low hoD1 (Below.size (Ext.rfl' w))
    have xw_w1 : Ext w w1 := Ext.tr (Ext.rfl' w) hw1
    obtain ⟨AD1, cD1, eD1_, hlcD1, hcmD1, _⟩ := Go.XK.Own.shape hoD1 (fun _ => rfl)
    subst eD1_
    refine Go.XK.s (v := .slice AD1 (lenL (gs.map (fun g_ : Gp => g_.l))).length cD1) (e_assign rfl) ?_
    refine sl_nil (nrm_k ?_)
    refine sc_seq ?_
    refine sc_reg ?_
    refine Go.XK.s (v := .slice Ag gs.length cg) (e_move rfl) ?_
    refine Go.XK.s (v := .int .i64 (gs.length : Int)) (e_len Try.underlying33 rfl) ?_
    refine s_make1 (m := gs.length) (z := .string (B [])) (bytes := 16) rfl rfl Try.underlying48 (by kernel_rfl) rfl (by omega) (by omega) ?_
    intro b30 w2 hb30 he30 hs30 hx30
    have no_b30_hoD1 : Value.ownBlock (.slice AD1 ((lenL (gs.map (fun g_ : Gp => g_.l))).length) cD1) ≠ some b30 := fun h_ => by have h2_ := (Go.XK.Own.lt hoD1 _ h_).2; omega
    have ge_b30 : w.heap.size ≤ b30 := by have h_ := (Below.size xw_w1); omega
    have xw_w2 : Ext w w2 := Ext.tr xw_w1 hx30
    replace hoD1 := hoD1.ext hx30
    have ho30 : Go.XK.Own w2 w.heap.size 9 1 encS (.slice (some ⟨b30, 0, none⟩) gs.length gs.length) (List.replicate gs.length []) := by
      have h_ := Go.XK.Own.ofBlk (base := w.heap.size) (enc := encS) (kk := 1) (xs := List.replicate gs.length []) (by rw [rep_flat _ encS (fun _ => rfl)]; exact hb30) ge_b30 (fun _ => rfl) (by rw [List.length_replicate]; simp only [maxLen]; omega)
      rw [List.length_replicate] at h_
      exact h_
    refine Go.XK.s (v := .slice (some ⟨b30, 0, none⟩) gs.length gs.length) (e_assign rfl) ?_
    refine sl_nil (nrm_k ?_)
    refine sc_seq ?_
    refine sc_seq ?_
    refine sc_reg ?_
    refine Go.XK.s (v := .slice Ag gs.length cg) (e_move rfl) ?_
    refine Go.XK.s (v := .int .i64 (gs.length : Int)) (e_len Try.underlying33 rfl) ?_
    refine Go.XK.s (v := .int .i64 0) (e_move rfl) ?_
    refine sl_nil (nrm_k ?_)
    refine sc_block ?_
    refine sc_loop (fun m_ l_ w_ => ∃ (i : Nat) (os : List (List UInt8)) (v_ : Value), m_ = gs.length - i ∧ l_ = [(33, .int .i64 (i : Int)), (7, v_), (1, .slice A2 ps.length c2), (6, .slice AD1 (lenL (gs.map (fun g_ : Gp => g_.l))).length cD1), (31, .slice Ag gs.length cg), (32, .int .i64 (gs.length : Int))] ∧ Ext w w_ ∧ Go.XK.Own w_ w.heap.size 3 1 encI (.slice AD1 ((lenL (gs.map (fun g_ : Gp => g_.l))).length) cD1) (lenL (gs.map (fun g_ : Gp => g_.l))) ∧ Go.XK.Own w_ w.heap.size 9 1 encS v_ (os ++ List.replicate (gs.length - i) []) ∧ (i ≤ gs.length ∧ os.length = i ∧ ∀ z ∈ os, z.length ≤ 516096 * (i + 1)) ∧ joinAt (gs.map (fun g_ : Gp => g_.l)) ps i = (os, 0)) _ [(33, .int .i64 (0 : Int)), (7, (.slice (some ⟨b30, 0, none⟩) gs.length gs.length)), (1, .slice A2 ps.length c2), (6, .slice AD1 (lenL (gs.map (fun g_ : Gp => g_.l))).length cD1), (31, .slice Ag gs.length cg), (32, .int .i64 (gs.length : Int))] ⟨0, [], .slice (some ⟨b30, 0, none⟩) gs.length gs.length, rfl, rfl, xw_w2, hoD1, ho30, ⟨⟨by omega, rfl, fun _ h_ => by cases h_⟩, rfl⟩⟩ (.cons rfl (.cons rfl (.cons rfl (.cons rfl (.cons rfl (.cons rfl (.nil))))))) ?_
    rintro j4 _ w3 ⟨i, os, v_, rfl, rfl, xw_w3, hoD1, ho, ⟨⟨hi, hol0, hbo⟩, hT⟩⟩
    refine sc_seq ?_
    refine sc_reg ?_
    refine Go.XK.s (v := .bool (decide ((i : Int) < (gs.length : Int)))) (e_lt rfl rfl) ?_
    refine sl_nil (nrm_k ?_)
    refine sc_seq ?_
    refine sc_ifd rfl (fun c34 => ?_) (fun c34 => ?_)
    ·
      obtain ⟨x, hx⟩ : ∃ x, gs[i]? = some x := ⟨_, List.getElem?_eq_getElem (by omega)⟩
      have hin_x := hin x (List.mem_of_getElem? hx)
      have hmx_ := map_get hx
      have hel := encR_len x.l
      have hdr := of_decide_eq_false (Bool.or_eq_false_iff.1 c25).1
      have hdq := of_decide_eq_false (Bool.or_eq_false_iff.1 c25).2
      refine sc_skip (nrm_k ?_)
      refine sc_seq ?_
      refine sc_block ?_
      refine sc_seq ?_
      refine sc_reg ?_
      refine Go.XK.s (v := .int .i64 (i : Int)) (e_move rfl) ?_
      refine Go.XK.s (v := .pointer (some (el Ag 1 (i : Int) 0))) (e_idxEl (e := x) Try.underlying33 Try.sizeOf22 rfl rfl (hg.1.ext xw_w3) hx (by omega) rfl) ?_
      refine Go.XK.s (v := .slice x.A x.l.length x.c) (e_ldEl (xs := gs) (enc := encG) (e := x) rfl (hg.1.ext xw_w3) hx Try.isAgg22 rfl) ?_
      refine Go.XK.s (v := .int .i64 (i : Int)) (e_assign rfl) ?_
      refine Go.XK.s (v := .slice x.A x.l.length x.c) (e_assign rfl) ?_
      refine sl_nil (nrm_k ?_)
      refine sc_seq ?_
      refine sc_reg ?_
      refine Go.XK.s (v := .slice x.A x.l.length x.c) (e_move rfl) ?_
      refine sl_call ent11 rfl rfl (encode_c _ _ _ w3 (hin_x.ext xw_w3) (hsl x (List.mem_of_getElem? hx))) (by decide) ?_
      rintro _ w5 ⟨rfl, hw5⟩
      have xw_w5 : Ext w w5 := Ext.tr xw_w3 hw5
      replace hoD1 := hoD1.ext hw5
      replace ho := ho.ext hw5
      refine Go.XK.s (v := .tuple #[.string (B ((encR x.l).1)), .int .i64 ((encR x.l).2)]) (e_move rfl) ?_
      refine Go.XK.s (v := .string (B ((encR x.l).1))) (e_extract (vs := [.string (B ((encR x.l).1)), .int .i64 ((encR x.l).2)]) rfl rfl) ?_
      refine Go.XK.s (v := .int .i64 ((encR x.l).2)) (e_extract (vs := [.string (B ((encR x.l).1)), .int .i64 ((encR x.l).2)]) rfl rfl) ?_
      refine Go.XK.s (v := .string (B ((encR x.l).1))) (e_assign rfl) ?_
      refine Go.XK.s (v := .int .i64 ((encR x.l).2)) (e_assign rfl) ?_
      refine sl_nil (nrm_k ?_)
      refine sc_seq ?_
      refine sc_seq ?_
      refine sc_reg ?_
      refine Go.XK.s (v := .int .i64 ((encR x.l).2)) (e_move rfl) ?_
      refine Go.XK.s (v := .bool (decide ((encR x.l).2 ≠ 0))) (e_ne rfl rfl) ?_
      refine sl_nil (nrm_k ?_)
      refine sc_ifd rfl (fun c44 => ?_) (fun c44 => ?_)
      ·
        refine sc_seq ?_
        refine sc_reg ?_
        refine Go.XK.s (v := .int .i64 ((encR x.l).2)) (e_move rfl) ?_
        refine Go.XK.s (v := .slice none 0 0) (e_assign rfl) ?_
        refine Go.XK.s (v := .int .i64 ((encR x.l).2)) (e_assign rfl) ?_
        refine sl_nil (nrm_k ?_)
        refine sc_retf rfl (ret2 Try.results33 (rvt rfl) (rvt rfl) ?_)
        exact ⟨.slice none 0 0, by rw [joinR_2 c25 (joinAt_bad hT (jstep_1 hmx_ c44) c44 (by omega))], by rw [joinR_2 c25 (joinAt_bad hT (jstep_1 hmx_ c44) c44 (by omega))]; exact Go.XK.Own.nil _ _ _ _ _, xw_w5⟩
      ·
        refine sc_skip (nrm_k ?_)
        refine sc_seq ?_
        refine sc_reg ?_
        refine Go.XK.s (v := v_) (e_move rfl) ?_
        refine Go.XK.s (v := .int .i64 (i : Int)) (e_move rfl) ?_
        refine Go.XK.s (v := .string (B ((encR x.l).1))) (e_move rfl) ?_
        refine Go.XK.s (v := .pointer (some (el (ownA v_) 1 (i : Int) 0))) (e_idxOwn (x0 := []) Try.underlying48 Try.sizeOf9 rfl rfl ho (fun _ => rfl) (rep_get hol0 (by omega)) (by omega)) ?_
        refine su_ownSet (w0 := w) (x0 := []) (v := v_) ((encR x.l).1) rfl rfl ho xw_w5 (fun _ => rfl) (rep_get hol0 (by omega)) (by decide) rfl rfl Try.sizeOf9 rfl ?_
        intro w6 hn_ xw_w6 hg_w6
        have ho_ := ho
        replace hoD1 := Go.XK.Own.other hoD1 ho_ hg_w6 (by decide)
        replace ho := hn_
        clear hn_ ho_
        rw [rep_set _ hol0 (by omega)] at ho
        refine sl_nil (nrm_k ?_)
        refine sc_seq ?_
        refine sc_seq ?_
        refine sc_reg ?_
        refine Go.XK.s (v := .int .i64 (i : Int)) (e_move rfl) ?_
        refine Go.XK.s (v := .bool (decide ((i : Int) = 0))) (e_eq rfl rfl) ?_
        refine sl_nil (nrm_k ?_)
        refine sc_ifd rfl (fun c51 => ?_) (fun c51 => ?_)
        ·
          refine sc_exit rfl (nrm_k ?_)
          refine sc_reg ?_
          refine Go.XK.s (v := .int .i64 ((i : Int) + 1)) (e_add rfl rfl (by omega)) ?_
          refine Go.XK.s (v := .int .i64 ((i : Int) + 1)) (e_move rfl) ?_
          refine sl_nil ?_
          exact nrm_loopq rfl _ _ (by omega) ⟨i + 1, os ++ [(encR x.l).1], v_, rfl, rfl, xw_w6, hoD1, ho, ⟨⟨by omega, by simp; omega, bnd_snoc hbo hel⟩, by rw [joinAt_ok hT]; exact jstep_0 hmx_ c44 (by omega)⟩⟩ (.cons rfl (.cons rfl (.cons rfl (.cons rfl (.cons rfl (.cons rfl (.nil)))))))
        ·
          have hi0 : 0 < i := by omega
          obtain ⟨p, hpp⟩ : ∃ p, ps[i - 1]? = some p := ⟨_, List.getElem?_eq_getElem (by omega)⟩
          obtain ⟨n, hn⟩ : ∃ n, (lenL (gs.map (fun g_ : Gp => g_.l)))[i]? = some n := ⟨_, List.getElem?_eq_getElem (by rw [lenL_length, List.length_map]; omega)⟩
          obtain ⟨o, ho1⟩ : ∃ o, os[i - 1]? = some o := ⟨_, List.getElem?_eq_getElem (by omega)⟩
          have hti : ((i : Int) - 1).toNat = i - 1 := by omega
          have hpq : ps[((i : Int) - 1).toNat]? = some p := by rw [hti]; exact hpp
          have ho1q : os[((i : Int) - 1).toNat]? = some o := by rw [hti]; exact ho1
          have hol := hbo o (List.mem_of_getElem? ho1)
          have hcl := encR_len [(conR p.b p.o n).1]
          refine sc_skip (nrm_k ?_)
          refine sc_seq ?_
          refine sc_late [(51, .bool (decide ((i : Int) = 0))), (50, .int .i64 (i : Int)), (49, .pointer (some (el (ownA v_) 1 (i : Int) 0))), (48, .string (B ((encR x.l).1))), (47, .int .i64 (i : Int)), (46, v_), (44, .bool (decide ((encR x.l).2 ≠ 0))), (43, .int .i64 ((encR x.l).2)), (11, .int .i64 ((encR x.l).2)), (10, .string (B ((encR x.l).1))), (42, .int .i64 ((encR x.l).2)), (41, .string (B ((encR x.l).1))), (38, .tuple #[.string (B ((encR x.l).1)), .int .i64 ((encR x.l).2)]), (40, .tuple #[.string (B ((encR x.l).1)), .int .i64 ((encR x.l).2)]), (39, .slice x.A x.l.length x.c), (9, .slice x.A x.l.length x.c), (8, .int .i64 (i : Int)), (37, .slice x.A x.l.length x.c), (36, .pointer (some (el Ag 1 (i : Int) 0))), (35, .int .i64 (i : Int)), (34, .bool (decide ((i : Int) < (gs.length : Int)))), (33, .int .i64 (i : Int)), (7, v_), (1, .slice A2 ps.length c2), (6, .slice AD1 (lenL (gs.map (fun g_ : Gp => g_.l))).length cD1), (31, .slice Ag gs.length cg), (32, .int .i64 (gs.length : Int))] [53, 54, 55, 56, 57, 58, 59, 60, 61, 62, 52, 63, 64, 12] [(Is (.slice A2 ps.length c2)), (Is (.int .i64 (i : Int))), (Is (.int .i64 ((i : Int) - 1))), (Is (.pointer (some (el A2 2 ((i : Int) - 1) 0)))), (Is (.agg #[.int .i64 p.b, .int .i64 p.o])), (Is (.slice AD1 (lenL (gs.map (fun g_ : Gp => g_.l))).length cD1)), (Is (.int .i64 (i : Int))), (Is (.pointer (some (el (ownA (.slice AD1 (lenL (gs.map (fun g_ : Gp => g_.l))).length cD1)) 1 (i : Int) 0)))), (Is (.int .i64 n)), (Is (.tuple #[.agg #[.string (B ((conR p.b p.o n).1.g)), .int .i64 ((conR p.b p.o n).1.v), .string (B ((conR p.b p.o n).1.d))], .int .i64 ((conR p.b p.o n).2)])), (Is (.tuple #[.agg #[.string (B ((conR p.b p.o n).1.g)), .int .i64 ((conR p.b p.o n).1.v), .string (B ((conR p.b p.o n).1.d))], .int .i64 ((conR p.b p.o n).2)])), (Is (.agg #[.string (B ((conR p.b p.o n).1.g)), .int .i64 ((conR p.b p.o n).1.v), .string (B ((conR p.b p.o n).1.d))])), (Is (.int .i64 ((conR p.b p.o n).2))), (fun VV WV => ∃ b_, VV = Value.pointer (some ⟨b_, 0, none⟩) ∧ Blk WV b_ 41 [.string (B []), .int .i64 0, .string (B [])] ∧ w6.heap.size ≤ b_)] [14, 15] [0, 1, 2, 3, 4, 5, 6, 7, 8, 9, 10, 11, 13] [12] (by kernel_rfl) (Sub.refl _) (by kernel_rfl) (by kernel_rfl) (by kernel_rfl) (by kernel_rfl) rfl (by kernel_rfl) (ds_ext (Stays.spec (.is _ (.is _ (.is _ (.is _ (.is _ (.is _ (.is _ (.is _ (.is _ (.is _ (.is _ (.is _ (.is _ (.any (fun _ _ _ ⟨b_, e_, h_, g_⟩ hx_ => ⟨b_, e_, h_.ext hx_, g_⟩) (.nil))))))))))))))))) ⟨?_, ?_, ?_, ?_, ?_, ?_, ?_, ?_, ?_, ?_, ?_, ?_, ?_, trivial⟩ ⟨?_, trivial⟩ ?_
          · intro Q act_ wI hxI ha hp
            have xw_wI : Ext w wI := Ext.tr xw_w6 hxI
            replace hoD1 := hoD1.ext hxI
            replace ho := ho.ext hxI
            exact h_evA (v := .slice A2 ps.length c2) ha rfl (e_move rfl) rfl rfl (Ext.rfl' _)
          · intro Q act_ wI hxI ha hp
            have xw_wI : Ext w wI := Ext.tr xw_w6 hxI
            replace hoD1 := hoD1.ext hxI
            replace ho := ho.ext hxI
            exact h_evA (v := .int .i64 (i : Int)) ha rfl (e_move rfl) rfl rfl (Ext.rfl' _)
          · intro Q act_ wI hxI ha hp
            have xw_wI : Ext w wI := Ext.tr xw_w6 hxI
            replace hoD1 := hoD1.ext hxI
            replace ho := ho.ext hxI
            have ha := ha.add (show act_.tmps.getD 54 undef = .int .i64 (i : Int) from hp 1 (by kernel_rfl) (by decide))
            exact h_evA (v := .int .i64 ((i : Int) - 1)) ha rfl (e_sub rfl rfl (by omega)) rfl rfl (Ext.rfl' _)
          · intro Q act_ wI hxI ha hp
            have xw_wI : Ext w wI := Ext.tr xw_w6 hxI
            replace hoD1 := hoD1.ext hxI
            replace ho := ho.ext hxI
            have ha := ha.add (show act_.tmps.getD 53 undef = .slice A2 ps.length c2 from hp 0 (by kernel_rfl) (by decide))
            have ha := ha.add (show act_.tmps.getD 55 undef = .int .i64 ((i : Int) - 1) from hp 2 (by kernel_rfl) (by decide))
            exact h_evA (v := .pointer (some (el A2 2 ((i : Int) - 1) 0))) ha rfl (e_idxEl (e := p) Try.underlying51 Try.sizeOf53 rfl rfl (hps.1.ext xw_wI) hpq (by omega) rfl) rfl rfl (Ext.rfl' _)
          · intro Q act_ wI hxI ha hp
            have xw_wI : Ext w wI := Ext.tr xw_w6 hxI
            replace hoD1 := hoD1.ext hxI
            replace ho := ho.ext hxI
            have ha := ha.add (show act_.tmps.getD 56 undef = .pointer (some (el A2 2 ((i : Int) - 1) 0)) from hp 3 (by kernel_rfl) (by decide))
            exact h_evA (v := .agg #[.int .i64 p.b, .int .i64 p.o]) ha rfl (e_ldElA (xs := ps) (enc := encPl) (e := p) rfl (hps.1.ext xw_wI) hpq Try.isAgg53 Try.sizeOf53 rfl) rfl rfl (Ext.rfl' _)
          · intro Q act_ wI hxI ha hp
            have xw_wI : Ext w wI := Ext.tr xw_w6 hxI
            replace hoD1 := hoD1.ext hxI
            replace ho := ho.ext hxI
            exact h_evA (v := .slice AD1 (lenL (gs.map (fun g_ : Gp => g_.l))).length cD1) ha rfl (e_move rfl) rfl rfl (Ext.rfl' _)
          · intro Q act_ wI hxI ha hp
            have xw_wI : Ext w wI := Ext.tr xw_w6 hxI
            replace hoD1 := hoD1.ext hxI
            replace ho := ho.ext hxI
            exact h_evA (v := .int .i64 (i : Int)) ha rfl (e_move rfl) rfl rfl (Ext.rfl' _)
          · intro Q act_ wI hxI ha hp
            have xw_wI : Ext w wI := Ext.tr xw_w6 hxI
            replace hoD1 := hoD1.ext hxI
            replace ho := ho.ext hxI
            have ha := ha.add (show act_.tmps.getD 58 undef = .slice AD1 (lenL (gs.map (fun g_ : Gp => g_.l))).length cD1 from hp 5 (by kernel_rfl) (by decide))
            have ha := ha.add (show act_.tmps.getD 59 undef = .int .i64 (i : Int) from hp 6 (by kernel_rfl) (by decide))
            exact h_evA (v := .pointer (some (el (ownA (.slice AD1 (lenL (gs.map (fun g_ : Gp => g_.l))).length cD1)) 1 (i : Int) 0))) ha rfl (e_idxOwn (x0 := n) Try.underlying38 Try.sizeOf3 rfl rfl hoD1 (fun _ => rfl) hn (by omega)) rfl rfl (Ext.rfl' _)
          · intro Q act_ wI hxI ha hp
            have xw_wI : Ext w wI := Ext.tr xw_w6 hxI
            replace hoD1 := hoD1.ext hxI
            replace ho := ho.ext hxI
            have ha := ha.add (show act_.tmps.getD 60 undef = .pointer (some (el (ownA (.slice AD1 (lenL (gs.map (fun g_ : Gp => g_.l))).length cD1)) 1 (i : Int) 0)) from hp 7 (by kernel_rfl) (by decide))
            exact h_evA (v := .int .i64 n) ha rfl (e_ldEl (xs := lenL (gs.map (fun g_ : Gp => g_.l))) (enc := encI) (e := n) rfl (Go.XK.Own.rd hoD1 (fun _ => rfl)) hn Try.isAgg3 rfl) rfl rfl (Ext.rfl' _)
          · intro Q act_ wI hxI ha hp
            have xw_wI : Ext w wI := Ext.tr xw_w6 hxI
            replace hoD1 := hoD1.ext hxI
            replace ho := ho.ext hxI
            have ha := ha.add (show act_.tmps.getD 57 undef = .agg #[.int .i64 p.b, .int .i64 p.o] from hp 4 (by kernel_rfl) (by decide))
            have ha := ha.add (show act_.tmps.getD 61 undef = .int .i64 n from hp 8 (by kernel_rfl) (by decide))
            exact h_callA ha ent39 rfl rfl rfl (con_c p n wI) rfl (by rintro _ w1 ⟨rfl, hR⟩; exact ⟨rfl, hR⟩)
          · intro Q act_ wI hxI ha hp
            have xw_wI : Ext w wI := Ext.tr xw_w6 hxI
            replace hoD1 := hoD1.ext hxI
            replace ho := ho.ext hxI
            have ha := ha.add (show act_.tmps.getD 62 undef = .tuple #[.agg #[.string (B ((conR p.b p.o n).1.g)), .int .i64 ((conR p.b p.o n).1.v), .string (B ((conR p.b p.o n).1.d))], .int .i64 ((conR p.b p.o n).2)] from hp 9 (by kernel_rfl) (by decide))
            exact h_evA (v := .tuple #[.agg #[.string (B ((conR p.b p.o n).1.g)), .int .i64 ((conR p.b p.o n).1.v), .string (B ((conR p.b p.o n).1.d))], .int .i64 ((conR p.b p.o n).2)]) ha rfl (e_move rfl) rfl rfl (Ext.rfl' _)
          · intro Q act_ wI hxI ha hp
            have xw_wI : Ext w wI := Ext.tr xw_w6 hxI
            replace hoD1 := hoD1.ext hxI
            replace ho := ho.ext hxI
            have ha := ha.add (show act_.tmps.getD 52 undef = .tuple #[.agg #[.string (B ((conR p.b p.o n).1.g)), .int .i64 ((conR p.b p.o n).1.v), .string (B ((conR p.b p.o n).1.d))], .int .i64 ((conR p.b p.o n).2)] from hp 10 (by kernel_rfl) (by decide))
            exact h_evA (v := .agg #[.string (B ((conR p.b p.o n).1.g)), .int .i64 ((conR p.b p.o n).1.v), .string (B ((conR p.b p.o n).1.d))]) ha rfl (e_extract (vs := [.agg #[.string (B ((conR p.b p.o n).1.g)), .int .i64 ((conR p.b p.o n).1.v), .string (B ((conR p.b p.o n).1.d))], .int .i64 ((conR p.b p.o n).2)]) rfl rfl) rfl rfl (Ext.rfl' _)
          · intro Q act_ wI hxI ha hp
            have xw_wI : Ext w wI := Ext.tr xw_w6 hxI
            replace hoD1 := hoD1.ext hxI
            replace ho := ho.ext hxI
            exact h_evA ha rfl (e_alloc Try.zeroValue41) rfl ⟨_, rfl, Blk.new wI 41 [.string (B []), .int .i64 0, .string (B [])], Below.size hxI⟩ (Ext.alloc _ _)
          · intro act_ wI hxI ha hp
            have xw_wI : Ext w wI := Ext.tr xw_w6 hxI
            replace hoD1 := hoD1.ext hxI
            replace ho := ho.ext hxI
            have ha := ha.add (show act_.tmps.getD 52 undef = .tuple #[.agg #[.string (B ((conR p.b p.o n).1.g)), .int .i64 ((conR p.b p.o n).1.v), .string (B ((conR p.b p.o n).1.d))], .int .i64 ((conR p.b p.o n).2)] from hp 10 (by kernel_rfl) (by decide))
            exact l_ev (v := .int .i64 ((conR p.b p.o n).2)) ha rfl (fun _ => e_extract (vs := [.agg #[.string (B ((conR p.b p.o n).1.g)), .int .i64 ((conR p.b p.o n).1.v), .string (B ((conR p.b p.o n).1.d))], .int .i64 ((conR p.b p.o n).2)]) rfl rfl) rfl rfl
          intro vs_ w7 hx_w7 hvs act_ ha hv
          have xw_w7 : Ext w w7 := Ext.tr xw_w6 hx_w7
          replace hoD1 := hoD1.ext hx_w7
          replace ho := ho.ext hx_w7
          have ha := ha.add ((hv 11 (by decide)).trans (show vs_ 11 = .agg #[.string (B ((conR p.b p.o n).1.g)), .int .i64 ((conR p.b p.o n).1.v), .string (B ((conR p.b p.o n).1.d))] from hvs 11 (by decide)))
          have ha := ha.add ((hv 12 (by decide)).trans (show vs_ 12 = .int .i64 ((conR p.b p.o n).2) from hvs 12 (by decide)))
          obtain ⟨b12, e12, hb12, hg12⟩ := (show ∃ b_, vs_ 13 = Value.pointer (some ⟨b_, 0, none⟩) ∧ Blk w7 b_ 41 [.string (B []), .int .i64 0, .string (B [])] ∧ w6.heap.size ≤ b_ from hvs 13 (by decide))
          have ha := ha.add ((hv 13 (by decide)).trans e12)
          have ge_b12 : w.heap.size ≤ b12 := Nat.le_trans (Below.size xw_w6) hg12
          refine st_go ha ?_
          clear ha hv hvs
          refine st_blkV [.string (B ((conR p.b p.o n).1.g)), .int .i64 ((conR p.b p.o n).1.v), .string (B ((conR p.b p.o n).1.d))] [.string (B ((conR p.b p.o n).1.g)), .int .i64 ((conR p.b p.o n).1.v), .string (B ((conR p.b p.o n).1.d))] rfl rfl rfl hb12 rfl Try.sizeOf41 (Nat.le_of_ble_eq_true rfl) rfl rfl ?_
          intro w8 hn_ hm_w8 hs_w8
          have ho_ := hb12
          replace hb12 := hn_
          clear hn_
          replace hoD1 := hoD1.mut hm_w8 (Own.ne hoD1 ho_ (by decide))
          replace ho := ho.mut hm_w8 (Own.ne ho ho_ (by decide))
          have xw_w8 : Ext w w8 := below_mut xw_w7 (Below.size xw_w7) hm_w8 ge_b12
          refine st_ev (v := .int .i64 ((conR p.b p.o n).2)) rfl (e_assign rfl) ?_
          refine st_nil (nrm_k ?_)
          refine sc_seq ?_
          refine sc_seq ?_
          refine sc_reg ?_
          refine Go.XK.s (v := .int .i64 ((conR p.b p.o n).2)) (e_move rfl) ?_
          refine Go.XK.s (v := .bool (decide ((conR p.b p.o n).2 ≠ 0))) (e_ne rfl rfl) ?_
          refine sl_nil (nrm_k ?_)
          refine sc_ifd rfl (fun c66 => ?_) (fun c66 => ?_)
          ·
            refine sc_seq ?_
            refine sc_reg ?_
            refine Go.XK.s (v := .int .i64 ((conR p.b p.o n).2)) (e_move rfl) ?_
            refine Go.XK.s (v := .slice none 0 0) (e_assign rfl) ?_
            refine Go.XK.s (v := .int .i64 ((conR p.b p.o n).2)) (e_assign rfl) ?_
            refine sl_nil (nrm_k ?_)
            refine sc_retf rfl (ret2 Try.results33 (rvt rfl) (rvt rfl) ?_)
            exact ⟨.slice none 0 0, by rw [joinR_2 c25 (joinAt_bad hT (jstep_2 hmx_ c44 hi0 hpp hn c66) c66 (by omega))], by rw [joinR_2 c25 (joinAt_bad hT (jstep_2 hmx_ c44 hi0 hpp hn c66) c66 (by omega))]; exact Go.XK.Own.nil _ _ _ _ _, xw_w8⟩
          ·
            refine sc_skip (nrm_k ?_)
            refine sc_seq ?_
            refine sc_reg ?_
            refine Go.XK.s (v := .agg #[.string (B ((conR p.b p.o n).1.g)), .int .i64 ((conR p.b p.o n).1.v), .string (B ((conR p.b p.o n).1.d))]) (e_load rfl (hb12.loadA Try.isAgg41 Try.sizeOf41 rfl)) ?_
            refine s_bslice (vs := [(0, .agg #[.string (B ((conR p.b p.o n).1.g)), .int .i64 ((conR p.b p.o n).1.v), .string (B ((conR p.b p.o n).1.d))])]) (e := 41) rfl [.string (B ((conR p.b p.o n).1.g)), .int .i64 ((conR p.b p.o n).1.v), .string (B ((conR p.b p.o n).1.d))] (by kernel_rfl) ?_
            intro b70 w9 hb70 he70 hs70 hx70
            have ne_b70_b12 : b70 ≠ b12 := by have h_ := hb12.lt; omega
            have no_b70_hoD1 : Value.ownBlock (.slice AD1 ((lenL (gs.map (fun g_ : Gp => g_.l))).length) cD1) ≠ some b70 := fun h_ => by have h2_ := (Go.XK.Own.lt hoD1 _ h_).2; omega
            have no_b70_ho : Value.ownBlock v_ ≠ some b70 := fun h_ => by have h2_ := (Go.XK.Own.lt ho _ h_).2; omega
            have ge_b70 : w.heap.size ≤ b70 := by have h_ := (Below.size xw_w8); omega
            have xw_w9 : Ext w w9 := Ext.tr xw_w8 hx70
            replace hb12 := hb12.ext hx70
            replace hoD1 := hoD1.ext hx70
            replace ho := ho.ext hx70
            refine sl_call ent11 rfl rfl (encode_c [(conR p.b p.o n).1] _ _ w9 (slr_one hb70) (con_sl _ _ _)) (by decide) ?_
            rintro _ w10 ⟨rfl, hw10⟩
            have xw_w10 : Ext w w10 := Ext.tr xw_w9 hw10
            replace hb12 := hb12.ext hw10
            replace hb70 := hb70.ext hw10
            replace hoD1 := hoD1.ext hw10
            replace ho := ho.ext hw10
            refine Go.XK.s (v := .tuple #[.string (B ((encR [(conR p.b p.o n).1]).1)), .int .i64 ((encR [(conR p.b p.o n).1]).2)]) (e_move rfl) ?_
            refine Go.XK.s (v := .string (B ((encR [(conR p.b p.o n).1]).1))) (e_extract (vs := [.string (B ((encR [(conR p.b p.o n).1]).1)), .int .i64 ((encR [(conR p.b p.o n).1]).2)]) rfl rfl) ?_
            refine Go.XK.s (v := .int .i64 ((encR [(conR p.b p.o n).1]).2)) (e_extract (vs := [.string (B ((encR [(conR p.b p.o n).1]).1)), .int .i64 ((encR [(conR p.b p.o n).1]).2)]) rfl rfl) ?_
            refine Go.XK.s (v := .string (B ((encR [(conR p.b p.o n).1]).1))) (e_assign rfl) ?_
            refine Go.XK.s (v := .int .i64 ((encR [(conR p.b p.o n).1]).2)) (e_assign rfl) ?_
            refine sl_nil (nrm_k ?_)
            refine sc_reg ?_
            refine Go.XK.s (v := v_) (e_move rfl) ?_
            refine Go.XK.s (v := .int .i64 (i : Int)) (e_move rfl) ?_
            refine Go.XK.s (v := .int .i64 ((i : Int) - 1)) (e_sub rfl rfl (by omega)) ?_
            refine Go.XK.s (v := .pointer (some (el (ownA v_) 1 ((i : Int) - 1) 0))) (e_idxOwn (x0 := o) Try.underlying48 Try.sizeOf9 rfl rfl ho (fun _ => rfl) (by rw [hti]; exact rep_prev _ ho1) (by omega)) ?_
            refine Go.XK.s (v := .string (B o)) (e_ldEl (xs := (os ++ [(encR x.l).1]) ++ List.replicate (gs.length - (i + 1)) []) (enc := encS) (e := o) rfl (Go.XK.Own.rd ho (fun _ => rfl)) (by rw [hti]; exact rep_prev _ ho1) Try.isAgg9 rfl) ?_
            refine Go.XK.s (v := .string (B ((encR [(conR p.b p.o n).1]).1))) (e_move rfl) ?_
            refine Go.XK.s (v := .string (B (o ++ ((encR [(conR p.b p.o n).1]).1)))) (e_sadd rfl rfl (by simp only [maxLen] at *; omega)) ?_
            refine Go.XK.s (v := .pointer (some (el (ownA v_) 1 ((i : Int) - 1) 0))) (e_idxOwn (x0 := o) Try.underlying48 Try.sizeOf9 rfl rfl ho (fun _ => rfl) (by rw [hti]; exact rep_prev _ ho1) (by omega)) ?_
            refine su_ownSet (w0 := w) (x0 := o) (v := v_) (o ++ ((encR [(conR p.b p.o n).1]).1)) rfl rfl ho xw_w10 (fun _ => rfl) (by rw [hti]; exact rep_prev _ ho1) (by decide) rfl rfl Try.sizeOf9 rfl ?_
            intro w11 hn_ xw_w11 hg_w11
            have ho_ := ho
            replace hb12 := hb12.grown hg_w11 (Own.ne ho_ hb12 (by decide))
            replace hb70 := hb70.grown hg_w11 (Own.ne ho_ hb70 (by decide))
            replace hoD1 := Go.XK.Own.other hoD1 ho_ hg_w11 (by decide)
            replace ho := hn_
            clear hn_ ho_
            rw [rep_set2 _ _ hol0 hi0] at ho
            refine sl_nil (nrm_k ?_)
            refine sc_reg ?_
            refine Go.XK.s (v := .int .i64 ((i : Int) + 1)) (e_add rfl rfl (by omega)) ?_
            refine Go.XK.s (v := .int .i64 ((i : Int) + 1)) (e_move rfl) ?_
            refine sl_nil ?_
            exact nrm_loopq rfl _ _ (by omega) ⟨i + 1, os.set (i - 1) (o ++ (encR [(conR p.b p.o n).1]).1) ++ [(encR x.l).1], v_, rfl, rfl, xw_w11, hoD1, ho, ⟨⟨by omega, by simp; omega, bnd_set hbo hel ho1 hcl⟩, by rw [joinAt_ok hT]; exact jstep_3 hmx_ c44 hi0 hpp hn c66 ho1⟩⟩ (.cons rfl (.cons rfl (.cons rfl (.cons rfl (.cons rfl (.cons rfl (.nil)))))))
    ·
      refine sc_exit rfl (nrm_k ?_)
      refine sc_seq ?_
      refine sc_reg ?_
      refine Go.XK.s (v := v_) (e_move rfl) ?_
      refine Go.XK.s (v := v_) (e_assign rfl) ?_
      refine Go.XK.s (v := .int .i64 0) (e_assign rfl) ?_
      refine sl_nil (nrm_k ?_)
      refine sc_retf rfl (ret2 Try.results33 (rvt rfl) (rvt rfl) ?_)
      have hie : i = gs.length := by omega
      subst hie
      rw [Nat.sub_self, List.replicate_zero, List.append_nil] at ho
      have hr_ := joinR_2 c25 hT
      exact ⟨_, by rw [hr_], by rw [hr_]; exact ho, xw_w3⟩

/-- masterdisc/masterdiscref24.Join (function 38) -/
theorem rjoin_c (gs : List Gp) (Ag : Option Addr) (cg : Nat) (ps : List Pl) (A2 : Option Addr) (c2 : Nat) (w : World) (hg : SlR w Ag cg 1 encG gs) (hin : InG w gs) (hps : SlR w A2 c2 2 encPl ps) (hbg : ∀ g ∈ gs, szL g.l ≤ 1000000) (hll : gs.length ≤ 1000000) : CallR Try.prog 38 [.slice Ag gs.length cg, .slice A2 ps.length c2] w (fun v w' => ∃ v1, v = .tuple #[v1, .int .i64 (joinR (gs.map (fun g_ : Gp => g_.l)) ps).2] ∧ Go.XK.Own w' w.heap.size 9 1 encS v1 (joinR (gs.map (fun g_ : Gp => g_.l)) ps).1 ∧ Ext w w') := by
  have hmx0 := hg.lenle
  simp only [maxLen] at hmx0
  have hmx1 := hps.lenle
  simp only [maxLen] at hmx1
  refine callR_of (n := 86) [(0, .slice Ag gs.length cg), (1, .slice A2 ps.length c2)] Try.func38 rfl rfl (Nat.le_of_ble_eq_true rfl) rfl ?_
  refine sc_seq ?_
  refine sc_reg ?_
  refine Go.XK.s (v := .slice none 0 0) (e_assign rfl) ?_
  refine Go.XK.s (v := .int .i64 0) (e_assign rfl) ?_
  refine sl_nil (nrm_k ?_)
  refine sc_seq ?_
  refine sc_seq ?_
  refine sc_reg ?_
  refine Go.XK.s (v := .slice Ag gs.length cg) (e_move rfl) ?_
  refine Go.XK.s (v := .int .i64 (gs.length : Int)) (e_len Try.underlying33 rfl) ?_
  refine Go.XK.s (v := .bool (decide ((gs.length : Int) = 0))) (e_eq rfl rfl) ?_
  refine Go.XK.s (v := .bool (decide ((gs.length : Int) = 0))) (e_move rfl) ?_
  refine sl_merge 7 25 (.bool ((decide ((gs.length : Int) = 0)) || (decide ((ps.length : Int) ≠ (gs.length : Int) - 1)))) ?_ ?_
  · refine sl_case (t := 18) rfl (fun g1_3 => ?_) (fun g1_3 => ?_)
    ·
      refine sl_gskip rfl rfl g1_3 (by decide) ?_
      refine sl_gskip rfl rfl g1_3 (by decide) ?_
      refine sl_gskip rfl rfl g1_3 (by decide) ?_
      refine sl_gskip rfl rfl g1_3 (by decide) ?_
      refine sl_gskip rfl rfl g1_3 (by decide) ?_
      refine sl_gskip rfl rfl g1_3 (by decide) ?_
      refine Go.XK.s (v := .bool true) (e_pickT rfl g1_3 rfl) ?_
      exact sl_nil (fun a ha => ⟨rfl, ha.sub (.cons (by rw [g1_3]; rfl) (sub_self_cons (sub_self_cons (sub_self_cons (sub_self_cons (sub_self_cons (sub_self_cons (sub_self_cons (Sub.refl _) rfl) rfl) rfl) rfl) rfl) rfl) rfl))⟩)
    ·
      refine sl_gev (v := .slice A2 ps.length c2) rfl rfl g1_3 (e_move rfl) rfl (by decide) ?_
      refine sl_gev (v := .int .i64 (ps.length : Int)) rfl rfl g1_3 (e_len Try.underlying51 rfl) rfl (by decide) ?_
      refine sl_gev (v := .slice Ag gs.length cg) rfl rfl g1_3 (e_move rfl) rfl (by decide) ?_
      refine sl_gev (v := .int .i64 (gs.length : Int)) rfl rfl g1_3 (e_len Try.underlying33 rfl) rfl (by decide) ?_
      refine sl_gev (v := .int .i64 ((gs.length : Int) - 1)) rfl rfl g1_3 (e_sub rfl rfl (by omega)) rfl (by decide) ?_
      refine sl_gev (v := .bool (decide ((ps.length : Int) ≠ (gs.length : Int) - 1))) rfl rfl g1_3 (e_ne rfl rfl) rfl (by decide) ?_
      refine Go.XK.s (v := .bool (decide ((ps.length : Int) ≠ (gs.length : Int) - 1))) (e_pickF rfl g1_3 rfl) ?_
      exact sl_nil (fun a ha => ⟨rfl, ha.sub (.cons (by rw [g1_3]; rfl) (sub_self_cons (sub_self_cons (sub_self_cons (sub_self_cons (sub_self_cons (sub_self_cons (sub_self_cons (Sub.refl _) rfl) rfl) rfl) rfl) rfl) rfl) rfl))⟩)
  refine sl_nil (nrm_k ?_)
  refine sc_if rfl (fun c25 => ?_) (fun c25 => ?_)
  ·
    refine sc_seq ?_
    refine sc_reg ?_
    refine Go.XK.s (v := .slice none 0 0) (e_assign rfl) ?_
    refine Go.XK.s (v := .int .i64 1) (e_assign rfl) ?_
    refine sl_nil (nrm_k ?_)
    refine sc_retf rfl (ret2 Try.results38 (rvt rfl) (rvt rfl) ?_)
    exact ⟨.slice none 0 0, by rw [joinR_1 c25], by rw [joinR_1 c25]; exact Go.XK.Own.nil _ _ _ _ _, (Ext.rfl' w)⟩
  ·
    refine sc_skip (nrm_k ?_)
    refine sc_seq ?_
    refine sc_reg ?_
    refine Go.XK.s (v := .slice Ag gs.length cg) (e_move rfl) ?_
    refine sl_call ent23 rfl rfl (rlens_c _ _ _ w (hg.ext (Ext.rfl' w)) (hin.ext (Ext.rfl' w)) hbg (by omega)) (by decide) ?_
    rintro vD2 w1 ⟨hoD2, hw1⟩
    replace hoD2 := Own.low hoD2 (Below.size (Ext.rfl' w))
    have xw_w1 : Ext w w1 := Ext.tr (Ext.rfl' w) hw1
    obtain ⟨AD2, cD2, eD2_, hlcD2, hcmD2, _⟩ := Go.XK.Own.shape hoD2 (fun _ => rfl)
    subst eD2_
    refine Go.XK.s (v := .slice AD2 (lenL (gs.map (fun g_ : Gp => g_.l))).length cD2) (e_assign rfl) ?_
    refine sl_nil (nrm_k ?_)
    refine sc_seq ?_
    refine sc_reg ?_
    refine s_bslice (vs := []) (e := 9) rfl [] (by kernel_rfl) ?_
    intro b28 w2 hb28 he28 hs28 hx28
    have no_b28_hoD2 : Value.ownBlock (.slice AD2 ((lenL (gs.map (fun g_ : Gp => g_.l))).length) cD2) ≠ some b28 := fun h_ => by have h2_ := (Go.XK.Own.lt hoD2 _ h_).2; omega
    have ge_b28 : w.heap.size ≤ b28 := by have h_ := (Below.size xw_w1); omega
    have xw_w2 : Ext w w2 := Ext.tr xw_w1 hx28
    replace hoD2 := hoD2.ext hx28
    have ho28 : Go.XK.Own w2 w.heap.size 9 1 encS (.slice (some ⟨b28, 0, none⟩) 0 0) [] := Go.XK.Own.ofBlk (xs := []) hb28 ge_b28 (fun _ => rfl) (by simp)
    refine Go.XK.s (v := .slice (some ⟨b28, 0, none⟩) 0 0) (e_assign rfl) ?_
    refine sl_nil (nrm_k ?_)
    refine sc_seq ?_
    refine sc_seq ?_
    refine sc_reg ?_
    refine Go.XK.s (v := .int .i64 0) (e_assign rfl) ?_
    refine sl_nil (nrm_k ?_)
    refine sc_block ?_
    refine sc_loop (fun m_ l_ w_ => ∃ (i : Nat) (os : List (List UInt8)) (v_ : Value), m_ = gs.length - i ∧ l_ = [(8, .int .i64 (i : Int)), (7, v_), (0, .slice Ag gs.length cg), (1, .slice A2 ps.length c2), (6, .slice AD2 (lenL (gs.map (fun g_ : Gp => g_.l))).length cD2)] ∧ Ext w w_ ∧ Go.XK.Own w_ w.heap.size 3 1 encI (.slice AD2 ((lenL (gs.map (fun g_ : Gp => g_.l))).length) cD2) (lenL (gs.map (fun g_ : Gp => g_.l))) ∧ Go.XK.Own w_ w.heap.size 9 1 encS v_ os ∧ (i ≤ gs.length ∧ os.length = i ∧ ∀ z ∈ os, z.length ≤ 516096 * (i + 1)) ∧ joinAt (gs.map (fun g_ : Gp => g_.l)) ps i = (os, 0)) _ [(8, .int .i64 (0 : Int)), (7, (.slice (some ⟨b28, 0, none⟩) 0 0)), (0, .slice Ag gs.length cg), (1, .slice A2 ps.length c2), (6, .slice AD2 (lenL (gs.map (fun g_ : Gp => g_.l))).length cD2)] ⟨0, [], .slice (some ⟨b28, 0, none⟩) 0 0, rfl, rfl, xw_w2, hoD2, ho28, ⟨⟨by omega, rfl, fun _ h_ => by cases h_⟩, rfl⟩⟩ (.cons rfl (.cons rfl (.cons rfl (.cons rfl (.cons rfl (.nil)))))) ?_
    rintro j4 _ w3 ⟨i, os, v_, rfl, rfl, xw_w3, hoD2, ho, ⟨⟨hi, hol0, hbo⟩, hT⟩⟩
    refine sc_seq ?_
    refine sc_seq ?_
    refine sc_reg ?_
    refine Go.XK.s (v := .int .i64 (i : Int)) (e_move rfl) ?_
    refine Go.XK.s (v := .slice Ag gs.length cg) (e_move rfl) ?_
    refine Go.XK.s (v := .int .i64 (gs.length : Int)) (e_len Try.underlying33 rfl) ?_
    refine Go.XK.s (v := .bool (decide ((i : Int) < (gs.length : Int)))) (e_lt rfl rfl) ?_
    refine sl_nil (nrm_k ?_)
    refine sc_ifd rfl (fun c32 => ?_) (fun c32 => ?_)
    ·
      obtain ⟨x, hx⟩ : ∃ x, gs[i]? = some x := ⟨_, List.getElem?_eq_getElem (by omega)⟩
      have hin_x := hin x (List.mem_of_getElem? hx)
      have hmx_ := map_get hx
      have hel := encR_len x.l
      have hdr := of_decide_eq_false (Bool.or_eq_false_iff.1 c25).1
      have hdq := of_decide_eq_false (Bool.or_eq_false_iff.1 c25).2
      refine sc_skip (nrm_k ?_)
      refine sc_seq ?_
      refine sc_block ?_
      refine sc_seq ?_
      refine sc_reg ?_
      refine Go.XK.s (v := .slice Ag gs.length cg) (e_move rfl) ?_
      refine Go.XK.s (v := .int .i64 (i : Int)) (e_move rfl) ?_
      refine Go.XK.s (v := .pointer (some (el Ag 1 (i : Int) 0))) (e_idxEl (e := x) Try.underlying33 Try.sizeOf22 rfl rfl (hg.1.ext xw_w3) hx (by omega) rfl) ?_
      refine Go.XK.s (v := .slice x.A x.l.length x.c) (e_ldEl (xs := gs) (enc := encG) (e := x) rfl (hg.1.ext xw_w3) hx Try.isAgg22 rfl) ?_
      refine sl_call ent12 rfl rfl (rencode_c _ _ _ w3 (hin_x.ext xw_w3)) (by decide) ?_
      rintro _ w5 ⟨rfl, hw5⟩
      have xw_w5 : Ext w w5 := Ext.tr xw_w3 hw5
      replace hoD2 := hoD2.ext hw5
      replace ho := ho.ext hw5
      refine Go.XK.s (v := .tuple #[.string (B ((encR x.l).1)), .int .i64 ((encR x.l).2)]) (e_move rfl) ?_
      refine Go.XK.s (v := .string (B ((encR x.l).1))) (e_extract (vs := [.string (B ((encR x.l).1)), .int .i64 ((encR x.l).2)]) rfl rfl) ?_
      refine Go.XK.s (v := .int .i64 ((encR x.l).2)) (e_extract (vs := [.string (B ((encR x.l).1)), .int .i64 ((encR x.l).2)]) rfl rfl) ?_
      refine Go.XK.s (v := .string (B ((encR x.l).1))) (e_assign rfl) ?_
      refine Go.XK.s (v := .int .i64 ((encR x.l).2)) (e_assign rfl) ?_
      refine sl_nil (nrm_k ?_)
      refine sc_seq ?_
      refine sc_seq ?_
      refine sc_reg ?_
      refine Go.XK.s (v := .int .i64 ((encR x.l).2)) (e_move rfl) ?_
      refine Go.XK.s (v := .bool (decide ((encR x.l).2 ≠ 0))) (e_ne rfl rfl) ?_
      refine sl_nil (nrm_k ?_)
      refine sc_ifd rfl (fun c44 => ?_) (fun c44 => ?_)
      ·
        refine sc_seq ?_
        refine sc_reg ?_
        refine Go.XK.s (v := .int .i64 ((encR x.l).2)) (e_move rfl) ?_
        refine Go.XK.s (v := .slice none 0 0) (e_assign rfl) ?_
        refine Go.XK.s (v := .int .i64 ((encR x.l).2)) (e_assign rfl) ?_
        refine sl_nil (nrm_k ?_)
        refine sc_retf rfl (ret2 Try.results38 (rvt rfl) (rvt rfl) ?_)
        exact ⟨.slice none 0 0, by rw [joinR_2 c25 (joinAt_bad hT (jstep_1 hmx_ c44) c44 (by omega))], by rw [joinR_2 c25 (joinAt_bad hT (jstep_1 hmx_ c44) c44 (by omega))]; exact Go.XK.Own.nil _ _ _ _ _, xw_w5⟩
      ·
        refine sc_skip (nrm_k ?_)
        refine sc_seq ?_
        refine sc_seq ?_
        refine sc_reg ?_
        refine Go.XK.s (v := .int .i64 (i : Int)) (e_move rfl) ?_
        refine Go.XK.s (v := .bool (decide ((0 : Int) < (i : Int)))) (e_gt rfl rfl) ?_
        refine sl_nil (nrm_k ?_)
        refine sc_ifd rfl (fun c47 => ?_) (fun c47 => ?_)
        ·
          have hi0 : 0 < i := by omega
          obtain ⟨p, hpp⟩ : ∃ p, ps[i - 1]? = some p := ⟨_, List.getElem?_eq_getElem (by omega)⟩
          obtain ⟨n, hn⟩ : ∃ n, (lenL (gs.map (fun g_ : Gp => g_.l)))[i]? = some n := ⟨_, List.getElem?_eq_getElem (by rw [lenL_length, List.length_map]; omega)⟩
          obtain ⟨o, ho1⟩ : ∃ o, os[i - 1]? = some o := ⟨_, List.getElem?_eq_getElem (by omega)⟩
          have hti : ((i : Int) - 1).toNat = i - 1 := by omega
          have hpq : ps[((i : Int) - 1).toNat]? = some p := by rw [hti]; exact hpp
          have ho1q : os[((i : Int) - 1).toNat]? = some o := by rw [hti]; exact ho1
          have hol := hbo o (List.mem_of_getElem? ho1)
          have hcl := encR_len [(conR p.b p.o n).1]
          refine sc_seq ?_
          refine sc_late [(47, .bool (decide ((0 : Int) < (i : Int)))), (46, .int .i64 (i : Int)), (44, .bool (decide ((encR x.l).2 ≠ 0))), (43, .int .i64 ((encR x.l).2)), (10, .int .i64 ((encR x.l).2)), (9, .string (B ((encR x.l).1))), (42, .int .i64 ((encR x.l).2)), (41, .string (B ((encR x.l).1))), (35, .tuple #[.string (B ((encR x.l).1)), .int .i64 ((encR x.l).2)]), (40, .tuple #[.string (B ((encR x.l).1)), .int .i64 ((encR x.l).2)]), (39, .slice x.A x.l.length x.c), (38, .pointer (some (el Ag 1 (i : Int) 0))), (37, .int .i64 (i : Int)), (36, .slice Ag gs.length cg), (32, .bool (decide ((i : Int) < (gs.length : Int)))), (31, .int .i64 (gs.length : Int)), (30, .slice Ag gs.length cg), (29, .int .i64 (i : Int)), (8, .int .i64 (i : Int)), (7, v_), (0, .slice Ag gs.length cg), (1, .slice A2 ps.length c2), (6, .slice AD2 (lenL (gs.map (fun g_ : Gp => g_.l))).length cD2)] [49, 50, 51, 52, 53, 54, 55, 56, 57, 58, 48, 59, 60, 11] [(Is (.slice A2 ps.length c2)), (Is (.int .i64 (i : Int))), (Is (.int .i64 ((i : Int) - 1))), (Is (.pointer (some (el A2 2 ((i : Int) - 1) 0)))), (Is (.agg #[.int .i64 p.b, .int .i64 p.o])), (Is (.slice AD2 (lenL (gs.map (fun g_ : Gp => g_.l))).length cD2)), (Is (.int .i64 (i : Int))), (Is (.pointer (some (el (ownA (.slice AD2 (lenL (gs.map (fun g_ : Gp => g_.l))).length cD2)) 1 (i : Int) 0)))), (Is (.int .i64 n)), (Is (.tuple #[.agg #[.string (B ((conR p.b p.o n).1.g)), .int .i64 ((conR p.b p.o n).1.v), .string (B ((conR p.b p.o n).1.d))], .int .i64 ((conR p.b p.o n).2)])), (Is (.tuple #[.agg #[.string (B ((conR p.b p.o n).1.g)), .int .i64 ((conR p.b p.o n).1.v), .string (B ((conR p.b p.o n).1.d))], .int .i64 ((conR p.b p.o n).2)])), (Is (.agg #[.string (B ((conR p.b p.o n).1.g)), .int .i64 ((conR p.b p.o n).1.v), .string (B ((conR p.b p.o n).1.d))])), (Is (.int .i64 ((conR p.b p.o n).2))), (fun VV WV => ∃ b_, VV = Value.pointer (some ⟨b_, 0, none⟩) ∧ Blk WV b_ 41 [.string (B []), .int .i64 0, .string (B [])] ∧ w5.heap.size ≤ b_)] [14, 15] [0, 1, 2, 3, 4, 5, 6, 7, 8, 9, 10, 11, 13] [12] (by kernel_rfl) (Sub.refl _) (by kernel_rfl) (by kernel_rfl) (by kernel_rfl) (by kernel_rfl) rfl (by kernel_rfl) (ds_ext (Stays.spec (.is _ (.is _ (.is _ (.is _ (.is _ (.is _ (.is _ (.is _ (.is _ (.is _ (.is _ (.is _ (.is _ (.any (fun _ _ _ ⟨b_, e_, h_, g_⟩ hx_ => ⟨b_, e_, h_.ext hx_, g_⟩) (.nil))))))))))))))))) ⟨?_, ?_, ?_, ?_, ?_, ?_, ?_, ?_, ?_, ?_, ?_, ?_, ?_, trivial⟩ ⟨?_, trivial⟩ ?_
          · intro Q act_ wI hxI ha hp
            have xw_wI : Ext w wI := Ext.tr xw_w5 hxI
            replace hoD2 := hoD2.ext hxI
            replace ho := ho.ext hxI
            exact h_evA (v := .slice A2 ps.length c2) ha rfl (e_move rfl) rfl rfl (Ext.rfl' _)
          · intro Q act_ wI hxI ha hp
            have xw_wI : Ext w wI := Ext.tr xw_w5 hxI
            replace hoD2 := hoD2.ext hxI
            replace ho := ho.ext hxI
            exact h_evA (v := .int .i64 (i : Int)) ha rfl (e_move rfl) rfl rfl (Ext.rfl' _)
          · intro Q act_ wI hxI ha hp
            have xw_wI : Ext w wI := Ext.tr xw_w5 hxI
            replace hoD2 := hoD2.ext hxI
            replace ho := ho.ext hxI
            have ha := ha.add (show act_.tmps.getD 50 undef = .int .i64 (i : Int) from hp 1 (by kernel_rfl) (by decide))
            exact h_evA (v := .int .i64 ((i : Int) - 1)) ha rfl (e_sub rfl rfl (by omega)) rfl rfl (Ext.rfl' _)
          · intro Q act_ wI hxI ha hp
            have xw_wI : Ext w wI := Ext.tr xw_w5 hxI
            replace hoD2 := hoD2.ext hxI
            replace ho := ho.ext hxI
            have ha := ha.add (show act_.tmps.getD 49 undef = .slice A2 ps.length c2 from hp 0 (by kernel_rfl) (by decide))
            have ha := ha.add (show act_.tmps.getD 51 undef = .int .i64 ((i : Int) - 1) from hp 2 (by kernel_rfl) (by decide))
            exact h_evA (v := .pointer (some (el A2 2 ((i : Int) - 1) 0))) ha rfl (e_idxEl (e := p) Try.underlying51 Try.sizeOf53 rfl rfl (hps.1.ext xw_wI) hpq (by omega) rfl) rfl rfl (Ext.rfl' _)
          · intro Q act_ wI hxI ha hp
            have xw_wI : Ext w wI := Ext.tr xw_w5 hxI
            replace hoD2 := hoD2.ext hxI
            replace ho := ho.ext hxI
            have ha := ha.add (show act_.tmps.getD 52 undef = .pointer (some (el A2 2 ((i : Int) - 1) 0)) from hp 3 (by kernel_rfl) (by decide))
            exact h_evA (v := .agg #[.int .i64 p.b, .int .i64 p.o]) ha rfl (e_ldElA (xs := ps) (enc := encPl) (e := p) rfl (hps.1.ext xw_wI) hpq Try.isAgg53 Try.sizeOf53 rfl) rfl rfl (Ext.rfl' _)
          · intro Q act_ wI hxI ha hp
            have xw_wI : Ext w wI := Ext.tr xw_w5 hxI
            replace hoD2 := hoD2.ext hxI
            replace ho := ho.ext hxI
            exact h_evA (v := .slice AD2 (lenL (gs.map (fun g_ : Gp => g_.l))).length cD2) ha rfl (e_move rfl) rfl rfl (Ext.rfl' _)
          · intro Q act_ wI hxI ha hp
            have xw_wI : Ext w wI := Ext.tr xw_w5 hxI
            replace hoD2 := hoD2.ext hxI
            replace ho := ho.ext hxI
            exact h_evA (v := .int .i64 (i : Int)) ha rfl (e_move rfl) rfl rfl (Ext.rfl' _)
          · intro Q act_ wI hxI ha hp
            have xw_wI : Ext w wI := Ext.tr xw_w5 hxI
            replace hoD2 := hoD2.ext hxI
            replace ho := ho.ext hxI
            have ha := ha.add (show act_.tmps.getD 54 undef = .slice AD2 (lenL (gs.map (fun g_ : Gp => g_.l))).length cD2 from hp 5 (by kernel_rfl) (by decide))
            have ha := ha.add (show act_.tmps.getD 55 undef = .int .i64 (i : Int) from hp 6 (by kernel_rfl) (by decide))
            exact h_evA (v := .pointer (some (el (ownA (.slice AD2 (lenL (gs.map (fun g_ : Gp => g_.l))).length cD2)) 1 (i : Int) 0))) ha rfl (e_idxOwn (x0 := n) Try.underlying38 Try.sizeOf3 rfl rfl hoD2 (fun _ => rfl) hn (by omega)) rfl rfl (Ext.rfl' _)
          · intro Q act_ wI hxI ha hp
            have xw_wI : Ext w wI := Ext.tr xw_w5 hxI
            replace hoD2 := hoD2.ext hxI
            replace ho := ho.ext hxI
            have ha := ha.add (show act_.tmps.getD 56 undef = .pointer (some (el (ownA (.slice AD2 (lenL (gs.map (fun g_ : Gp => g_.l))).length cD2)) 1 (i : Int) 0)) from hp 7 (by kernel_rfl) (by decide))
            exact h_evA (v := .int .i64 n) ha rfl (e_ldEl (xs := lenL (gs.map (fun g_ : Gp => g_.l))) (enc := encI) (e := n) rfl (Go.XK.Own.rd hoD2 (fun _ => rfl)) hn Try.isAgg3 rfl) rfl rfl (Ext.rfl' _)
          · intro Q act_ wI hxI ha hp
            have xw_wI : Ext w wI := Ext.tr xw_w5 hxI
            replace hoD2 := hoD2.ext hxI
            replace ho := ho.ext hxI
            have ha := ha.add (show act_.tmps.getD 53 undef = .agg #[.int .i64 p.b, .int .i64 p.o] from hp 4 (by kernel_rfl) (by decide))
            have ha := ha.add (show act_.tmps.getD 57 undef = .int .i64 n from hp 8 (by kernel_rfl) (by decide))
            exact h_callA ha ent40 rfl rfl rfl (rcon_c p n wI) rfl (by rintro _ w1 ⟨rfl, hR⟩; exact ⟨rfl, hR⟩)
          · intro Q act_ wI hxI ha hp
            have xw_wI : Ext w wI := Ext.tr xw_w5 hxI
            replace hoD2 := hoD2.ext hxI
            replace ho := ho.ext hxI
            have ha := ha.add (show act_.tmps.getD 58 undef = .tuple #[.agg #[.string (B ((conR p.b p.o n).1.g)), .int .i64 ((conR p.b p.o n).1.v), .string (B ((conR p.b p.o n).1.d))], .int .i64 ((conR p.b p.o n).2)] from hp 9 (by kernel_rfl) (by decide))
            exact h_evA (v := .tuple #[.agg #[.string (B ((conR p.b p.o n).1.g)), .int .i64 ((conR p.b p.o n).1.v), .string (B ((conR p.b p.o n).1.d))], .int .i64 ((conR p.b p.o n).2)]) ha rfl (e_move rfl) rfl rfl (Ext.rfl' _)
          · intro Q act_ wI hxI ha hp
            have xw_wI : Ext w wI := Ext.tr xw_w5 hxI
            replace hoD2 := hoD2.ext hxI
            replace ho := ho.ext hxI
            have ha := ha.add (show act_.tmps.getD 48 undef = .tuple #[.agg #[.string (B ((conR p.b p.o n).1.g)), .int .i64 ((conR p.b p.o n).1.v), .string (B ((conR p.b p.o n).1.d))], .int .i64 ((conR p.b p.o n).2)] from hp 10 (by kernel_rfl) (by decide))
            exact h_evA (v := .agg #[.string (B ((conR p.b p.o n).1.g)), .int .i64 ((conR p.b p.o n).1.v), .string (B ((conR p.b p.o n).1.d))]) ha rfl (e_extract (vs := [.agg #[.string (B ((conR p.b p.o n).1.g)), .int .i64 ((conR p.b p.o n).1.v), .string (B ((conR p.b p.o n).1.d))], .int .i64 ((conR p.b p.o n).2)]) rfl rfl) rfl rfl (Ext.rfl' _)
          · intro Q act_ wI hxI ha hp
            have xw_wI : Ext w wI := Ext.tr xw_w5 hxI
            replace hoD2 := hoD2.ext hxI
            replace ho := ho.ext hxI
            exact h_evA ha rfl (e_alloc Try.zeroValue41) rfl ⟨_, rfl, Blk.new wI 41 [.string (B []), .int .i64 0, .string (B [])], Below.size hxI⟩ (Ext.alloc _ _)
          · intro act_ wI hxI ha hp
            have xw_wI : Ext w wI := Ext.tr xw_w5 hxI
            replace hoD2 := hoD2.ext hxI
            replace ho := ho.ext hxI
            have ha := ha.add (show act_.tmps.getD 48 undef = .tuple #[.agg #[.string (B ((conR p.b p.o n).1.g)), .int .i64 ((conR p.b p.o n).1.v), .string (B ((conR p.b p.o n).1.d))], .int .i64 ((conR p.b p.o n).2)] from hp 10 (by kernel_rfl) (by decide))
            exact l_ev (v := .int .i64 ((conR p.b p.o n).2)) ha rfl (fun _ => e_extract (vs := [.agg #[.string (B ((conR p.b p.o n).1.g)), .int .i64 ((conR p.b p.o n).1.v), .string (B ((conR p.b p.o n).1.d))], .int .i64 ((conR p.b p.o n).2)]) rfl rfl) rfl rfl
          intro vs_ w6 hx_w6 hvs act_ ha hv
          have xw_w6 : Ext w w6 := Ext.tr xw_w5 hx_w6
          replace hoD2 := hoD2.ext hx_w6
          replace ho := ho.ext hx_w6
          have ha := ha.add ((hv 11 (by decide)).trans (show vs_ 11 = .agg #[.string (B ((conR p.b p.o n).1.g)), .int .i64 ((conR p.b p.o n).1.v), .string (B ((conR p.b p.o n).1.d))] from hvs 11 (by decide)))
          have ha := ha.add ((hv 12 (by decide)).trans (show vs_ 12 = .int .i64 ((conR p.b p.o n).2) from hvs 12 (by decide)))
          obtain ⟨b11, e11, hb11, hg11⟩ := (show ∃ b_, vs_ 13 = Value.pointer (some ⟨b_, 0, none⟩) ∧ Blk w6 b_ 41 [.string (B []), .int .i64 0, .string (B [])] ∧ w5.heap.size ≤ b_ from hvs 13 (by decide))
          have ha := ha.add ((hv 13 (by decide)).trans e11)
          have ge_b11 : w.heap.size ≤ b11 := Nat.le_trans (Below.size xw_w5) hg11
          refine st_go ha ?_
          clear ha hv hvs
          refine st_blkV [.string (B ((conR p.b p.o n).1.g)), .int .i64 ((conR p.b p.o n).1.v), .string (B ((conR p.b p.o n).1.d))] [.string (B ((conR p.b p.o n).1.g)), .int .i64 ((conR p.b p.o n).1.v), .string (B ((conR p.b p.o n).1.d))] rfl rfl rfl hb11 rfl Try.sizeOf41 (Nat.le_of_ble_eq_true rfl) rfl rfl ?_
          intro w7 hn_ hm_w7 hs_w7
          have ho_ := hb11
          replace hb11 := hn_
          clear hn_
          replace hoD2 := hoD2.mut hm_w7 (Own.ne hoD2 ho_ (by decide))
          replace ho := ho.mut hm_w7 (Own.ne ho ho_ (by decide))
          have xw_w7 : Ext w w7 := below_mut xw_w6 (Below.size xw_w6) hm_w7 ge_b11
          refine st_ev (v := .int .i64 ((conR p.b p.o n).2)) rfl (e_assign rfl) ?_
          refine st_nil (nrm_k ?_)
          refine sc_seq ?_
          refine sc_seq ?_
          refine sc_reg ?_
          refine Go.XK.s (v := .int .i64 ((conR p.b p.o n).2)) (e_move rfl) ?_
          refine Go.XK.s (v := .bool (decide ((conR p.b p.o n).2 ≠ 0))) (e_ne rfl rfl) ?_
          refine sl_nil (nrm_k ?_)
          refine sc_ifd rfl (fun c62 => ?_) (fun c62 => ?_)
          ·
            refine sc_seq ?_
            refine sc_reg ?_
            refine Go.XK.s (v := .int .i64 ((conR p.b p.o n).2)) (e_move rfl) ?_
            refine Go.XK.s (v := .slice none 0 0) (e_assign rfl) ?_
            refine Go.XK.s (v := .int .i64 ((conR p.b p.o n).2)) (e_assign rfl) ?_
            refine sl_nil (nrm_k ?_)
            refine sc_retf rfl (ret2 Try.results38 (rvt rfl) (rvt rfl) ?_)
            exact ⟨.slice none 0 0, by rw [joinR_2 c25 (joinAt_bad hT (jstep_2 hmx_ c44 hi0 hpp hn c62) c62 (by omega))], by rw [joinR_2 c25 (joinAt_bad hT (jstep_2 hmx_ c44 hi0 hpp hn c62) c62 (by omega))]; exact Go.XK.Own.nil _ _ _ _ _, xw_w7⟩
          ·
            refine sc_skip (nrm_k ?_)
            refine sc_seq ?_
            refine sc_reg ?_
            refine Go.XK.s (v := .agg #[.string (B ((conR p.b p.o n).1.g)), .int .i64 ((conR p.b p.o n).1.v), .string (B ((conR p.b p.o n).1.d))]) (e_load rfl (hb11.loadA Try.isAgg41 Try.sizeOf41 rfl)) ?_
            refine s_bslice (vs := [(0, .agg #[.string (B ((conR p.b p.o n).1.g)), .int .i64 ((conR p.b p.o n).1.v), .string (B ((conR p.b p.o n).1.d))])]) (e := 41) rfl [.string (B ((conR p.b p.o n).1.g)), .int .i64 ((conR p.b p.o n).1.v), .string (B ((conR p.b p.o n).1.d))] (by kernel_rfl) ?_
            intro b66 w8 hb66 he66 hs66 hx66
            have ne_b66_b11 : b66 ≠ b11 := by have h_ := hb11.lt; omega
            have no_b66_hoD2 : Value.ownBlock (.slice AD2 ((lenL (gs.map (fun g_ : Gp => g_.l))).length) cD2) ≠ some b66 := fun h_ => by have h2_ := (Go.XK.Own.lt hoD2 _ h_).2; omega
            have no_b66_ho : Value.ownBlock v_ ≠ some b66 := fun h_ => by have h2_ := (Go.XK.Own.lt ho _ h_).2; omega
            have ge_b66 : w.heap.size ≤ b66 := by have h_ := (Below.size xw_w7); omega
            have xw_w8 : Ext w w8 := Ext.tr xw_w7 hx66
            replace hb11 := hb11.ext hx66
            replace hoD2 := hoD2.ext hx66
            replace ho := ho.ext hx66
            refine sl_call ent12 rfl rfl (rencode_c [(conR p.b p.o n).1] _ _ w8 (slr_one hb66)) (by decide) ?_
            rintro _ w9 ⟨rfl, hw9⟩
            have xw_w9 : Ext w w9 := Ext.tr xw_w8 hw9
            replace hb11 := hb11.ext hw9
            replace hb66 := hb66.ext hw9
            replace hoD2 := hoD2.ext hw9
            replace ho := ho.ext hw9
            refine Go.XK.s (v := .tuple #[.string (B ((encR [(conR p.b p.o n).1]).1)), .int .i64 ((encR [(conR p.b p.o n).1]).2)]) (e_move rfl) ?_
            refine Go.XK.s (v := .string (B ((encR [(conR p.b p.o n).1]).1))) (e_extract (vs := [.string (B ((encR [(conR p.b p.o n).1]).1)), .int .i64 ((encR [(conR p.b p.o n).1]).2)]) rfl rfl) ?_
            refine Go.XK.s (v := .int .i64 ((encR [(conR p.b p.o n).1]).2)) (e_extract (vs := [.string (B ((encR [(conR p.b p.o n).1]).1)), .int .i64 ((encR [(conR p.b p.o n).1]).2)]) rfl rfl) ?_
            refine Go.XK.s (v := .string (B ((encR [(conR p.b p.o n).1]).1))) (e_assign rfl) ?_
            refine Go.XK.s (v := .int .i64 ((encR [(conR p.b p.o n).1]).2)) (e_assign rfl) ?_
            refine sl_nil (nrm_k ?_)
            refine sc_reg ?_
            refine Go.XK.s (v := v_) (e_move rfl) ?_
            refine Go.XK.s (v := .int .i64 (i : Int)) (e_move rfl) ?_
            refine Go.XK.s (v := .int .i64 ((i : Int) - 1)) (e_sub rfl rfl (by omega)) ?_
            refine Go.XK.s (v := v_) (e_move rfl) ?_
            refine Go.XK.s (v := .int .i64 (i : Int)) (e_move rfl) ?_
            refine Go.XK.s (v := .int .i64 ((i : Int) - 1)) (e_sub rfl rfl (by omega)) ?_
            refine Go.XK.s (v := .pointer (some (el (ownA v_) 1 ((i : Int) - 1) 0))) (e_idxOwn (x0 := o) Try.underlying48 Try.sizeOf9 rfl rfl ho (fun _ => rfl) ho1q (by omega)) ?_
            refine Go.XK.s (v := .string (B o)) (e_ldEl (xs := os) (enc := encS) (e := o) rfl (Go.XK.Own.rd ho (fun _ => rfl)) ho1q Try.isAgg9 rfl) ?_
            refine Go.XK.s (v := .string (B ((encR [(conR p.b p.o n).1]).1))) (e_move rfl) ?_
            refine Go.XK.s (v := .string (B (o ++ ((encR [(conR p.b p.o n).1]).1)))) (e_sadd rfl rfl (by simp only [maxLen] at *; omega)) ?_
            refine Go.XK.s (v := .pointer (some (el (ownA v_) 1 ((i : Int) - 1) 0))) (e_idxOwn (x0 := o) Try.underlying48 Try.sizeOf9 rfl rfl ho (fun _ => rfl) ho1q (by omega)) ?_
            refine su_ownSet (w0 := w) (x0 := o) (v := v_) (o ++ ((encR [(conR p.b p.o n).1]).1)) rfl rfl ho xw_w9 (fun _ => rfl) ho1q (by decide) rfl rfl Try.sizeOf9 rfl ?_
            intro w10 hn_ xw_w10 hg_w10
            have ho_ := ho
            replace hb11 := hb11.grown hg_w10 (Own.ne ho_ hb11 (by decide))
            replace hb66 := hb66.grown hg_w10 (Own.ne ho_ hb66 (by decide))
            replace hoD2 := Go.XK.Own.other hoD2 ho_ hg_w10 (by decide)
            replace ho := hn_
            clear hn_ ho_
            rw [set2 _ hi0] at ho
            refine sl_nil (nrm_k ?_)
            refine sc_reg ?_
            refine Go.XK.s (v := v_) (e_move rfl) ?_
            refine Go.XK.s (v := .string (B ((encR x.l).1))) (e_move rfl) ?_
            refine s_bslice (vs := [(0, .string (B ((encR x.l).1)))]) (e := 9) rfl [.string (B ((encR x.l).1))] (by kernel_rfl) ?_
            intro b83 w11 hb83 he83 hs83 hx83
            have ne_b83_b11 : b83 ≠ b11 := by have h_ := hb11.lt; omega
            have ne_b83_b66 : b83 ≠ b66 := by have h_ := hb66.lt; omega
            have no_b83_hoD2 : Value.ownBlock (.slice AD2 ((lenL (gs.map (fun g_ : Gp => g_.l))).length) cD2) ≠ some b83 := fun h_ => by have h2_ := (Go.XK.Own.lt hoD2 _ h_).2; omega
            have no_b83_ho : Value.ownBlock v_ ≠ some b83 := fun h_ => by have h2_ := (Go.XK.Own.lt ho _ h_).2; omega
            have ge_b83 : w.heap.size ≤ b83 := by have h_ := (Below.size xw_w10); omega
            have xw_w11 : Ext w w11 := Ext.tr xw_w10 hx83
            replace hb11 := hb11.ext hx83
            replace hb66 := hb66.ext hx83
            replace hoD2 := hoD2.ext hx83
            replace ho := ho.ext hx83
            refine s_appendLit2 (w0 := w) (z := .string (B [])) (kk := 1) (bytes := 16) rfl rfl Try.underlying48 (by kernel_rfl) rfl (by decide) (fun _ => rfl) one_encS [(encR x.l).1] ho xw_w11 hb83 rfl rfl (by first | omega | (simp only [maxLen]; omega) | (simp; omega) | (simp only [maxLen]; simp; omega)) (by first | omega | (simp only [maxLen]; omega) | (simp; omega) | (simp only [maxLen]; simp; omega)) ?_
            intro v84 w12 ho84 xw_w12 hg84 hat84
            replace hb11 := hb11.grown hg84 (Own.ne ho hb11 (by decide))
            replace hb66 := hb66.grown hg84 (Own.ne ho hb66 (by decide))
            replace hb83 := hb83.grown hg84 no_b83_ho
            replace hoD2 := Go.XK.Own.other hoD2 ho hg84 (by decide)
            refine Go.XK.s (v := v84) (e_assign rfl) ?_
            refine sl_nil (nrm_k ?_)
            refine sc_reg ?_
            refine Go.XK.s (v := .int .i64 (i : Int)) (e_move rfl) ?_
            refine Go.XK.s (v := .int .i64 ((i : Int) + 1)) (e_add rfl rfl (by omega)) ?_
            refine Go.XK.s (v := .int .i64 ((i : Int) + 1)) (e_assign rfl) ?_
            refine sl_nil ?_
            exact nrm_loopq rfl _ _ (by omega) ⟨i + 1, (os.set (i - 1) (o ++ (encR [(conR p.b p.o n).1]).1)) ++ [(encR x.l).1], v84, rfl, rfl, xw_w12, hoD2, ho84, ⟨⟨by omega, by simp; omega, bnd_set hbo hel ho1 hcl⟩, by rw [joinAt_ok hT]; exact jstep_3 hmx_ c44 hi0 hpp hn c62 ho1⟩⟩ (.cons rfl (.cons rfl (.cons rfl (.cons rfl (.cons rfl (.nil))))))
        ·
          refine sc_skip (nrm_k ?_)
          refine sc_reg ?_
          refine Go.XK.s (v := v_) (e_move rfl) ?_
          refine Go.XK.s (v := .string (B ((encR x.l).1))) (e_move rfl) ?_
          refine s_bslice (vs := [(0, .string (B ((encR x.l).1)))]) (e := 9) rfl [.string (B ((encR x.l).1))] (by kernel_rfl) ?_
          intro b83 w13 hb83 he83 hs83 hx83
          have no_b83_hoD2 : Value.ownBlock (.slice AD2 ((lenL (gs.map (fun g_ : Gp => g_.l))).length) cD2) ≠ some b83 := fun h_ => by have h2_ := (Go.XK.Own.lt hoD2 _ h_).2; omega
          have no_b83_ho : Value.ownBlock v_ ≠ some b83 := fun h_ => by have h2_ := (Go.XK.Own.lt ho _ h_).2; omega
          have ge_b83 : w.heap.size ≤ b83 := by have h_ := (Below.size xw_w5); omega
          have xw_w13 : Ext w w13 := Ext.tr xw_w5 hx83
          replace hoD2 := hoD2.ext hx83
          replace ho := ho.ext hx83
          refine s_appendLit2 (w0 := w) (z := .string (B [])) (kk := 1) (bytes := 16) rfl rfl Try.underlying48 (by kernel_rfl) rfl (by decide) (fun _ => rfl) one_encS [(encR x.l).1] ho xw_w13 hb83 rfl rfl (by first | omega | (simp only [maxLen]; omega) | (simp; omega) | (simp only [maxLen]; simp; omega)) (by first | omega | (simp only [maxLen]; omega) | (simp; omega) | (simp only [maxLen]; simp; omega)) ?_
          intro v84 w14 ho84 xw_w14 hg84 hat84
          replace hb83 := hb83.grown hg84 no_b83_ho
          replace hoD2 := Go.XK.Own.other hoD2 ho hg84 (by decide)
          refine Go.XK.s (v := v84) (e_assign rfl) ?_
          refine sl_nil (nrm_k ?_)
          refine sc_reg ?_
          refine Go.XK.s (v := .int .i64 (i : Int)) (e_move rfl) ?_
          refine Go.XK.s (v := .int .i64 ((i : Int) + 1)) (e_add rfl rfl (by omega)) ?_
          refine Go.XK.s (v := .int .i64 ((i : Int) + 1)) (e_assign rfl) ?_
          refine sl_nil ?_
          exact nrm_loopq rfl _ _ (by omega) ⟨i + 1, os ++ [(encR x.l).1], v84, rfl, rfl, xw_w14, hoD2, ho84, ⟨⟨by omega, by simp; omega, bnd_snoc hbo hel⟩, by rw [joinAt_ok hT]; exact jstep_0 hmx_ c44 (by omega)⟩⟩ (.cons rfl (.cons rfl (.cons rfl (.cons rfl (.cons rfl (.nil))))))
    ·
      refine sc_exit rfl (nrm_k ?_)
      refine sc_seq ?_
      refine sc_reg ?_
      refine Go.XK.s (v := v_) (e_move rfl) ?_
      refine Go.XK.s (v := v_) (e_assign rfl) ?_
      refine Go.XK.s (v := .int .i64 0) (e_assign rfl) ?_
      refine sl_nil (nrm_k ?_)
      refine sc_retf rfl (ret2 Try.results38 (rvt rfl) (rvt rfl) ?_)
      have hie : i = gs.length := by omega
      subst hie
      have hr_ := joinR_2 c25 hT
      exact ⟨_, by rw [hr_], by rw [hr_]; exact ho, xw_w3⟩

end Go.Proofs.Ytnbclhbpjlpcoaa
