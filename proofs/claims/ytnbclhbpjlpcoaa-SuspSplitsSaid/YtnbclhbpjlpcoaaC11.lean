/- Chapter 24: C11. Printed by my program wip/tools/wk.py. -/
import Derived.Test.YtnbclhbpjlpcoaaC10
import Derived.Test.YtnbclhbpjlpcoaaXKs
set_option linter.unusedVariables false
set_option linter.unusedSimpArgs false
set_option maxRecDepth 4000
set_option maxHeartbeats 800000
namespace Go.Proofs.Ytnbclhbpjlpcoaa
open Go.XK Go.RowKit
theorem wk_sz {im : List (List UInt8)} {N : Nat} (hN : 2048 ≤ N) : ∀ (k : Nat) (at_ : Int) (us : List UInt8), us.length ≤ N → ∀ z ∈ (wk im k at_ us).1, z.1.length ≤ N := fun k => by
  induction k with
  | zero =>
    intro at_ us hl z hz
    cases hd : decL us.length us with
    | none => rw [wk_bad hd] at hz; cases hz
    | some all =>
      have h1 := decL_bound _ _ _ hd
      have h2 := nonCE_length all
      have h3 : ∀ z ∈ [(nonCE all, at_)], z.1.length ≤ N := fun z hz => by simp at hz; subst hz; show (nonCE all).length ≤ N; omega
      cases hc : lastCE all with
      | none => rw [wk_last hd hc] at hz; exact h3 z hz
      | some j =>
        obtain ⟨y, hy⟩ : ∃ y, all[j]? = some y := ⟨_, List.getElem?_eq_getElem (lastCE_lt hc)⟩
        cases hb : badP y.d with
        | true => rw [wk_corrupt hd hc hy hb] at hz; exact h3 z hz
        | false => rw [wk_loop hd hc hy hb] at hz; exact h3 z hz
  | succ k ih =>
    intro at_ us hl z hz
    cases hd : decL us.length us with
    | none => rw [wk_bad hd] at hz; cases hz
    | some all =>
      have h1 := decL_bound _ _ _ hd
      have h2 := nonCE_length all
      have h3 : ∀ z ∈ [(nonCE all, at_)], z.1.length ≤ N := fun z hz => by simp at hz; subst hz; show (nonCE all).length ≤ N; omega
      cases hc : lastCE all with
      | none => rw [wk_last hd hc] at hz; exact h3 z hz
      | some j =>
        obtain ⟨y, hy⟩ : ∃ y, all[j]? = some y := ⟨_, List.getElem?_eq_getElem (lastCE_lt hc)⟩
        cases hb : badP y.d with
        | true => rw [wk_corrupt hd hc hy hb] at hz; exact h3 z hz
        | false =>
          cases hu : unr im y.d with
          | true => rw [wk_unread hd hc hy hb hu] at hz; exact h3 z hz
          | false =>
            rw [wk_next hd hc hy hb hu] at hz
            rcases List.mem_cons.1 hz with rfl | hz
            · exact h3 _ (by simp)
            · refine ih _ _ ?_ z hz
              simp only [unr, Bool.or_eq_false_iff, decide_eq_false_iff_not] at hu
              unfold nextU
              rw [List.length_drop, List.length_take]
              omega
theorem walkN_step {R : List (List En × Int)} {k : Nat} {x : List En} {at_ a e : Int} {out : List En} (h : R[k]? = some (x, at_)) : walkN (R.drop k) a e out = if (1024 : Int) < ((out ++ x).length : Int) then ([], at_, 7) else walkN (R.drop (k + 1)) a e (out ++ x) := by
  have hk := (List.getElem?_eq_some_iff.1 h).1
  have h2 := (List.getElem?_eq_some_iff.1 h).2
  rw [List.drop_eq_getElem_cons hk, h2, walkN]
theorem StW.move {B : Nat} {bw b1 bp bq : Nat} {A B' w : World} {v : Value} {xs : List En} (h : StW bw b1 A B') (hbw : w.heap.size ≤ bw) (hb1 : w.heap.size ≤ b1) (hx : Ext w A) (ho : Go.XK.Own A B 41 3 encE v xs) (h9 : Blk A bp 22 [v]) (h10 : Blk A bq 87 [.pointer (some ⟨bw, 0, none⟩)]) :
    Ext w B' ∧ Go.XK.Own B' B 41 3 encE v xs ∧ Blk B' bp 22 [v] ∧ Blk B' bq 87 [.pointer (some ⟨bw, 0, none⟩)] := by
  rcases h with ⟨cs, cs', hA, _, hm⟩ | ⟨cs, cs', hA, _, hm⟩
  · exact ⟨below_mut hx (Below.size hx) hm hbw, ho.mut hm (Go.XK.Own.ne ho hA (by decide)), h9.mut hm (Blk.ne h9 hA (by decide)), h10.mut hm (Blk.ne h10 hA (by decide))⟩
  · exact ⟨below_mut hx (Below.size hx) hm hb1, ho.mut hm (Go.XK.Own.ne ho hA (by decide)), h9.mut hm (Blk.ne h9 hA (by decide)), h10.mut hm (Blk.ne h10 hA (by decide))⟩
theorem KC.rowed {D : Nat} {W0 W W' : World} {row : Option Nat} (h : KC W0 W) (hg : W.grownBy W' row) (hr : Rowed D W row) : KC W0 W' := fun k t cs hb => Blk.rowed (h k t cs hb) hg hr
theorem blk_one {w : World} {b : Nat} {t : TypeId} {u v : Value} (h : Blk w b t [u]) (k : Blk w b t [v]) : u = v := by
  unfold Blk at h k
  rw [h] at k
  simpa using k
theorem KpW.rfl' {B0 : Nat} (x : Yl) (W : World) : KpW B0 x W W := ⟨KpT.rfl' _, fun o => o⟩

/-- (*masterdisc/susp.walk).areas (function 56) -/
theorem areas_c (bw : Nat) (im : List (List UInt8)) (Ai : Option Addr) (ci : Nat) (us : List UInt8) (w : World) : CallR Try.prog 56 [.pointer (some ⟨bw, 0, none⟩), .slice Ai im.length ci, .string (B us)] w (fun v w' => ∃ c1 c2 c3 : Nat, v = .func (.func 67) #[] #[.pointer (some ⟨c1, 0, none⟩), .pointer (some ⟨c2, 0, none⟩), .pointer (some ⟨c3, 0, none⟩)] ∧ Blk w' c1 9 [.string (B us)] ∧ Blk w' c2 87 [.pointer (some ⟨bw, 0, none⟩)] ∧ Blk w' c3 56 [.slice Ai im.length ci] ∧ w.heap.size ≤ c1 ∧ w.heap.size ≤ c2 ∧ w.heap.size ≤ c3 ∧ Ext w w') := by
  refine callR_of (n := 8) [(0, .pointer (some ⟨bw, 0, none⟩)), (1, .slice Ai im.length ci), (2, .string (B us))] Try.func56 rfl rfl (Nat.le_of_ble_eq_true rfl) rfl ?_
  refine sc_seq ?_
  refine sc_reg ?_
  refine s_box (cs := [.pointer (some ⟨bw, 0, none⟩)]) rfl rfl ?_
  intro b3 w1 hb3 he3 hs3 hx3
  have ge_b3 : w.heap.size ≤ b3 := by have h_ := (Below.size (Ext.rfl' w)); omega
  have xw_w1 : Ext w w1 := Ext.tr (Ext.rfl' w) hx3
  refine s_box (cs := [.slice Ai im.length ci]) rfl rfl ?_
  intro b4 w2 hb4 he4 hs4 hx4
  have ne_b4_b3 : b4 ≠ b3 := by have h_ := hb3.lt; omega
  have ge_b4 : w.heap.size ≤ b4 := by have h_ := (Below.size xw_w1); omega
  have xw_w2 : Ext w w2 := Ext.tr xw_w1 hx4
  replace hb3 := hb3.ext hx4
  refine s_box (cs := [.string (B us)]) rfl rfl ?_
  intro b5 w3 hb5 he5 hs5 hx5
  have ne_b5_b3 : b5 ≠ b3 := by have h_ := hb3.lt; omega
  have ne_b5_b4 : b5 ≠ b4 := by have h_ := hb4.lt; omega
  have ge_b5 : w.heap.size ≤ b5 := by have h_ := (Below.size xw_w2); omega
  have xw_w3 : Ext w w3 := Ext.tr xw_w2 hx5
  replace hb3 := hb3.ext hx5
  replace hb4 := hb4.ext hx5
  refine Go.XK.s (v := .nilFunc) (e_assign rfl) ?_
  refine sl_nil (nrm_k ?_)
  refine sc_seq ?_
  refine sc_reg ?_
  refine Go.XK.s (v := .func (.func 67) #[] #[.pointer (some ⟨b5, 0, none⟩), .pointer (some ⟨b3, 0, none⟩), .pointer (some ⟨b4, 0, none⟩)]) (e_makeFunc (vs := [.pointer (some ⟨b5, 0, none⟩), .pointer (some ⟨b3, 0, none⟩), .pointer (some ⟨b4, 0, none⟩)]) rfl) ?_
  refine Go.XK.s (v := .func (.func 67) #[] #[.pointer (some ⟨b5, 0, none⟩), .pointer (some ⟨b3, 0, none⟩), .pointer (some ⟨b4, 0, none⟩)]) (e_assign rfl) ?_
  refine sl_nil (nrm_k ?_)
  refine sc_retf rfl (ret1 Try.results56 (rvt rfl) ?_)
  exact ⟨b5, b3, b4, rfl, hb5, hb3, hb4, ge_b5, ge_b3, ge_b4, xw_w3⟩

/-- masterdisc/susp.Walk (function 35) -/
theorem walk_c (im : List (List UInt8)) (Ai : Option Addr) (ci : Nat) (use : List UInt8) (skip : Int) (w : World) (him : SlR w Ai ci 1 encS im) (hul : use.length ≤ 1099511627776) : CallR Try.prog 35 [.slice Ai im.length ci, .string (B use), .int .i64 skip] w (fun v w' => ∃ v1, v = .tuple #[v1, .int .i64 (walkR im use skip).2.1, .int .i64 (walkR im use skip).2.2] ∧ Go.XK.Own w' w.heap.size 41 3 encE v1 (walkR im use skip).1 ∧ Ext w w') := by
  have hmx0 := him.lenle
  simp only [maxLen] at hmx0
  refine callR_ofM (n := 49) [(0, .slice Ai im.length ci), (1, .string (B use)), (2, .int .i64 skip)] Try.func35 rfl rfl (Nat.le_of_ble_eq_true rfl) rfl ?_
  refine sc_seq ?_
  refine sc_reg ?_
  refine Go.XK.s (v := .slice none 0 0) (e_assign rfl) ?_
  refine Go.XK.s (v := .int .i64 0) (e_assign rfl) ?_
  refine Go.XK.s (v := .int .i64 0) (e_assign rfl) ?_
  refine sl_nil (nrm_k ?_)
  refine sc_seq ?_
  refine sc_reg ?_
  refine Go.XK.s (v := .string (B use)) (e_move rfl) ?_
  refine Go.XK.s (v := .string (B use)) (e_move rfl) ?_
  refine Go.XK.s (v := .int .i64 (use.length : Int)) (e_slen Try.underlying9 rfl) ?_
  refine Go.XK.s (v := .int .i64 skip) (e_move rfl) ?_
  refine Go.XK.s (v := .int .i64 (max 0 skip)) (e_max2 (m := max 0 skip) rfl rfl (by split <;> omega)) ?_
  refine Go.XK.s (v := .int .i64 (min (use.length : Int) (max 0 skip))) (e_min2 (m := min (use.length : Int) (max 0 skip)) rfl rfl (by split <;> omega)) ?_
  refine Go.XK.s (v := .string (B (use.drop (min use.length (max 0 skip).toNat)))) (e_sdrop (lo := min use.length (max 0 skip).toNat) Try.underlying9 rfl (Bd.at_ rfl (by omega)) (by omega)) ?_
  refine Go.XK.s (v := .string (B (use.drop (min use.length (max 0 skip).toNat)))) (e_assign rfl) ?_
  refine sl_nil (nrm_k ?_)
  refine sc_seq ?_
  have hus : (use.drop (min use.length (max 0 skip).toNat)).length ≤ 1099511627776 := by rw [List.length_drop]; omega
  refine sc_reg ?_
  refine s_alloc (cs := [.slice none 0 0]) Try.zeroValue22 rfl ?_
  intro b9 w1 hb9 he9 hs9 hx9
  have ge_b9 : w.heap.size ≤ b9 := by have h_ := (Below.size (Ext.rfl' w)); omega
  have xw_w1 : Ext w w1 := Ext.tr (Ext.rfl' w) hx9
  refine sl_nil (nrm_k ?_)
  refine sc_seq ?_
  refine sc_reg ?_
  refine Go.XK.s (v := .agg #[.int .i64 0, .int .i64 0]) (e_build (vs := []) rfl (by kernel_rfl)) ?_
  refine s_box (cs := [.int .i64 0, .int .i64 0]) rfl rfl ?_
  intro b20 w2 hb20 he20 hs20 hx20
  have ne_b20_b9 : b20 ≠ b9 := by have h_ := hb9.lt; omega
  have ge_b20 : w.heap.size ≤ b20 := by have h_ := (Below.size xw_w1); omega
  have xw_w2 : Ext w w2 := Ext.tr xw_w1 hx20
  replace hb9 := hb9.ext hx20
  refine s_alloc (cs := [.pointer none]) Try.zeroValue87 rfl ?_
  intro b10 w3 hb10 he10 hs10 hx10
  have ne_b10_b9 : b10 ≠ b9 := by have h_ := hb9.lt; omega
  have ne_b10_b20 : b10 ≠ b20 := by have h_ := hb20.lt; omega
  have ge_b10 : w.heap.size ≤ b10 := by have h_ := (Below.size xw_w2); omega
  have xw_w3 : Ext w w3 := Ext.tr xw_w2 hx10
  replace hb9 := hb9.ext hx10
  replace hb20 := hb20.ext hx10
  refine su_blkV [.pointer (some ⟨b20, 0, none⟩)] [.pointer (some ⟨b20, 0, none⟩)] rfl rfl hb10 rfl Try.sizeOf87 (Nat.le_of_ble_eq_true rfl) rfl rfl ?_
  intro w4 hn_ hm_w4 hs_w4
  have ho_ := hb10
  replace hb10 := hn_
  clear hn_
  replace hb9 := hb9.mut hm_w4 (Ne.symm ne_b10_b9)
  replace hb20 := hb20.mut hm_w4 (Ne.symm ne_b10_b20)
  have xw_w4 : Ext w w4 := below_mut xw_w3 (Below.size xw_w3) hm_w4 ge_b10
  refine sl_nil (nrm_k ?_)
  refine sc_seq ?_
  refine sc_seq ?_
  refine sc_reg ?_
  refine Go.XK.s (v := .pointer (some ⟨b20, 0, none⟩)) (e_load rfl (load1 Try.isAgg87 (hb10.cell (j := 0) rfl))) ?_
  refine Go.XK.s (v := .slice Ai im.length ci) (e_move rfl) ?_
  refine Go.XK.s (v := .string (B (use.drop (min use.length (max 0 skip).toNat)))) (e_move rfl) ?_
  refine sl_call ent56 rfl rfl (areas_c b20 _ _ _ _ w4) (by decide) ?_
  rintro _ w5 ⟨c1, c2, c3, rfl, hc1, hc2, hc3, hgc1, hgc2, hgc3, hw5⟩
  have ge_c1 : w.heap.size ≤ c1 := Nat.le_trans (Below.size xw_w4) hgc1
  have ge_c2 : w.heap.size ≤ c2 := Nat.le_trans (Below.size xw_w4) hgc2
  have ge_c3 : w.heap.size ≤ c3 := Nat.le_trans (Below.size xw_w4) hgc3
  have xw_w5 : Ext w w5 := Ext.tr xw_w4 hw5
  replace hb9 := hb9.ext hw5
  replace hb20 := hb20.ext hw5
  replace hb10 := hb10.ext hw5
  refine sl_nil (nrm_k ?_)
  refine sc_block ?_
  have hB5_ : w.heap.size ≤ w5.heap.size := Below.size xw_w5
  have hsz_ := wk_sz (im := im) (N := 1099511627776) (by decide) 64 0 (use.drop (min use.length (max 0 skip).toNat)) hus
  refine sc_rangeW (α := Yl) (β := Unit) (lb := [.pointer (some ⟨c1, 0, none⟩), .pointer (some ⟨c2, 0, none⟩), .pointer (some ⟨c3, 0, none⟩)]) (ps := [25]) encY (KpW w.heap.size) (StW b20 c1) (YW im (use.drop (min use.length (max 0 skip).toNat)) b20) (SW im (use.drop (min use.length (max 0 skip).toNat)) b20) (SpW im (use.drop (min use.length (max 0 skip).toNat))) 65 (fun (pre : List Yl) (W : World) => ∃ v : Value, Ext w W ∧ Go.XK.Own W w.heap.size 41 3 encE v (pre.flatMap (fun y_ : Yl => y_.l)) ∧ Blk W b9 22 [v] ∧ Blk W b10 87 [.pointer (some ⟨b20, 0, none⟩)] ∧ walkN (wk im 64 0 (use.drop (min use.length (max 0 skip).toNat))).1 (wk im 64 0 (use.drop (min use.length (max 0 skip).toNat))).2.1 (wk im 64 0 (use.drop (min use.length (max 0 skip).toNat))).2.2 [] = walkN ((wk im 64 0 (use.drop (min use.length (max 0 skip).toNat))).1.drop pre.length) (wk im 64 0 (use.drop (min use.length (max 0 skip).toNat))).2.1 (wk im 64 0 (use.drop (min use.length (max 0 skip).toNat))).2.2 (pre.flatMap (fun y_ : Yl => y_.l)) ∧ (pre.flatMap (fun y_ : Yl => y_.l)).length ≤ 1024) 0 (fun _ _ => False) (fun (pre : List Yl) (W : World) => ∃ at_ : Int, Ext w W ∧ Blk W b10 87 [.pointer (some ⟨b20, 0, none⟩)] ∧ Blk W b20 89 [.int .i64 at_, .int .i64 7] ∧ walkR im use skip = ([], at_, 7)) (fun x _ => [(11, .slice x.A x.l.length x.c), (9, .pointer (some ⟨b9, 0, none⟩)), (10, .pointer (some ⟨b10, 0, none⟩))]) (fun _ _ _ => True) rfl ent67 ?_ (fun _ => rfl) (by decide) KpW.tr (fun x W k_ o o_ => KpW.put x hB5_ W k_ o o_) (fun _ _ => StW.kb) ?_ ?_ (fun _ _ _ _ h_ _ _ => h_.elim) ?_ ?_ ?_ (fun _ _ _ _ _ _ _ _ _ => trivial) ?_ ?_ ?_ ?_ ?_ ?_
  · exact fun id J Jx W hW hJE hJS hY h0 => areas_walk w im (use.drop (min use.length (max 0 skip).toNat)) Ai ci c1 c2 c3 b20 id J Jx W him (Ub.ext (Ub.ofExt xw_w5) hW) (hc1.ext hW) (hc2.ext hW) (hc3.ext hW) (hb20.ext hW) ge_b20 ge_c1 hus hJE hJS hY h0
  · rintro pre_ A_ B_ row_ ⟨v, x1, x2, x3, x4, x5, x6⟩ hg_ hr_
    exact ⟨v, ext_rowed x1 hg_ hr_ hB5_, Go.XK.Own.rowed x2 hg_ hr_, Blk.rowed x3 hg_ hr_, Blk.rowed x4 hg_ hr_, x5, x6⟩
  · rintro pre_ A_ B_ ⟨v, x1, x2, x3, x4, x5, x6⟩ hs_
    obtain ⟨y1, y2, y3, y4⟩ := hs_.move ge_b20 ge_c1 x1 x2 x3 x4
    exact ⟨v, y1, y2, y3, y4, x5, x6⟩
  · rintro pre_ A_ B_ row_ ⟨at_, x1, x2, x3, x4⟩ hg_ hr_
    exact ⟨at_, ext_rowed x1 hg_ hr_ hB5_, Blk.rowed x2 hg_ hr_, Blk.rowed x3 hg_ hr_, x4⟩
  · rintro pre_ A_ B_ row_ ⟨x1, x2⟩ hg_ hr_
    exact ⟨x1, Blk.rowed x2 hg_ hr_⟩
  · rintro W0_ pre_ x_ _ A_ B_ row_ ⟨x1, x2, x3, x4, at_, x5, x6⟩ hg_ hr_
    exact ⟨Go.XK.Own.rowed x1 hg_ hr_, Go.XK.Own.rowed x2 hg_ hr_, x3, KC.rowed x4 hg_ hr_, at_, x5, Blk.rowed x6 hg_ hr_⟩
  · exact ⟨.slice none 0 0, xw_w5, Go.XK.Own.nil _ _ _ _ _, hb9, hb10, rfl, by simp⟩
  · intro id pre x W0 W hI_ hY_
    refine sc_reg ?_
    refine Go.XK.s (v := .slice x.A x.l.length x.c) (e_assign rfl) ?_
    exact sl_nil (fun a_ ha_ => ⟨KeepsFrom.refl _ _, KpW.rfl' _ _, hI_, hY_, (), trivial, ha_.sub (.cons rfl (.cons rfl (.cons rfl .nil)))⟩)
  · intro id pre x u_ W0 W hI0 hI_ hY_ _ hlt
    obtain ⟨v0, _, ho0, h90, _⟩ := hI0
    obtain ⟨v, xw_W, ho, hb9, hb10, hN, hLe⟩ := hI_
    obtain ⟨hoX, hoAll, hB0, hkc, at_, hget, hb20⟩ := hY_
    obtain rfl : v0 = v := blk_one (hkc _ _ _ h90) hb9
    have hdj : Dj v0 x.v := fun g_ h1_ h2_ => by
      have h3_ := (Go.XK.Own.lt ho0 g_ h1_).2
      have h4_ := (Go.XK.Own.lt hoAll g_ h2_).1
      omega
    clear ho0 h90
    have hsX : SlR W x.A x.c 3 encE x.l := Go.XK.Own.slr hoX (fun _ => rfl)
    have hxl : x.l.length ≤ 1099511627776 := hsz_ _ (List.mem_of_getElem? hget)
    rw [walkN_step hget] at hN
    refine sc_block ?_
    refine sc_seq ?_
    refine sc_reg ?_
    refine Go.XK.s (v := v0) (e_load rfl (load1 Try.isAgg22 (hb9.cell (j := 0) rfl))) ?_
    refine Go.XK.s (v := .slice x.A x.l.length x.c) (e_move rfl) ?_
    refine s_appendRd (w0 := w) (z := .agg #[.string (B []), .int .i64 0, .string (B [])]) (kk := 3) (bytes := 40) rfl rfl Try.underlying22 (by kernel_rfl) rfl (by decide) (fun _ => rfl) one_encE x.l ho xw_W hsX rfl (by first | omega | (simp only [maxLen]; omega)) (by first | omega | (simp only [maxLen]; omega)) ?_
    intro v28 w6 ho28 xw_w6 hg28 hat28
    replace hb9 := hb9.grown hg28 (Own.ne ho hb9 (by decide))
    replace hb10 := hb10.grown hg28 (Own.ne ho hb10 (by decide))
    replace hb20 := hb20.grown hg28 (Own.ne ho hb20 (by decide))
    have nW_w6 : NC W w6 := NC.tr (NC.rfl' W) (NC.ofOwn ho hg28)
    have kW_w6 : KpT [9, 87, 56, 89] w.heap.size W w6 := KpT.tr (KpT.rfl' W) (KpT.ofGrown ho hg28 (Nat.le_refl _) (by decide))
    have dj_ho28_hoAll := Dj.app hdj hoAll hat28
    replace hoAll := Own.dj hoAll hdj hg28
    refine su_blkV [v28] [v28] rfl rfl hb9 (own_cells ho28).1 Try.sizeOf22 (Nat.le_of_ble_eq_true rfl) (own_cells ho28).2 rfl ?_
    intro w7 hn_ hm_w7 hs_w7
    have ho_ := hb9
    replace hb9 := hn_
    clear hn_
    replace hb10 := hb10.mut hm_w7 ne_b10_b9
    replace hb20 := hb20.mut hm_w7 ne_b20_b9
    replace hoAll := hoAll.mut hm_w7 (Own.ne hoAll ho_ (by decide))
    replace ho28 := ho28.mut hm_w7 (Own.ne ho28 ho_ (by decide))
    have nW_w7 : NC W w7 := NC.tr nW_w6 (NC.ofMut hm_w7 ho_)
    have kW_w7 : KpT [9, 87, 56, 89] w.heap.size W w7 := KpT.tr kW_w6 (KpT.ofMut hm_w7 ho_ ge_b9 (by decide))
    have xw_w7 : Ext w w7 := below_mut xw_w6 (Below.size xw_w6) hm_w7 ge_b9
    refine sl_nil (nrm_k ?_)
    refine sc_seq ?_
    refine sc_reg ?_
    refine Go.XK.s (v := v28) (e_load rfl (load1 Try.isAgg22 (hb9.cell (j := 0) rfl))) ?_
    refine Go.XK.s (v := .int .i64 (((pre.flatMap (fun y_ : Yl => y_.l)) ++ x.l).length : Int)) (e_lenOwn Try.underlying22 rfl ho28 (fun _ => rfl)) ?_
    refine Go.XK.s (v := .bool (decide ((1024 : Int) < (((pre.flatMap (fun y_ : Yl => y_.l)) ++ x.l).length : Int)))) (e_gt rfl rfl) ?_
    refine sl_nil (nrm_k ?_)
    refine sc_ifd rfl (fun c31 => ?_) (fun c31 => ?_)
    ·
      refine sc_seq ?_
      refine sc_reg ?_
      refine Go.XK.s (v := .pointer (some ⟨b20, 0, none⟩)) (e_load rfl (load1 Try.isAgg87 (hb10.cell (j := 0) rfl))) ?_
      refine Go.XK.s (v := .pointer (some ⟨b20, 0, none⟩)) (e_nilCheck rfl) ?_
      refine Go.XK.s (v := .pointer (some ⟨b20, 1, none⟩)) (e_fieldB (sz := 1) Try.underlying89 rfl Try.sizeOf25 (by decide) rfl rfl) ?_
      refine su_blkV [.int .i64 7] [.int .i64 at_, .int .i64 7] rfl rfl hb20 rfl Try.sizeOf25 (Nat.le_of_ble_eq_true rfl) rfl rfl ?_
      intro w8 hn_ hm_w8 hs_w8
      have ho_ := hb20
      replace hb20 := hn_
      clear hn_
      replace hb9 := hb9.mut hm_w8 (Ne.symm ne_b20_b9)
      replace hb10 := hb10.mut hm_w8 ne_b10_b20
      replace hoAll := hoAll.mut hm_w8 (Own.ne hoAll ho_ (by decide))
      replace ho28 := ho28.mut hm_w8 (Own.ne ho28 ho_ (by decide))
      have nW_w8 : NC W w8 := NC.tr nW_w7 (NC.ofMut hm_w8 ho_)
      have xw_w8 : Ext w w8 := below_mut xw_w7 (Below.size xw_w7) hm_w8 ge_b20
      refine sl_nil (nrm_k ?_)
      refine sc_exit rfl ?_
      rw [if_pos c31] at hN
      exact fun a_ ha_ => ⟨NC.keeps nW_w8 _, ⟨at_, xw_w8, hb10, hb20, hN⟩⟩
    ·
      refine sc_skip ?_
      rw [if_neg c31] at hN
      have he_ : (pre ++ [x]).flatMap (fun y_ : Yl => y_.l) = (pre.flatMap (fun y_ : Yl => y_.l)) ++ x.l := by simp
      have hl_ : (pre ++ [x]).length = pre.length + 1 := by simp
      rw [← he_] at ho28
      exact fun a_ ha_ => ⟨NC.keeps nW_w7 _, ⟨kW_w7, fun _ => hoAll⟩, ⟨v28, xw_w7, ho28, hb9, hb10, by rw [he_, hl_]; exact hN, by rw [he_]; omega⟩⟩
  · intro D xs W hDle hS hI_ hDD
    obtain ⟨v, xw_W, ho, hb9, hb10, hN, hLe⟩ := hI_
    obtain ⟨hS1, hb20⟩ := hS
    have hS2 : (wk im 64 0 (use.drop (min use.length (max 0 skip).toNat))).1.length ≤ xs.length := by
      have h_ := congrArg List.length hS1
      simp only [List.length_map] at h_
      omega
    rw [List.drop_eq_nil_of_le hS2, walkN] at hN
    refine nrm_k ?_
    refine sc_seq ?_
    refine sc_seq ?_
    refine sc_reg ?_
    refine Go.XK.s (v := .pointer (some ⟨b20, 0, none⟩)) (e_load rfl (load1 Try.isAgg87 (hb10.cell (j := 0) rfl))) ?_
    refine Go.XK.s (v := .pointer (some ⟨b20, 0, none⟩)) (e_nilCheck rfl) ?_
    refine Go.XK.s (v := .pointer (some ⟨b20, 1, none⟩)) (e_fieldB (sz := 1) Try.underlying89 rfl Try.sizeOf25 (by decide) rfl rfl) ?_
    refine Go.XK.s (v := .int .i64 ((wk im 64 0 (use.drop (min use.length (max 0 skip).toNat))).2.2)) (e_load rfl (load1 Try.isAgg25 (hb20.cell (j := 1) rfl))) ?_
    refine Go.XK.s (v := .bool (decide ((wk im 64 0 (use.drop (min use.length (max 0 skip).toNat))).2.2 ≠ 0))) (e_ne rfl rfl) ?_
    refine sl_nil (nrm_k ?_)
    refine sc_ifd rfl (fun c39 => ?_) (fun c39 => ?_)
    ·
      refine sc_seq ?_
      refine sc_free [(39, .bool (decide ((wk im 64 0 (use.drop (min use.length (max 0 skip).toNat))).2.2 ≠ 0))), (38, .int .i64 ((wk im 64 0 (use.drop (min use.length (max 0 skip).toNat))).2.2)), (37, .pointer (some ⟨b20, 1, none⟩)), (36, .pointer (some ⟨b20, 0, none⟩)), (35, .pointer (some ⟨b20, 0, none⟩)), (24, .func (.func 67) #[] #[.pointer (some ⟨c1, 0, none⟩), .pointer (some ⟨c2, 0, none⟩), .pointer (some ⟨c3, 0, none⟩)]), (23, .string (B (use.drop (min use.length (max 0 skip).toNat)))), (22, .slice Ai im.length ci), (21, .pointer (some ⟨b20, 0, none⟩)), (10, .pointer (some ⟨b10, 0, none⟩)), (20, .pointer (some ⟨b20, 0, none⟩)), (19, .agg #[.int .i64 0, .int .i64 0]), (9, .pointer (some ⟨b9, 0, none⟩)), (1, .string (B (use.drop (min use.length (max 0 skip).toNat)))), (18, .string (B (use.drop (min use.length (max 0 skip).toNat)))), (17, .int .i64 (min (use.length : Int) (max 0 skip))), (16, .int .i64 (max 0 skip)), (15, .int .i64 skip), (14, .int .i64 (use.length : Int)), (13, .string (B use)), (12, .string (B use)), (8, .int .i64 0), (0, .slice Ai im.length ci), (2, .int .i64 skip)] [40, 41, 42, 43, 44, 45, 46, 47, 6, 7] [(Is (.pointer (some ⟨b20, 0, none⟩))), (Is (.pointer (some ⟨b20, 0, none⟩))), (Is (.pointer (some ⟨b20, 0, none⟩))), (Is (.int .i64 ((wk im 64 0 (use.drop (min use.length (max 0 skip).toNat))).2.1))), (Is (.pointer (some ⟨b20, 0, none⟩))), (Is (.pointer (some ⟨b20, 0, none⟩))), (Is (.pointer (some ⟨b20, 1, none⟩))), (Is (.int .i64 ((wk im 64 0 (use.drop (min use.length (max 0 skip).toNat))).2.2))), (Is (.slice none 0 0)), (Is (.int .i64 ((wk im 64 0 (use.drop (min use.length (max 0 skip).toNat))).2.1)))] [10] (by kernel_rfl) ((.cons rfl (.cons rfl (.cons rfl (.cons rfl (.cons rfl (.cons rfl (.cons rfl (.cons rfl (.cons rfl (.cons rfl (.cons rfl (.cons rfl (.cons rfl (.cons rfl (.cons rfl (.cons rfl (.cons rfl (.cons rfl (.cons rfl (.cons rfl (.cons rfl (.cons rfl (.cons rfl (.cons rfl .nil))))))))))))))))))))))))) (by kernel_rfl) (by kernel_rfl) (by kernel_rfl) rfl (by kernel_rfl) (ds_ext (Stays.spec (.is _ (.is _ (.is _ (.is _ (.is _ (.is _ (.is _ (.is _ (.is _ (.is _ (.nil))))))))))))) ⟨?_, ?_, ?_, ?_, ?_, ?_, ?_, ?_, ?_, ?_, trivial⟩ ?_
      · intro Q act_ wI hxI ha hp
        have xw_wI : Ext w wI := Ext.tr xw_W hxI
        have nW_wI : NC W wI := NC.tr (NC.rfl' W) (NC.ofExt hxI)
        replace hb9 := hb9.ext hxI
        replace hb10 := hb10.ext hxI
        replace hb20 := hb20.ext hxI
        replace ho := ho.ext hxI
        exact h_evA (v := .pointer (some ⟨b20, 0, none⟩)) ha rfl (e_load rfl (load1 Try.isAgg87 (hb10.cell (j := 0) rfl))) rfl rfl (Ext.rfl' _)
      · intro Q act_ wI hxI ha hp
        have xw_wI : Ext w wI := Ext.tr xw_W hxI
        have nW_wI : NC W wI := NC.tr (NC.rfl' W) (NC.ofExt hxI)
        replace hb9 := hb9.ext hxI
        replace hb10 := hb10.ext hxI
        replace hb20 := hb20.ext hxI
        replace ho := ho.ext hxI
        have ha := ha.add (show act_.tmps.getD 40 undef = .pointer (some ⟨b20, 0, none⟩) from hp 0 (by kernel_rfl) (by decide))
        exact h_evA (v := .pointer (some ⟨b20, 0, none⟩)) ha rfl (e_nilCheck rfl) rfl rfl (Ext.rfl' _)
      · intro Q act_ wI hxI ha hp
        have xw_wI : Ext w wI := Ext.tr xw_W hxI
        have nW_wI : NC W wI := NC.tr (NC.rfl' W) (NC.ofExt hxI)
        replace hb9 := hb9.ext hxI
        replace hb10 := hb10.ext hxI
        replace hb20 := hb20.ext hxI
        replace ho := ho.ext hxI
        have ha := ha.add (show act_.tmps.getD 41 undef = .pointer (some ⟨b20, 0, none⟩) from hp 1 (by kernel_rfl) (by decide))
        exact h_evA (v := .pointer (some ⟨b20, 0, none⟩)) ha rfl (e_fieldB (sz := 1) Try.underlying89 rfl Try.sizeOf3 (by decide) rfl rfl) rfl rfl (Ext.rfl' _)
      · intro Q act_ wI hxI ha hp
        have xw_wI : Ext w wI := Ext.tr xw_W hxI
        have nW_wI : NC W wI := NC.tr (NC.rfl' W) (NC.ofExt hxI)
        replace hb9 := hb9.ext hxI
        replace hb10 := hb10.ext hxI
        replace hb20 := hb20.ext hxI
        replace ho := ho.ext hxI
        have ha := ha.add (show act_.tmps.getD 42 undef = .pointer (some ⟨b20, 0, none⟩) from hp 2 (by kernel_rfl) (by decide))
        exact h_evA (v := .int .i64 ((wk im 64 0 (use.drop (min use.length (max 0 skip).toNat))).2.1)) ha rfl (e_load rfl (load1 Try.isAgg3 (hb20.cell (j := 0) rfl))) rfl rfl (Ext.rfl' _)
      · intro Q act_ wI hxI ha hp
        have xw_wI : Ext w wI := Ext.tr xw_W hxI
        have nW_wI : NC W wI := NC.tr (NC.rfl' W) (NC.ofExt hxI)
        replace hb9 := hb9.ext hxI
        replace hb10 := hb10.ext hxI
        replace hb20 := hb20.ext hxI
        replace ho := ho.ext hxI
        exact h_evA (v := .pointer (some ⟨b20, 0, none⟩)) ha rfl (e_load rfl (load1 Try.isAgg87 (hb10.cell (j := 0) rfl))) rfl rfl (Ext.rfl' _)
      · intro Q act_ wI hxI ha hp
        have xw_wI : Ext w wI := Ext.tr xw_W hxI
        have nW_wI : NC W wI := NC.tr (NC.rfl' W) (NC.ofExt hxI)
        replace hb9 := hb9.ext hxI
        replace hb10 := hb10.ext hxI
        replace hb20 := hb20.ext hxI
        replace ho := ho.ext hxI
        have ha := ha.add (show act_.tmps.getD 44 undef = .pointer (some ⟨b20, 0, none⟩) from hp 4 (by kernel_rfl) (by decide))
        exact h_evA (v := .pointer (some ⟨b20, 0, none⟩)) ha rfl (e_nilCheck rfl) rfl rfl (Ext.rfl' _)
      · intro Q act_ wI hxI ha hp
        have xw_wI : Ext w wI := Ext.tr xw_W hxI
        have nW_wI : NC W wI := NC.tr (NC.rfl' W) (NC.ofExt hxI)
        replace hb9 := hb9.ext hxI
        replace hb10 := hb10.ext hxI
        replace hb20 := hb20.ext hxI
        replace ho := ho.ext hxI
        have ha := ha.add (show act_.tmps.getD 45 undef = .pointer (some ⟨b20, 0, none⟩) from hp 5 (by kernel_rfl) (by decide))
        exact h_evA (v := .pointer (some ⟨b20, 1, none⟩)) ha rfl (e_fieldB (sz := 1) Try.underlying89 rfl Try.sizeOf25 (by decide) rfl rfl) rfl rfl (Ext.rfl' _)
      · intro Q act_ wI hxI ha hp
        have xw_wI : Ext w wI := Ext.tr xw_W hxI
        have nW_wI : NC W wI := NC.tr (NC.rfl' W) (NC.ofExt hxI)
        replace hb9 := hb9.ext hxI
        replace hb10 := hb10.ext hxI
        replace hb20 := hb20.ext hxI
        replace ho := ho.ext hxI
        have ha := ha.add (show act_.tmps.getD 46 undef = .pointer (some ⟨b20, 1, none⟩) from hp 6 (by kernel_rfl) (by decide))
        exact h_evA (v := .int .i64 ((wk im 64 0 (use.drop (min use.length (max 0 skip).toNat))).2.2)) ha rfl (e_load rfl (load1 Try.isAgg25 (hb20.cell (j := 1) rfl))) rfl rfl (Ext.rfl' _)
      · intro Q act_ wI hxI ha hp
        have xw_wI : Ext w wI := Ext.tr xw_W hxI
        have nW_wI : NC W wI := NC.tr (NC.rfl' W) (NC.ofExt hxI)
        replace hb9 := hb9.ext hxI
        replace hb10 := hb10.ext hxI
        replace hb20 := hb20.ext hxI
        replace ho := ho.ext hxI
        exact h_evA (v := .slice none 0 0) ha rfl (e_assign rfl) rfl rfl (Ext.rfl' _)
      · intro Q act_ wI hxI ha hp
        have xw_wI : Ext w wI := Ext.tr xw_W hxI
        have nW_wI : NC W wI := NC.tr (NC.rfl' W) (NC.ofExt hxI)
        replace hb9 := hb9.ext hxI
        replace hb10 := hb10.ext hxI
        replace hb20 := hb20.ext hxI
        replace ho := ho.ext hxI
        have ha := ha.add (show act_.tmps.getD 43 undef = .int .i64 ((wk im 64 0 (use.drop (min use.length (max 0 skip).toNat))).2.1) from hp 3 (by kernel_rfl) (by decide))
        exact h_evA (v := .int .i64 ((wk im 64 0 (use.drop (min use.length (max 0 skip).toNat))).2.1)) ha rfl (e_assign rfl) rfl rfl (Ext.rfl' _)
      intro vs_ w9 hx_w9 hvs act_ ha hv
      have xw_w9 : Ext w w9 := Ext.tr xw_W hx_w9
      have nW_w9 : NC W w9 := NC.tr (NC.rfl' W) (NC.ofExt hx_w9)
      replace hb9 := hb9.ext hx_w9
      replace hb10 := hb10.ext hx_w9
      replace hb20 := hb20.ext hx_w9
      replace ho := ho.ext hx_w9
      have ha := ha.add ((hv 7 (by decide)).trans (show vs_ 7 = .int .i64 ((wk im 64 0 (use.drop (min use.length (max 0 skip).toNat))).2.2) from hvs 7 (by decide)))
      have ha := ha.add ((hv 8 (by decide)).trans (show vs_ 8 = .slice none 0 0 from hvs 8 (by decide)))
      have ha := ha.add ((hv 9 (by decide)).trans (show vs_ 9 = .int .i64 ((wk im 64 0 (use.drop (min use.length (max 0 skip).toNat))).2.1) from hvs 9 (by decide)))
      refine st_go ha ?_
      clear ha hv hvs
      refine st_ev (v := .int .i64 ((wk im 64 0 (use.drop (min use.length (max 0 skip).toNat))).2.2)) rfl (e_assign rfl) ?_
      refine st_nil (nrm_k ?_)
      replace hDD := nW_w9.2 _ _ hDD rfl
      obtain ⟨wz, hwz⟩ : ∃ wz, wz = World.putObj w9 D (.deferred none) := ⟨_, rfl⟩
      have hmz : Mut w9 wz D := by rw [hwz]; exact mut_put _ _ _
      replace hb9 := hb9.mut hmz (hb9.ne_of hDD rfl)
      replace hb10 := hb10.mut hmz (hb10.ne_of hDD rfl)
      replace hb20 := hb20.mut hmz (hb20.ne_of hDD rfl)
      replace ho := Go.XK.Own.mut ho hmz (own_ne_of ho hDD rfl)
      have xw_wz : Ext w wz := below_mut xw_w9 (Below.size xw_w9) hmz (Nat.le_trans hB5_ hDle)
      refine sc_retMk rfl hDD ?_
      rw [← hwz]
      refine ret3 Try.results35 (rvt rfl) (rvt rfl) (rvt rfl) ?_
      have hR_ : walkR im use skip = ([], (wk im 64 0 (use.drop (min use.length (max 0 skip).toNat))).2.1, (wk im 64 0 (use.drop (min use.length (max 0 skip).toNat))).2.2) := by
        show walkN _ _ _ [] = _
        rw [hN, if_pos c39]
      exact ⟨.slice none 0 0, by rw [hR_], by rw [hR_]; exact Go.XK.Own.nil _ _ _ _ _, xw_wz⟩
    ·
      refine sc_skip (nrm_k ?_)
      refine sc_seq ?_
      refine sc_reg ?_
      refine Go.XK.s (v := v) (e_load rfl (load1 Try.isAgg22 (hb9.cell (j := 0) rfl))) ?_
      refine Go.XK.s (v := v) (e_assign rfl) ?_
      refine Go.XK.s (v := .int .i64 0) (e_assign rfl) ?_
      refine Go.XK.s (v := .int .i64 0) (e_assign rfl) ?_
      refine sl_nil (nrm_k ?_)
      replace hDD := (NC.rfl' W).2 _ _ hDD rfl
      obtain ⟨wz, hwz⟩ : ∃ wz, wz = World.putObj W D (.deferred none) := ⟨_, rfl⟩
      have hmz : Mut W wz D := by rw [hwz]; exact mut_put _ _ _
      replace hb9 := hb9.mut hmz (hb9.ne_of hDD rfl)
      replace hb10 := hb10.mut hmz (hb10.ne_of hDD rfl)
      replace hb20 := hb20.mut hmz (hb20.ne_of hDD rfl)
      replace ho := Go.XK.Own.mut ho hmz (own_ne_of ho hDD rfl)
      have xw_wz : Ext w wz := below_mut xw_W (Below.size xw_W) hmz (Nat.le_trans hB5_ hDle)
      refine sc_retMk rfl hDD ?_
      rw [← hwz]
      refine ret3 Try.results35 (rvt rfl) (rvt rfl) (rvt rfl) ?_
      have hR_ : walkR im use skip = (xs.flatMap (fun y_ : Yl => y_.l), 0, 0) := by
        show walkN _ _ _ [] = _
        rw [hN, if_neg c39]
      exact ⟨_, by rw [hR_], by rw [hR_]; exact ho, xw_wz⟩
  · intro D pre W hDle hS hI_ hDD
    exact hI_.elim
  · intro D pre W hDle hS hI_ hDD
    obtain ⟨at_, xw_W, hb10, hb20, hN⟩ := hI_
    refine exit_k rfl (nrm_k ?_)
    refine sc_seq ?_
    refine sc_seq ?_
    refine sc_reg ?_
    refine Go.XK.s (v := .pointer (some ⟨b20, 0, none⟩)) (e_load rfl (load1 Try.isAgg87 (hb10.cell (j := 0) rfl))) ?_
    refine Go.XK.s (v := .pointer (some ⟨b20, 0, none⟩)) (e_nilCheck rfl) ?_
    refine Go.XK.s (v := .pointer (some ⟨b20, 1, none⟩)) (e_fieldB (sz := 1) Try.underlying89 rfl Try.sizeOf25 (by decide) rfl rfl) ?_
    refine Go.XK.s (v := .int .i64 7) (e_load rfl (load1 Try.isAgg25 (hb20.cell (j := 1) rfl))) ?_
    refine Go.XK.s (v := .bool (decide ((7 : Int) ≠ 0))) (e_ne rfl rfl) ?_
    refine sl_nil (nrm_k ?_)
    refine sc_yes rfl (by decide) ?_
    refine sc_seq ?_
    refine sc_free [(39, .bool (decide ((7 : Int) ≠ 0))), (38, .int .i64 7), (37, .pointer (some ⟨b20, 1, none⟩)), (36, .pointer (some ⟨b20, 0, none⟩)), (35, .pointer (some ⟨b20, 0, none⟩)), (24, .func (.func 67) #[] #[.pointer (some ⟨c1, 0, none⟩), .pointer (some ⟨c2, 0, none⟩), .pointer (some ⟨c3, 0, none⟩)]), (23, .string (B (use.drop (min use.length (max 0 skip).toNat)))), (22, .slice Ai im.length ci), (21, .pointer (some ⟨b20, 0, none⟩)), (10, .pointer (some ⟨b10, 0, none⟩)), (20, .pointer (some ⟨b20, 0, none⟩)), (19, .agg #[.int .i64 0, .int .i64 0]), (9, .pointer (some ⟨b9, 0, none⟩)), (1, .string (B (use.drop (min use.length (max 0 skip).toNat)))), (18, .string (B (use.drop (min use.length (max 0 skip).toNat)))), (17, .int .i64 (min (use.length : Int) (max 0 skip))), (16, .int .i64 (max 0 skip)), (15, .int .i64 skip), (14, .int .i64 (use.length : Int)), (13, .string (B use)), (12, .string (B use)), (8, .int .i64 0), (0, .slice Ai im.length ci), (2, .int .i64 skip)] [40, 41, 42, 43, 44, 45, 46, 47, 6, 7] [(Is (.pointer (some ⟨b20, 0, none⟩))), (Is (.pointer (some ⟨b20, 0, none⟩))), (Is (.pointer (some ⟨b20, 0, none⟩))), (Is (.int .i64 at_)), (Is (.pointer (some ⟨b20, 0, none⟩))), (Is (.pointer (some ⟨b20, 0, none⟩))), (Is (.pointer (some ⟨b20, 1, none⟩))), (Is (.int .i64 7)), (Is (.slice none 0 0)), (Is (.int .i64 at_))] [10] (by kernel_rfl) ((.cons rfl (.cons rfl (.cons rfl (.cons rfl (.cons rfl (.cons rfl (.cons rfl (.cons rfl (.cons rfl (.cons rfl (.cons rfl (.cons rfl (.cons rfl (.cons rfl (.cons rfl (.cons rfl (.cons rfl (.cons rfl (.cons rfl (.cons rfl (.cons rfl (.cons rfl (.cons rfl (.cons rfl .nil))))))))))))))))))))))))) (by kernel_rfl) (by kernel_rfl) (by kernel_rfl) rfl (by kernel_rfl) (ds_ext (Stays.spec (.is _ (.is _ (.is _ (.is _ (.is _ (.is _ (.is _ (.is _ (.is _ (.is _ (.nil))))))))))))) ⟨?_, ?_, ?_, ?_, ?_, ?_, ?_, ?_, ?_, ?_, trivial⟩ ?_
    · intro Q act_ wI hxI ha hp
      have xw_wI : Ext w wI := Ext.tr xw_W hxI
      have nW_wI : NC W wI := NC.tr (NC.rfl' W) (NC.ofExt hxI)
      replace hb10 := hb10.ext hxI
      replace hb20 := hb20.ext hxI
      exact h_evA (v := .pointer (some ⟨b20, 0, none⟩)) ha rfl (e_load rfl (load1 Try.isAgg87 (hb10.cell (j := 0) rfl))) rfl rfl (Ext.rfl' _)
    · intro Q act_ wI hxI ha hp
      have xw_wI : Ext w wI := Ext.tr xw_W hxI
      have nW_wI : NC W wI := NC.tr (NC.rfl' W) (NC.ofExt hxI)
      replace hb10 := hb10.ext hxI
      replace hb20 := hb20.ext hxI
      have ha := ha.add (show act_.tmps.getD 40 undef = .pointer (some ⟨b20, 0, none⟩) from hp 0 (by kernel_rfl) (by decide))
      exact h_evA (v := .pointer (some ⟨b20, 0, none⟩)) ha rfl (e_nilCheck rfl) rfl rfl (Ext.rfl' _)
    · intro Q act_ wI hxI ha hp
      have xw_wI : Ext w wI := Ext.tr xw_W hxI
      have nW_wI : NC W wI := NC.tr (NC.rfl' W) (NC.ofExt hxI)
      replace hb10 := hb10.ext hxI
      replace hb20 := hb20.ext hxI
      have ha := ha.add (show act_.tmps.getD 41 undef = .pointer (some ⟨b20, 0, none⟩) from hp 1 (by kernel_rfl) (by decide))
      exact h_evA (v := .pointer (some ⟨b20, 0, none⟩)) ha rfl (e_fieldB (sz := 1) Try.underlying89 rfl Try.sizeOf3 (by decide) rfl rfl) rfl rfl (Ext.rfl' _)
    · intro Q act_ wI hxI ha hp
      have xw_wI : Ext w wI := Ext.tr xw_W hxI
      have nW_wI : NC W wI := NC.tr (NC.rfl' W) (NC.ofExt hxI)
      replace hb10 := hb10.ext hxI
      replace hb20 := hb20.ext hxI
      have ha := ha.add (show act_.tmps.getD 42 undef = .pointer (some ⟨b20, 0, none⟩) from hp 2 (by kernel_rfl) (by decide))
      exact h_evA (v := .int .i64 at_) ha rfl (e_load rfl (load1 Try.isAgg3 (hb20.cell (j := 0) rfl))) rfl rfl (Ext.rfl' _)
    · intro Q act_ wI hxI ha hp
      have xw_wI : Ext w wI := Ext.tr xw_W hxI
      have nW_wI : NC W wI := NC.tr (NC.rfl' W) (NC.ofExt hxI)
      replace hb10 := hb10.ext hxI
      replace hb20 := hb20.ext hxI
      exact h_evA (v := .pointer (some ⟨b20, 0, none⟩)) ha rfl (e_load rfl (load1 Try.isAgg87 (hb10.cell (j := 0) rfl))) rfl rfl (Ext.rfl' _)
    · intro Q act_ wI hxI ha hp
      have xw_wI : Ext w wI := Ext.tr xw_W hxI
      have nW_wI : NC W wI := NC.tr (NC.rfl' W) (NC.ofExt hxI)
      replace hb10 := hb10.ext hxI
      replace hb20 := hb20.ext hxI
      have ha := ha.add (show act_.tmps.getD 44 undef = .pointer (some ⟨b20, 0, none⟩) from hp 4 (by kernel_rfl) (by decide))
      exact h_evA (v := .pointer (some ⟨b20, 0, none⟩)) ha rfl (e_nilCheck rfl) rfl rfl (Ext.rfl' _)
    · intro Q act_ wI hxI ha hp
      have xw_wI : Ext w wI := Ext.tr xw_W hxI
      have nW_wI : NC W wI := NC.tr (NC.rfl' W) (NC.ofExt hxI)
      replace hb10 := hb10.ext hxI
      replace hb20 := hb20.ext hxI
      have ha := ha.add (show act_.tmps.getD 45 undef = .pointer (some ⟨b20, 0, none⟩) from hp 5 (by kernel_rfl) (by decide))
      exact h_evA (v := .pointer (some ⟨b20, 1, none⟩)) ha rfl (e_fieldB (sz := 1) Try.underlying89 rfl Try.sizeOf25 (by decide) rfl rfl) rfl rfl (Ext.rfl' _)
    · intro Q act_ wI hxI ha hp
      have xw_wI : Ext w wI := Ext.tr xw_W hxI
      have nW_wI : NC W wI := NC.tr (NC.rfl' W) (NC.ofExt hxI)
      replace hb10 := hb10.ext hxI
      replace hb20 := hb20.ext hxI
      have ha := ha.add (show act_.tmps.getD 46 undef = .pointer (some ⟨b20, 1, none⟩) from hp 6 (by kernel_rfl) (by decide))
      exact h_evA (v := .int .i64 7) ha rfl (e_load rfl (load1 Try.isAgg25 (hb20.cell (j := 1) rfl))) rfl rfl (Ext.rfl' _)
    · intro Q act_ wI hxI ha hp
      have xw_wI : Ext w wI := Ext.tr xw_W hxI
      have nW_wI : NC W wI := NC.tr (NC.rfl' W) (NC.ofExt hxI)
      replace hb10 := hb10.ext hxI
      replace hb20 := hb20.ext hxI
      exact h_evA (v := .slice none 0 0) ha rfl (e_assign rfl) rfl rfl (Ext.rfl' _)
    · intro Q act_ wI hxI ha hp
      have xw_wI : Ext w wI := Ext.tr xw_W hxI
      have nW_wI : NC W wI := NC.tr (NC.rfl' W) (NC.ofExt hxI)
      replace hb10 := hb10.ext hxI
      replace hb20 := hb20.ext hxI
      have ha := ha.add (show act_.tmps.getD 43 undef = .int .i64 at_ from hp 3 (by kernel_rfl) (by decide))
      exact h_evA (v := .int .i64 at_) ha rfl (e_assign rfl) rfl rfl (Ext.rfl' _)
    intro vs_ w10 hx_w10 hvs act_ ha hv
    have xw_w10 : Ext w w10 := Ext.tr xw_W hx_w10
    have nW_w10 : NC W w10 := NC.tr (NC.rfl' W) (NC.ofExt hx_w10)
    replace hb10 := hb10.ext hx_w10
    replace hb20 := hb20.ext hx_w10
    have ha := ha.add ((hv 7 (by decide)).trans (show vs_ 7 = .int .i64 7 from hvs 7 (by decide)))
    have ha := ha.add ((hv 8 (by decide)).trans (show vs_ 8 = .slice none 0 0 from hvs 8 (by decide)))
    have ha := ha.add ((hv 9 (by decide)).trans (show vs_ 9 = .int .i64 at_ from hvs 9 (by decide)))
    refine st_go ha ?_
    clear ha hv hvs
    refine st_ev (v := .int .i64 7) rfl (e_assign rfl) ?_
    refine st_nil (nrm_k ?_)
    replace hDD := nW_w10.2 _ _ hDD rfl
    obtain ⟨wz, hwz⟩ : ∃ wz, wz = World.putObj w10 D (.deferred none) := ⟨_, rfl⟩
    have hmz : Mut w10 wz D := by rw [hwz]; exact mut_put _ _ _
    replace hb10 := hb10.mut hmz (hb10.ne_of hDD rfl)
    replace hb20 := hb20.mut hmz (hb20.ne_of hDD rfl)
    have xw_wz : Ext w wz := below_mut xw_w10 (Below.size xw_w10) hmz (Nat.le_trans hB5_ hDle)
    refine sc_retMk rfl hDD ?_
    rw [← hwz]
    refine ret3 Try.results35 (rvt rfl) (rvt rfl) (rvt rfl) ?_
    exact ⟨.slice none 0 0, by rw [hN], by rw [hN]; exact Go.XK.Own.nil _ _ _ _ _, xw_wz⟩

end Go.Proofs.Ytnbclhbpjlpcoaa
