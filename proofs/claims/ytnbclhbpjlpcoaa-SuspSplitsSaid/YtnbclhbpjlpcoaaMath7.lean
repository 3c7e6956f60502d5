/- Chapter 24: what is divided, joined and walked comes back. My own text. -/
import Derived.Test.YtnbclhbpjlpcoaaMath6
set_option linter.unusedVariables false
set_option linter.unusedSimpArgs false
namespace Go.Proofs.Ytnbclhbpjlpcoaa
open Go.XK Go.RowKit
/-- How the groups G of l fit, the first into room, the further into a block. -/
structure Fit (l : List En) (room : Int) (G : List (List En)) : Prop where
  flat : G.flatten = l
  ne : G ≠ []
  fits : ∀ (j : Nat) (g : List En), G[j]? = some g → (szL g : Int) + (if j + 1 < G.length then 28 else 0) ≤ (if j = 0 then room else 2048)
  pos : ∀ (j : Nat) (g : List En), G[j]? = some g → 0 < j → 1 ≤ szL g
theorem Fit.one {l : List En} {room : Int} (h : (szL l : Int) ≤ room) : Fit l room [l] where
  flat := by simp
  ne := by simp
  fits := fun j g hg => by
    match j, hg with
    | 0, hg => simp at hg; subst hg; simpa using h
    | j + 1, hg => simp at hg
  pos := fun j g hg h0 => by
    match j, hg with
    | 0, hg => omega
    | j + 1, hg => simp at hg
theorem Fit.cons {l : List En} {n : Nat} {room : Int} {G : List (List En)} (h : Fit (l.drop n) 2048 G) (h0 : ∀ g, G[0]? = some g → 1 ≤ szL g) (hs : (szL (l.take n) : Int) + 28 ≤ room) : Fit l room (l.take n :: G) where
  flat := by rw [List.flatten_cons, h.flat, List.take_append_drop]
  ne := by simp
  fits := fun j g hg => by
    match j, hg with
    | 0, hg =>
      simp at hg; subst hg
      split
      · simpa using hs
      · simp only [if_pos]; omega
    | j + 1, hg =>
      have h1 := h.fits j g (by simpa using hg)
      simp only [List.length_cons]
      rw [if_neg (show ¬ j + 1 = 0 by omega)]
      have h2 : (if j = 0 then (2048 : Int) else 2048) = 2048 := by split <;> rfl
      rw [h2] at h1
      by_cases hj : j + 1 < G.length
      · rw [if_pos (by omega)]; rw [if_pos hj] at h1; exact h1
      · rw [if_neg (by omega)]; rw [if_neg hj] at h1; exact h1
  pos := fun j g hg _ => by
    match j, hg with
    | 0, hg => omega
    | 0 + 1, hg => exact h0 g (by simpa using hg)
    | j + 2, hg => exact h.pos (j + 1) g (by simpa using hg) (by omega)
theorem szL_pos {l : List En} (h : l ≠ []) : 4 ≤ szL l := by
  cases l with
  | nil => exact absurd rfl h
  | cons x t => rw [szL_cons]; unfold szE; omega
theorem grp2048 : ∀ (n : Nat) (l : List En), l.length ≤ n → (∀ x ∈ l, szE x ≤ 255) → Fit l 2048 (grp l 2048) ∧ (1 ≤ szL l → ∀ g, (grp l 2048)[0]? = some g → 1 ≤ szL g)
  | n, l, hn, hx => by
    by_cases h : (2048 : Int) < (szL l : Int)
    · have hne : l ≠ [] := fun e => by rw [e] at h; simp [szL] at h
      have hp : 0 < frontN l (2048 - 28) := front_pos hne (fun x hxm => by have := hx x hxm; omega)
      have hf := front_fits l (2048 - 28) (by omega)
      have hsp := szL_split l (frontN l (2048 - 28))
      rw [grp_step hx h]
      match n, hn with
      | 0, hn => exact absurd (List.eq_nil_of_length_eq_zero (by omega)) hne
      | n + 1, hn =>
        obtain ⟨h1, h2⟩ := grp2048 n (l.drop (frontN l (2048 - 28))) (by rw [List.length_drop]; omega) (fun x hxm => hx x (List.mem_of_mem_drop hxm))
        refine ⟨h1.cons (h2 (by omega)) (by omega), fun _ g hg => ?_⟩
        simp at hg; subst hg
        have hne2 : l.take (frontN l (2048 - 28)) ≠ [] := by
          intro e
          have h9 := congrArg List.length e
          rw [List.length_take, List.length_nil] at h9
          have := List.length_pos_iff.2 hne
          omega
        exact Nat.le_trans (by decide) (szL_pos hne2)
    · rw [grp_end h]
      refine ⟨Fit.one (by omega), fun h1 g hg => ?_⟩
      simp at hg; subst hg; exact h1
theorem grp_fit {l : List En} {room : Int} (hx : ∀ x ∈ l, szE x ≤ 255) (h : 28 ≤ room ∨ (szL l : Int) ≤ room) : Fit l room (grp l room) := by
  by_cases hr : room < (szL l : Int)
  · have h28 : 28 ≤ room := by omega
    have hf := front_fits l (room - 28) (by omega)
    have hsp := szL_split l (frontN l (room - 28))
    rw [grp_step hx hr]
    obtain ⟨h1, h2⟩ := grp2048 _ (l.drop (frontN l (room - 28))) (Nat.le_refl _) (fun x hxm => hx x (List.mem_of_mem_drop hxm))
    exact h1.cons (h2 (by omega)) (by omega)
  · rw [grp_end hr]; exact Fit.one (by omega)
/-- What dividing without an error hands back. -/
theorem grpR_ok {l : List En} {room : Int} (h : ¬ (grpR l room).2 ≠ 0) : chkR l = 0 ∧ l.any linkB = false ∧ Fit l room (grpR l room).1 ∧ (grpR l room).1.length ≤ 64 ∧ 0 ≤ room ∧ room ≤ 254 := by
  have h0 : chkR l = 0 := by
    by_cases hc : chkR l = 0
    · exact hc
    · rw [grpR_1 hc] at h; exact absurd h (fun k => k hc)
  have h1 : l.any linkB = false := by
    cases hc : l.any linkB with
    | false => rfl
    | true => rw [grpR_2 h0 hc] at h; exact absurd (by decide) h
  cases hc : (decide (room < 0) || decide ((254 : Int) < room)) with
  | true => rw [grpR_3 h0 h1 hc] at h; exact absurd (by decide) h
  | false =>
    cases hd : (decide (room < (szL l : Int)) && decide (room < 28)) with
    | true => rw [grpR_4 h0 h1 hc hd] at h; exact absurd (by decide) h
    | false =>
      rw [grpR_5 h0 h1 hc hd] at h ⊢
      by_cases h64 : (64 : Int) < ((grp l room).length : Int)
      · rw [if_pos h64] at h; exact absurd (by decide) h
      · rw [if_neg h64]
        simp only [Bool.or_eq_false_iff, Bool.and_eq_false_iff, decide_eq_false_iff_not] at hc hd
        exact ⟨h0, h1, grp_fit (ok_sz (chkR_zero h0)).1 (by omega), by show (grp l room).length ≤ 64; omega, by omega, by omega⟩
/-! ### Joined -/
/-- Places that serve. -/
structure Plc (G : List (List En)) (ps : List Pl) : Prop where
  len : ps.length + 1 = G.length
  at_ : ∀ (j : Nat) (p : Pl) (n : Int), ps[j]? = some p → (lenL G)[j + 1]? = some n → p.b = 3 + (j : Int) ∧ 0 ≤ p.o ∧ 1 ≤ n ∧ p.o + n ≤ 2048
def ceJ (G : List (List En)) (ps : List Pl) (j : Nat) : En := conE (ps.getD j ⟨0, 0⟩).b (ps.getD j ⟨0, 0⟩).o ((lenL G).getD (j + 1) 0)
/-- The entries of the j-th area. -/
def arE (G : List (List En)) (ps : List Pl) (j : Nat) : List En := G.getD j [] ++ if j + 1 < G.length then [ceJ G ps j] else []
def outJ (G : List (List En)) (ps : List Pl) (j : Nat) : List UInt8 := encL (arE G ps j)
theorem encL_app (a b : List En) : encL (a ++ b) = encL a ++ encL b := by simp [encL]
theorem conE_ok (b o n : Int) : badE (conE b o n) = 0 := badE_of (show sig [67, 69] = true by decide) (show (0 : Int) ≤ 1 by decide) (show (1 : Int) ≤ 255 by decide) (by simp [conE, bothB_length])
theorem enc_ce (b o n : Int) : encR [conE b o n] = (encL [conE b o n], 0) := encR_ok (by
  rw [chkR, if_neg (by simp), chkL, if_pos (conE_ok b o n)]; rfl)
theorem le_sum_mem : ∀ {l : List Nat} {a : Nat}, a ∈ l → a ≤ l.sum
  | b :: t, a, h => by
    rw [List.sum_cons]
    rcases List.mem_cons.1 h with rfl | h
    · omega
    · have := le_sum_mem h; omega
theorem set_last {A : List (List UInt8)} {k : Nat} (x c : List UInt8) (h : A.length = k) : (A ++ [x]).set k ((A ++ [x]).getD k [] ++ c) = A ++ [x ++ c] := by
  subst h
  rw [List.getD_eq_getElem?_getD, List.getElem?_append_right (Nat.le_refl _), Nat.sub_self, List.set_append_right _ _ (Nat.le_refl _), Nat.sub_self]
  rfl
theorem fit_chk {l : List En} {room : Int} {G : List (List En)} (h : Fit l room G) (h0 : chkR l = 0) {g : List En} (hg : g ∈ G) : chkR g = 0 := by
  have h1 := chkR_zero h0
  have hl := congrArg List.length h.flat
  have hm : ∀ x ∈ g, x ∈ l := fun x hx => by rw [← h.flat]; exact List.mem_flatten.2 ⟨g, hg, hx⟩
  have hle : g.length ≤ l.length := by
    rw [← hl, List.length_flatten]
    exact le_sum_mem (List.mem_map_of_mem hg)
  rw [chkR, if_neg (by omega)]
  exact chk_of fun x hx => h1.2 x (hm x hx)
theorem plc_con {G : List (List En)} {ps : List Pl} (h : Plc G ps) (hG : G.length ≤ 64) {j : Nat} (hj : j + 1 < G.length) : ∃ p n, ps[j]? = some p ∧ (lenL G)[j + 1]? = some n ∧ ps.getD j ⟨0, 0⟩ = p ∧ (lenL G).getD (j + 1) 0 = n ∧ p.b = 3 + (j : Int) ∧ 0 ≤ p.o ∧ 1 ≤ n ∧ p.o + n ≤ 2048 ∧ Go.Proofs.Ytnbclhbpjlpcoaa.fits p.b 4 = true ∧ area p.o n = true := by
  have hl := h.len
  obtain ⟨p, hp⟩ : ∃ p, ps[j]? = some p := ⟨_, List.getElem?_eq_getElem (by omega)⟩
  obtain ⟨n, hn⟩ : ∃ n, (lenL G)[j + 1]? = some n := ⟨_, List.getElem?_eq_getElem (by rw [lenL_length]; omega)⟩
  obtain ⟨a1, a2, a3, a4⟩ := h.at_ j p n hp hn
  refine ⟨p, n, hp, hn, getD_of hp, getD_of hn, a1, a2, a3, a4, ?_, ?_⟩
  · rw [fits4, a1]; simp; omega
  · rw [area]; simp; omega
theorem con_ce {G : List (List En)} {ps : List Pl} (h : Plc G ps) (hG : G.length ≤ 64) {j : Nat} (hj : j + 1 < G.length) : conR (ps.getD j ⟨0, 0⟩).b (ps.getD j ⟨0, 0⟩).o ((lenL G).getD (j + 1) 0) = (ceJ G ps j, 0) := by
  obtain ⟨p, n, hp, hn, e1, e2, _, _, _, _, f1, f2⟩ := plc_con h hG hj
  rw [ceJ, e1, e2, conR, if_neg (by rw [f1, f2]; simp)]
theorem join_at {l : List En} {room : Int} {G : List (List En)} {ps : List Pl} (hF : Fit l room G) (h0 : chkR l = 0) (h : Plc G ps) (hG : G.length ≤ 64) : ∀ i, i ≤ G.length → joinAt G ps i = ((List.range i).map (fun j => encL (G.getD j []) ++ if j + 1 < i then encL [ceJ G ps j] else []), 0)
  | 0, _ => rfl
  | i + 1, hi => by
    rw [joinAt_ok (join_at hF h0 h hG i (by omega))]
    have hg : (G.getD i []) ∈ G := by
      rw [List.getD_eq_getElem?_getD, List.getElem?_eq_getElem (by omega)]; exact List.getElem_mem _
    have he : encR (G.getD i []) = (encL (G.getD i []), 0) := encR_ok (fit_chk hF h0 hg)
    unfold jstep
    rw [he]
    simp only [ne_eq, not_true_eq_false, if_false]
    match i, hi with
    | 0, _ => simp
    | k + 1, hi =>
      rw [if_neg (by omega)]
      simp only [Nat.add_sub_cancel]
      rw [con_ce h hG (by omega)]
      simp only [not_true_eq_false, if_false]
      have hc : encR [ceJ G ps k] = (encL [ceJ G ps k], 0) := enc_ce _ _ _
      rw [hc]
      simp only [List.range_succ, List.map_append, List.map_cons, List.map_nil]
      have hm : (List.range k).map (fun j => encL (G.getD j []) ++ if j + 1 < k + 1 then encL [ceJ G ps j] else []) = (List.range k).map (fun j => encL (G.getD j []) ++ if j + 1 < k + 1 + 1 then encL [ceJ G ps j] else []) := by
        refine List.map_congr_left fun j hj => ?_
        have := List.mem_range.1 hj
        rw [if_pos (by omega), if_pos (by omega)]
      have hlk : ((List.range k).map (fun j => encL (G.getD j []) ++ if j + 1 < k + 1 then encL [ceJ G ps j] else [])).length = k := by simp
      rw [set_last _ _ hlk, hm]
      simp
theorem join_ok {l : List En} {room : Int} {G : List (List En)} {ps : List Pl} (hF : Fit l room G) (h0 : chkR l = 0) (h : Plc G ps) (hG : G.length ≤ 64) : joinR G ps = ((List.range G.length).map (outJ G ps), 0) := by
  have hl := h.len
  rw [joinR, if_neg (by rw [Bool.or_eq_true, decide_eq_true_eq, decide_eq_true_eq]; omega), join_at hF h0 h hG _ (Nat.le_refl _)]
  congr 1
  refine List.map_congr_left fun j hj => ?_
  rw [outJ, arE, encL_app]
  split <;> simp [encL]
/-! ### Walked -/
theorem lastCE_none : ∀ {l : List En}, (∀ x ∈ l, x.g ≠ [67, 69]) → lastCE l = none
  | [], _ => rfl
  | x :: t, h => by
    rw [lastCE, lastCE_none fun y hy => h y (by simp [hy])]
    rw [if_neg (by simp [isCE, h x (by simp)])]
theorem nonCE_all {l : List En} (h : ∀ x ∈ l, x.g ≠ [67, 69]) : nonCE l = l := List.filter_eq_self.2 fun x hx => by simp [isCE, h x hx]
theorem rd4_both (s t : List UInt8) {n : Int} (h0 : 0 ≤ n) (h1 : n < 4294967296) {k : Nat} (hs : s.length = k) : rd4 (s ++ (bothB n ++ t)) (k : Int) = (n, 0) := by
  subst hs
  have hl := bothB_length n
  rw [rd4, if_pos (by rw [Bool.and_eq_true, decide_eq_true_eq, decide_eq_true_eq]; refine ⟨by omega, ?_⟩; rw [List.length_append, List.length_append, hl]; omega)]
  congr 1
  rw [sub, show ((s.length : Int)).toNat = s.length by omega, List.drop_left' rfl, bothB, List.append_assoc, List.take_left' (le_length 4 n), rdle_le 4 n h0 h1]
theorem ce_plc {b o n : Int} (hb0 : 0 ≤ b) (hb : b < 4294967296) (ho0 : 0 ≤ o) (ho : o < 4294967296) (hn0 : 0 ≤ n) (hn : n < 4294967296) : rd4 (conE b o n).d 0 = (b, 0) ∧ rd4 (conE b o n).d 8 = (o, 0) ∧ rd4 (conE b o n).d 16 = (n, 0) ∧ (conE b o n).d.length = 24 := by
  refine ⟨?_, ?_, ?_, by simp [conE, bothB_length]⟩
  · have h := rd4_both [] (bothB o ++ bothB n) hb0 hb (k := 0) rfl
    simpa [conE] using h
  · have h := rd4_both (bothB b) (bothB n) ho0 ho (k := 8) (bothB_length b)
    simpa [conE] using h
  · have h := rd4_both (bothB b ++ bothB o) [] hn0 hn (k := 16) (by simp [bothB_length])
    simpa [conE] using h
/-- The image's blocks hold the areas; the q-th is where the walk ends. -/
structure Img (G : List (List En)) (ps : List Pl) (im : List (List UInt8)) (q : Nat) : Prop where
  lt : q < G.length
  blk : ∀ j, j < q → ∃ s t, im[3 + j]? = some (s ++ outJ G ps (j + 1) ++ t) ∧ (s.length : Int) = (ps.getD j ⟨0, 0⟩).o ∧ (s ++ outJ G ps (j + 1) ++ t).length = 2048
  stop : q + 1 < G.length → im[3 + q]? = some []
def atJ (ps : List Pl) (j : Nat) : Int := if j = 0 then 0 else (ps.getD (j - 1) ⟨0, 0⟩).b
def endJ (G : List (List En)) (ps : List Pl) (q : Nat) : Int × Int := if q + 1 < G.length then ((ps.getD q ⟨0, 0⟩).b, 9) else (atJ ps q, 0)
theorem wk_join {l : List En} {room : Int} {G : List (List En)} {ps : List Pl} {im : List (List UInt8)} {q : Nat} (hF : Fit l room G) (h0 : chkR l = 0) (hlk : l.any linkB = false) (h : Plc G ps) (hG : G.length ≤ 64) (hI : Img G ps im q) : ∀ (m j k : Nat), j + m = q → m < k → wk im k (atJ ps j) (outJ G ps j) = ((List.range (m + 1)).map (fun t => (G.getD (j + t) [], atJ ps (j + t))), endJ G ps q) := by
  have hmem : ∀ (j : Nat) (x : En), x ∈ G.getD j [] → x ∈ l := fun j x hx => by
    rw [← hF.flat]
    rw [List.getD_eq_getElem?_getD] at hx
    cases hg : G[j]? with
    | none => rw [hg] at hx; cases hx
    | some g => rw [hg] at hx; exact List.mem_flatten.2 ⟨g, List.mem_of_getElem? hg, hx⟩
  have hcl : ∀ (j : Nat) (x : En), x ∈ G.getD j [] → badE x = 0 ∧ x.g ≠ [67, 69] ∧ x.g ≠ [83, 84] := fun j x hx => by
    have hx' := hmem j x hx
    have h1 := List.any_eq_false.1 hlk x hx'
    simp only [linkB, Bool.or_eq_true, decide_eq_true_eq, not_or] at h1
    exact ⟨(chkR_zero h0).2 x hx', h1.1, h1.2⟩
  have hdec : ∀ j, decL (outJ G ps j).length (outJ G ps j) = some (arE G ps j) := fun j => by
    have h1 := dec_enc (t := []) (by decide) (arE G ps j) (fun x hx => by
      rw [arE] at hx
      rcases List.mem_append.1 hx with hx | hx
      · exact (hcl j x hx).1
      · split at hx
        · simp at hx; subst hx; exact conE_ok _ _ _
        · cases hx) (fun x hx => by
      rw [arE] at hx
      rcases List.mem_append.1 hx with hx | hx
      · exact (hcl j x hx).2.2
      · split at hx
        · simp at hx; subst hx; exact (show ([67, 69] : List UInt8) ≠ [83, 84] by decide)
        · cases hx)
    rwa [List.append_nil] at h1
  intro m
  induction m with
  | zero =>
    intro j k hj hk
    have hjq : j = q := by omega
    subst hjq
    by_cases hl : j + 1 < G.length
    · obtain ⟨p, n, hp, hn, e1, e2, b1, b2, b3, b4, f1, f2⟩ := plc_con h hG hl
      obtain ⟨k', rfl⟩ : ∃ k', k = k' + 1 := ⟨k - 1, by omega⟩
      have hA : arE G ps j = G.getD j [] ++ [ceJ G ps j] := by rw [arE, if_pos hl]
      have hce : ceJ G ps j = conE p.b p.o n := by rw [ceJ, e1, e2]
      obtain ⟨c1, c2, c3, c4⟩ := ce_plc (b := p.b) (o := p.o) (n := n) (by omega) (by omega) (by omega) (by omega) (by omega) (by omega)
      have hlast : lastCE (arE G ps j) = some (G.getD j []).length := by rw [hA, lastCE_snoc, if_pos (by rw [hce]; rfl)]
      have hy : (arE G ps j)[(G.getD j []).length]? = some (ceJ G ps j) := by rw [hA, List.getElem?_append_right (Nat.le_refl _), Nat.sub_self]; rfl
      have hbd : badP (ceJ G ps j).d = false := by
        rw [hce, badP, plc, plc]
        rw [show (8 * ((1 : Nat) : Int)) = 8 from rfl, show (8 * ((2 : Nat) : Int)) = 16 from rfl, c2, c3, c4, f2]; rfl
      have hnc : nonCE (arE G ps j) = G.getD j [] := by
        rw [hA, nonCE_snoc, nonCE_all fun x hx => (hcl j x hx).2.1, if_pos (by rw [hce]; rfl), List.append_nil]
      have hp0 : plc (ceJ G ps j).d 0 = p.b := by rw [hce, plc]; exact congrArg Prod.fst c1
      have hu : unr im (ceJ G ps j).d = true := by
        have hs := hI.stop hl
        rw [unr, hp0, b1, show (3 + (j : Int)).toNat = 3 + j by omega, getD_of hs]
        simp
      rw [wk_unread (hdec j) hlast hy hbd hu, hnc, hp0, endJ, if_pos hl, e1]
      rfl
    · have hA : arE G ps j = G.getD j [] := by rw [arE, if_neg hl, List.append_nil]
      have hlast : lastCE (arE G ps j) = none := by rw [hA]; exact lastCE_none fun x hx => (hcl j x hx).2.1
      rw [wk_last (hdec j) hlast, hA, nonCE_all fun x hx => (hcl j x hx).2.1, endJ, if_neg hl]
      rfl
  | succ m ih =>
    intro j k hj hk
    have hq := hI.lt
    have hl : j + 1 < G.length := by omega
    obtain ⟨p, n, hp, hn, e1, e2, b1, b2, b3, b4, f1, f2⟩ := plc_con h hG hl
    obtain ⟨k', rfl⟩ : ∃ k', k = k' + 1 := ⟨k - 1, by omega⟩
    have hA : arE G ps j = G.getD j [] ++ [ceJ G ps j] := by rw [arE, if_pos hl]
    have hce : ceJ G ps j = conE p.b p.o n := by rw [ceJ, e1, e2]
    obtain ⟨c1, c2, c3, c4⟩ := ce_plc (b := p.b) (o := p.o) (n := n) (by omega) (by omega) (by omega) (by omega) (by omega) (by omega)
    have hlast : lastCE (arE G ps j) = some (G.getD j []).length := by rw [hA, lastCE_snoc, if_pos (by rw [hce]; rfl)]
    have hy : (arE G ps j)[(G.getD j []).length]? = some (ceJ G ps j) := by rw [hA, List.getElem?_append_right (Nat.le_refl _), Nat.sub_self]; rfl
    have hbd : badP (ceJ G ps j).d = false := by
      rw [hce, badP, plc, plc]
      rw [show (8 * ((1 : Nat) : Int)) = 8 from rfl, show (8 * ((2 : Nat) : Int)) = 16 from rfl, c2, c3, c4, f2]; rfl
    have hnc : nonCE (arE G ps j) = G.getD j [] := by
      rw [hA, nonCE_snoc, nonCE_all fun x hx => (hcl j x hx).2.1, if_pos (by rw [hce]; rfl), List.append_nil]
    have hp0 : plc (ceJ G ps j).d 0 = p.b := by rw [hce, plc]; exact congrArg Prod.fst c1
    have hp1 : plc (ceJ G ps j).d 1 = p.o := by rw [hce, plc]; exact congrArg Prod.fst c2
    have hp2 : plc (ceJ G ps j).d 2 = n := by rw [hce, plc]; exact congrArg Prod.fst c3
    obtain ⟨s, t, hs, hso, hs2⟩ := hI.blk j (by omega)
    rw [e1] at hso
    have hlt := (List.getElem?_eq_some_iff.1 hs).1
    have hu : unr im (ceJ G ps j).d = false := by
      rw [unr, hp0, b1, show (3 + (j : Int)).toNat = 3 + j by omega, getD_of hs, hs2, decide_eq_false (by omega)]; rfl
    have hol : ((outJ G ps (j + 1)).length : Int) = n := by
      obtain ⟨g, hg⟩ : ∃ g, G[j + 1]? = some g := ⟨_, List.getElem?_eq_getElem hl⟩
      have hn2 := lenL_get hg
      rw [hn] at hn2
      have hn3 := Option.some.inj hn2
      have hsg : ∀ x ∈ arE G ps (j + 1), x.g.length = 2 := fun x hx => by
        rw [arE] at hx
        rcases List.mem_append.1 hx with hx | hx
        · exact sig_len (badE_spec (hcl (j + 1) x hx).1).1
        · split at hx
          · simp at hx; subst hx; rfl
          · cases hx
      rw [outJ, encL_length hsg, hn3, arE, szL_app, getD_of hg]
      split
      · simp [szL, szE, ceJ, conE, bothB_length]
      · simp [szL]
    have hnu : nextU im (ceJ G ps j).d = outJ G ps (j + 1) := by
      rw [nextU, hp0, hp1, hp2, b1, show (3 + (j : Int)).toNat = 3 + j by omega, getD_of hs, show p.o.toNat = s.length by omega, show (p.o + n).toNat = (s ++ outJ G ps (j + 1)).length by rw [List.length_append]; omega, List.take_left' rfl, List.drop_left' rfl]
    rw [wk_next (hdec j) hlast hy hbd hu, hnu, hp0, hnc]
    have hat : atJ ps (j + 1) = p.b := by rw [atJ, if_neg (by omega), Nat.add_sub_cancel, e1]
    rw [← hat, ih (j + 1) k' (by omega) (by omega)]
    have hmap : (List.range (m + 1)).map (fun t => (G.getD (j + 1 + t) [], atJ ps (j + 1 + t))) = (List.range (m + 1)).map (fun t => (G.getD (j + (t + 1)) [], atJ ps (j + (t + 1)))) := List.map_congr_left fun z _ => by rw [show j + 1 + z = j + (z + 1) by omega]
    rw [hmap, List.range_succ_eq_map (n := m + 1), List.map_cons, List.map_map]
    rfl
theorem walkN_end : ∀ (R : List (List En × Int)) (a e : Int) (out : List En), (out ++ (R.map (·.1)).flatten).length ≤ 1024 → walkN R a e out = if e ≠ 0 then ([], a, e) else (out ++ (R.map (·.1)).flatten, 0, 0)
  | [], a, e, out, h => by simp [walkN]
  | z :: r, a, e, out, h => by
    have h' : ((out ++ z.1) ++ (r.map (·.1)).flatten).length ≤ 1024 := by simpa using h
    rw [walkN, if_neg (by rw [List.length_append] at h'; omega), walkN_end r a e _ h']
    simp
theorem map_getD (G : List (List En)) : (List.range G.length).map (fun t => G.getD t []) = G := by
  refine List.ext_getElem? fun i => ?_
  rw [List.getElem?_map]
  rcases Nat.lt_or_ge i G.length with hi | hi
  · rw [List.getElem?_range hi, List.getElem?_eq_getElem hi]
    simp [List.getD_eq_getElem?_getD, hi]
  · rw [List.getElem?_eq_none (by simpa using hi), List.getElem?_eq_none hi]; rfl
theorem walk_join {l : List En} {room : Int} {G : List (List En)} {ps : List Pl} {im : List (List UInt8)} {q : Nat} (hF : Fit l room G) (h0 : chkR l = 0) (hlk : l.any linkB = false) (h : Plc G ps) (hG : G.length ≤ 64) (hI : Img G ps im q) (hl : l.length ≤ 1024) : walkR im (outJ G ps 0) 0 = if q + 1 < G.length then ([], 3 + (q : Int), 9) else (l, 0, 0) := by
  have hq := hI.lt
  have hw := wk_join hF h0 hlk h hG hI q 0 64 (by omega) (by omega)
  rw [show atJ ps 0 = 0 from rfl] at hw
  have hd : (outJ G ps 0).drop (min (outJ G ps 0).length (max 0 (0 : Int)).toNat) = outJ G ps 0 := by
    rw [show (max 0 (0 : Int)).toNat = 0 from rfl, Nat.min_zero, List.drop_zero]
  show walkN (wk im 64 0 ((outJ G ps 0).drop _)).1 (wk im 64 0 ((outJ G ps 0).drop _)).2.1 (wk im 64 0 ((outJ G ps 0).drop _)).2.2 [] = _
  rw [hd, hw]
  have hm : ((List.range (q + 1)).map (fun t => (G.getD (0 + t) [], atJ ps (0 + t)))).map (·.1) = (List.range (q + 1)).map (fun t => G.getD t []) := by
    rw [List.map_map]
    refine List.map_congr_left fun t _ => ?_
    simp
  have hle : (((List.range (q + 1)).map (fun t => G.getD t [])).flatten).length ≤ 1024 := by
    have h1 : ((List.range (q + 1)).map (fun t => G.getD t [])) = G.take (q + 1) := by
      rw [← map_getD G, ← List.map_take, List.take_range, Nat.min_eq_left (by omega)]
      refine List.map_congr_left fun t _ => ?_
      rw [map_getD]
    rw [h1]
    have h2 := congrArg List.length hF.flat
    rw [← List.take_append_drop (q + 1) G, List.flatten_append, List.length_append] at h2
    omega
  rw [walkN_end _ _ _ _ (by rw [hm, List.nil_append]; exact hle), hm]
  by_cases hl2 : q + 1 < G.length
  · obtain ⟨p, n, hp, hn, e1, e2, b1, _⟩ := plc_con h hG hl2
    rw [if_pos hl2, endJ, if_pos hl2, e1, b1]; rfl
  · rw [if_neg hl2, endJ, if_neg hl2, List.nil_append, show q + 1 = G.length by omega, map_getD, hF.flat]; rfl
end Go.Proofs.Ytnbclhbpjlpcoaa
