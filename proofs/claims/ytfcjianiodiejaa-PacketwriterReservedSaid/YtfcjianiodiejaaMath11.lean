/- Chapter 52: reserved addresses, filled one after the other and flushed. My own text. -/
import Derived.Test.YtfcjianiodiejaaMath10
set_option linter.unusedVariables false
set_option linter.unusedSimpArgs false
namespace Go.Proofs.Ytfcjianiodiejaa
open Go.XK Go.RowKit
def letB (i : Nat) : List UInt8 := blk1 (u8of (97 + (i : Int) % 26))
/-- The pending addresses l, of which the first k are filled. -/
def qP (l : List Int) (k : Nat) : List Pn := l.mapIdx fun i a => ⟨a, if i < k then letB i else []⟩
theorem qP_get (l : List Int) (k i : Nat) : (qP l k)[i]? = l[i]?.map fun a => ⟨a, if i < k then letB i else []⟩ := by rw [qP, List.getElem?_mapIdx]
theorem qP_length (l : List Int) (k : Nat) : (qP l k).length = l.length := by rw [qP, List.length_mapIdx]
theorem qP_p (l : List Int) (k : Nat) : (qP l k).map (·.p) = l := by
  apply List.ext_getElem?
  intro i
  rw [List.getElem?_map, qP_get]
  cases l[i]? <;> rfl
theorem qP_zero (l : List Int) : qP l 0 = l.map fun a => ⟨a, []⟩ := by
  apply List.ext_getElem?
  intro i
  rw [qP_get, List.getElem?_map]
  cases l[i]? <;> rfl
theorem qP_mem {l : List Int} {k : Nat} {x : Pn} (h : x ∈ qP l k) : x.p ∈ l := by
  rw [← qP_p l k]; exact List.mem_map_of_mem h
theorem qP_set {l : List Int} {k : Nat} {a : Int} (h : l[k]? = some a) : (qP l k).set k ⟨a, letB k⟩ = qP l (k + 1) := by
  apply List.ext_getElem?
  intro i
  have hlt := (List.getElem?_eq_some_iff.1 h).1
  rw [List.getElem?_set, qP_get, qP_get, qP_length]
  by_cases hi : k = i
  · subst hi
    rw [if_pos rfl, if_pos hlt, h]; simp
  · rw [if_neg hi]
    cases l[i]? with
    | none => rfl
    | some y =>
      have e : (if i < k + 1 then letB i else []) = (if i < k then letB i else []) := by
        by_cases h1 : i < k
        · rw [if_pos h1, if_pos (by omega)]
        · rw [if_neg h1, if_neg (by omega)]
      simp only [Option.map_some, e]
theorem lastP_map {base : Int} {ps qs : List Pn} (h : ps.map (·.p) = qs.map (·.p)) : lastP base ps = lastP base qs := by
  have e : ∀ ps : List Pn, ps.getLast?.map (·.p) = (ps.map (·.p)).getLast? := fun ps => by rw [List.getLast?_map]
  rw [lastP, lastP, e, e, h]
theorem ctlP_q (start base : Int) (l : List Int) (k j : Nat) : ctlP start base (qP l k) = ctlP start base (qP l j) := by
  rw [ctlP, ctlP, lastP_map (show (qP l k).map (·.p) = (qP l j).map (·.p) by rw [qP_p, qP_p])]
structure Rv (start base : Int) (l : List Int) : Prop where
  wf : Wf start base []
  b : base ≤ 520
  n : l.length ≤ 60
  m : ∀ x ∈ l, base ≤ x ∧ x < base + 2 * (l.length : Int) ∧ usbl start x = true
  srt : l.Pairwise (· < ·)
theorem rv_new {st base z : Int} (hw : Wf st base []) (hb : base ≤ 520) (h0 : 0 ≤ z) (h1 : z ≤ 60) : ∃ l, rsZ z st base [] = (0, l, qP l 0) ∧ Rv st base l := by
  have hs0 := hw.s0
  have hsb := hw.sb
  obtain ⟨l, hl, hn, hm, hp⟩ := asg_some z.toNat st base hs0 hsb (by omega)
  have hr : rsZ z st base [] = (0, l, [] ++ l.map fun a => ⟨a, []⟩) := rsZ_some (m := z.toNat) (by simp; omega) (by omega) (by rw [asgR, atP, if_pos rfl]; exact hl)
  exact ⟨l, by rw [hr, List.nil_append, qP_zero], ⟨hw, hb, by omega, fun x hx => by rw [hn]; exact hm x hx, hp⟩⟩
section
variable {start base : Int} {l : List Int}
theorem Rv.wfq (h : Rv start base l) (k : Nat) : Wf start base (qP l k) := by
  have hb := h.b
  have hn := h.n
  refine ⟨h.wf.s0, h.wf.sb, h.wf.b1, fun x hx => ?_, by rw [qP_length]; omega, h.wf.m8, ?_⟩
  · have := h.m _ (qP_mem hx); omega
  · exact List.pairwise_map.1 (show ((qP l k).map (·.p)).Pairwise (· < ·) by rw [qP_p]; exact h.srt)
theorem Rv.idx (h : Rv start base l) {k i : Nat} {a : Int} (hi : l[i]? = some a) : idxP (qP l k) a = i := by
  have hlt := (List.getElem?_eq_some_iff.1 hi).1
  refine idxP_at (x := ⟨a, if i < k then letB i else []⟩) (by rw [qP_get, hi]; rfl) ?_ rfl
  rw [List.any_eq_false]
  intro x hx
  obtain ⟨j, hj⟩ := List.mem_iff_getElem?.1 hx
  rw [List.getElem?_take] at hj
  split at hj
  · rename_i hji
    rw [qP_get, List.getElem?_eq_getElem (show j < l.length by omega)] at hj
    obtain rfl := Option.some.inj hj
    have := List.pairwise_iff_getElem.1 h.srt j i (by omega) hlt hji
    rw [(List.getElem?_eq_some_iff.1 hi).2] at this
    simp; omega
  · cases hj
theorem letB_length (i : Nat) : (letB i).length = 2048 := blk1_length _
theorem Rv.fill1 (h : Rv start base l) {i : Nat} {a : Int} {b : List UInt8} (hi : l[i]? = some a) (hb : b = letB i) : fillE a b (qP l i) = 0 ∧ fillP a b (qP l i) = qP l (i + 1) := by
  subst hb
  have hx := h.idx (k := i) hi
  have he : fillE a (letB i) (qP l i) = 0 := fill_ok (x := ⟨a, []⟩) (by rw [letB_length]; simp) (by rw [hx]; omega) (by rw [hx, Int.toNat_natCast, qP_get, hi, Option.map_some, if_neg (by omega)]) (by simp)
  exact ⟨he, by rw [fillP_ok he, hx, Int.toNat_natCast, qP_set hi]⟩
theorem Rv.fill2 (h : Rv start base l) {i : Nat} {a : Int} {b : List UInt8} (hi : l[i]? = some a) (hb : b.length = 2048) : fillE a b (qP l (i + 1)) = 5 ∧ fillP a b (qP l (i + 1)) = qP l (i + 1) := by
  have hx := h.idx (k := i + 1) hi
  have he : fillE a b (qP l (i + 1)) = 5 := fill_full (x := ⟨a, letB i⟩) (by rw [hb]; simp) (by rw [hx]; omega) (by rw [hx, Int.toNat_natCast, qP_get, hi, Option.map_some, if_pos (by omega)]) (fun e => by
    have := congrArg List.length e
    rw [show ((⟨a, letB i⟩ : Pn).b) = letB i from rfl, letB_length] at this
    cases this)
  exact ⟨he, fillP_no he (by decide)⟩
theorem Rv.opn (h : Rv start base l) : opnL (qP l 0) = l := by
  rw [opnL, List.filter_eq_self.2, qP_p]
  intro x hx
  rw [qP_zero] at hx
  obtain ⟨a, _, rfl⟩ := List.mem_map.1 hx
  simp
theorem Rv.ap (h : Rv start base l) : Ap start base (qP l l.length) := by
  refine ⟨h.wfq _, fun x hx => ?_, ?_⟩
  · obtain ⟨i, hi⟩ := List.mem_iff_getElem?.1 hx
    rw [qP_get] at hi
    cases hy : l[i]? with
    | none => rw [hy] at hi; cases hi
    | some y =>
      have hlt := (List.getElem?_eq_some_iff.1 hy).1
      rw [hy, Option.map_some, if_pos hlt] at hi
      obtain rfl := Option.some.inj hi
      exact ⟨(h.m y (List.mem_of_getElem? hy)).2.2, letB_length i⟩
  · rw [qP_length, atP]
    split
    · omega
    · rename_i hne
      have hlw := lastP_wf (h.wfq l.length)
      obtain ⟨x, hx⟩ : ∃ x, (qP l l.length).getLast? = some x := by
        cases hq : (qP l l.length).getLast? with
        | none => exact absurd (List.getLast?_eq_none_iff.1 hq) hne
        | some x => exact ⟨x, rfl⟩
      have := h.m _ (qP_mem (List.mem_of_getLast? hx))
      rw [lastP, hx]
      show x.p + 1 ≤ _
      omega
theorem Rv.mid (h : Rv start base l) {c : List UInt8} (hc : c = [] ∨ c.length = 2048) : ∃ e1 cs1 base1 ps1, flR c start base (qP l 0) = (e1, cs1, base1, ps1) ∧ Wf start base1 ps1 ∧ (l ≠ [] → e1 = 8 ∧ base1 = base ∧ ps1 = qP l 0) := by
  by_cases hl : l = []
  · subst hl
    have hb := h.b
    obtain ⟨L, K, base', hfl, _, _, _, hwf, _⟩ := fl_ap (c := c) (Ap.nil h.wf) hc (by simp; omega)
    exact ⟨_, _, _, _, hfl, hwf, fun e => absurd rfl e⟩
  · refine ⟨8, [], base, qP l 0, ?_, h.wfq 0, fun _ => ⟨rfl, rfl, rfl⟩⟩
    have h1 : (decide (c ≠ []) && decide ((c.length : Int) ≠ 2048)) = false := by
      rcases hc with rfl | hc
      · rfl
      · simp [hc]
    rw [flR, h1, if_neg (by decide), if_pos]
    rw [h.opn]
    have : l.length ≠ 0 := fun e => hl (List.eq_nil_of_length_eq_zero e)
    omega
theorem Rv.fin (h : Rv start base l) (hl : l ≠ []) {c : List UInt8} (hc : c = [] ∨ c.length = 2048) : ∃ (L : Img) (K : Nat) (base' : Int), 0 < K ∧ base' = base + 8 * (K : Int) ∧ base' ≤ 4096 ∧ flR c start base (qP l l.length) = (0, flC base L K, base', []) ∧ Wf start base' [] ∧ ctlP start base (qP l 0) + 1 = base' ∧ L.length = 8 * K ∧ ∀ i, i < K → L[8 * i + 7]? = some (if c ≠ [] ∧ i + 1 = K then c else zB) := by
  have ha := h.ap
  have hw := ha.wf
  have hb := h.b
  have hn := h.n
  have hs0 := hw.s0
  have hsb := hw.sb
  have hup := ha.up
  have hne : qP l l.length ≠ [] := fun e => hl (by have := congrArg List.length e; rw [qP_length] at this; exact List.eq_nil_of_length_eq_zero this)
  have hopn : opnL (qP l l.length) = [] := by
    rw [opnL, List.map_eq_nil_iff, List.filter_eq_nil_iff]
    intro x hx
    have := (ha.us x hx).2
    have hne : x.b ≠ [] := fun e => by rw [e] at this; simp at this
    simp [hne]
  have hc1 : (decide (c ≠ []) && decide ((c.length : Int) ≠ 2048)) = false := by
    rcases hc with rfl | hc
    · rfl
    · simp [hc]
  have hlp := lastP_wf hw
  rw [atP, if_neg hne, qP_length] at hup
  obtain ⟨hct1, hct2, hct3, hct4, hct5⟩ := ctl_facts hw
  have hctb : ctlP start base (qP l l.length) + 1 ≤ base + 2 * (l.length : Int) + 8 := by
    rw [ctlP]; omega
  obtain ⟨K, hK⟩ : ∃ K : Nat, ctlP start base (qP l l.length) + 1 - base = ((8 * K : Nat) : Int) := ⟨((ctlP start base (qP l l.length) + 1 - base) / 8).toNat, by omega⟩
  have hKz : (ctlP start base (qP l l.length) + 1 - base).toNat = 8 * K := by omega
  have hKd : 8 * K / 8 = K := by omega
  have hL0 : (setL base (qP l l.length) (List.replicate (8 * K) zB)).length = 8 * K := by rw [setL_length, List.length_replicate]
  have hK0 : 0 < K := by omega
  have hm8 := hw.m8
  refine ⟨ctlL c (setL base (qP l l.length) (List.replicate (8 * K) zB)), K, ctlP start base (qP l l.length) + 1, hK0, by omega, by omega, ?_, ⟨hs0, by omega, by omega, (fun x hx => by cases hx), by simp, hct3, List.Pairwise.nil⟩, by rw [ctlP_q start base l 0 l.length], by rw [ctlL_length, hL0], fun i hi => ?_⟩
  · rw [flR, hc1, hopn, if_neg (by decide), if_neg (by decide), if_neg, if_neg (by omega), hKz, hKd]
    intro hh
    simp only [Bool.and_eq_true, decide_eq_true_eq] at hh
    exact hne (List.eq_nil_of_length_eq_zero (by omega))
  · have hz : (setL base (qP l l.length) (List.replicate (8 * K) zB))[8 * i + 7]? = some zB := by
      rw [setL_other base _ _ _ (fun x hx => ?_), List.getElem?_replicate, if_pos (by omega)]
      have h1 := hw.pp x hx
      have hu := (usbl_iff hs0 (by omega)).1 (ha.us x hx).1
      omega
    rw [ctlL]
    by_cases hce : c = []
    · rw [if_pos hce, if_neg (fun e => e.1 hce), hz]
    · rw [if_neg hce, List.getElem?_set, hL0]
      by_cases hik : i + 1 = K
      · rw [if_pos (by omega), if_pos (by omega), if_pos ⟨hce, hik⟩]
      · rw [if_neg (by omega), if_neg (fun e => hik e.2), hz]
end
/-- The writes of such a flush, one by one. -/
theorem fl_out {ws : List Wr} {base : Int} {L : Img} {K : Nat} (h : ws.map core = flC base L K) (hl : L.length = 8 * K) : ws.length = K ∧ ∀ (i : Nat) (x : Wr), ws[i]? = some x → x.p = base + 8 * (i : Int) ∧ (x.bl.length : Int) = 8 ∧ x.bl[7]? = L[8 * i + 7]? ∧ x.sy = decide (i + 1 = K) ∧ x.cl = false := by
  refine ⟨by have := congrArg List.length h; simpa [flC] using this, fun i x hx => ?_⟩
  have hi : (ws.map core)[i]? = some (core x) := by rw [List.getElem?_map, hx]; rfl
  rw [h, flC, List.getElem?_map] at hi
  cases hr : (List.range K)[i]? with
  | none => rw [hr] at hi; cases hi
  | some j =>
    have hlt : i < K := by have := (List.getElem?_eq_some_iff.1 hr).1; simpa using this
    have hj : j = i := by rw [List.getElem?_range hlt] at hr; exact (Option.some.inj hr).symm
    subst hj
    rw [hr, Option.map_some] at hi
    have hi := Option.some.inj hi
    simp only [core, Prod.mk.injEq] at hi
    obtain ⟨h1, h2, h3, h4⟩ := hi
    refine ⟨by omega, by rw [← h2]; simp; omega, ?_, h3.symm, h4.symm⟩
    rw [← h2, List.getElem?_drop, List.getElem?_take, if_pos (by omega)]
theorem mid_no {l : List Int} {e1 : Int} {q : Prop} (h : l ≠ [] → e1 = 8 ∧ q) : (decide ((0 : Int) < (l.length : Int)) && decide (e1 ≠ 8)) = false := by
  by_cases hl : l = []
  · subst hl; rfl
  · rw [decide_eq_false (p := e1 ≠ 8) (fun h2 => h2 (h hl).1), Bool.and_false]
theorem zB_blk : blk1 0 = zB := rfl
end Go.Proofs.Ytfcjianiodiejaa
