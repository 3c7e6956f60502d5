/- Chapter 52: appended blocks are found, the loops. My own text. -/
import Derived.Test.YtfcjianiodiejaaMath8
set_option linter.unusedVariables false
set_option linter.unusedSimpArgs false
namespace Go.Proofs.Ytfcjianiodiejaa
open Go.XK Go.RowKit
theorem new_ok {st nx : Int} (h0 : 0 ≤ st) (h1 : st < 256) (h2 : 0 ≤ nx) (h3 : nx < 256) : newE st (st + nx) = 0 ∧ ∃ base, newB st (st + nx) = base ∧ Wf st base [] ∧ base ≤ 520 := by
  have hb : newB st (st + nx) = st + (nx + 7) / 8 * 8 := by rw [newB]; congr 3; omega
  refine ⟨?_, _, rfl, ?_, by rw [hb]; omega⟩
  · rw [newE, if_neg (by simp; omega), if_neg (by omega)]
  · rw [hb]; exact ⟨h0, by omega, by omega, (fun x hx => by cases hx), by simp, by omega, List.Pairwise.nil⟩
theorem fi_prev {start base : Int} {im : Img} {at_ : List Int} {bl : List (List UInt8)} {i : Nat} {x : Int} (h : FI start base im at_ bl) (hx : at_[i]? = some x) : ∃ xp, i ≠ 0 → at_[((i : Int) - 1).toNat]? = some xp ∧ xp < x := by
  by_cases hi : i = 0
  · exact ⟨0, fun e => absurd hi e⟩
  · have hlt := (List.getElem?_eq_some_iff.1 hx).1
    refine ⟨at_[i - 1], fun _ => ?_⟩
    rw [show ((i : Int) - 1).toNat = i - 1 from by omega, List.getElem?_eq_getElem (by omega)]
    refine ⟨rfl, ?_⟩
    have := List.pairwise_iff_getElem.1 h.srt (i - 1) i (by omega) hlt (by omega)
    rwa [(List.getElem?_eq_some_iff.1 hx).2] at this
theorem fi_at {start base : Int} {im : Img} {at_ : List Int} {bl : List (List UInt8)} {i : Nat} {x : Int} (h : FI start base im at_ bl) (hx : at_[i]? = some x) : ∃ y, bl[i]? = some y ∧ 0 ≤ x ∧ x < (im.length : Int) ∧ im[x.toNat]? = some y ∧ usbl start x = true := by
  have hlt := (List.getElem?_eq_some_iff.1 hx).1
  have hy : bl[i]? = some (bl[i]'(by rw [← h.len]; exact hlt)) := List.getElem?_eq_getElem _
  have h1 := h.fd i x _ hx hy
  have h2 := (List.getElem?_eq_some_iff.1 h1.2).1
  exact ⟨_, hy, h1.1, by omega, h1.2, (h.us x (List.mem_of_getElem? hx)).1⟩
theorem letter_lt {x : Int} (h0 : 0 ≤ x) : (u8of (97 + x % 26)).toNat < 128 := by
  have := u8of_toNat (97 + x % 26)
  omega
/-- A round's flush: recorded, its control block stands where it should. -/
theorem round_ok {start base : Int} {im : Img} {at_ : List Int} {bl : List (List UInt8)} {ps : List Pn} {c : List UInt8} (h : FI start base im at_ bl) (ha : Ap start base ps) (hc : c = [] ∨ c.length = 2048) (hn : base + 2 * (ps.length : Int) + 8 ≤ 4096) :
    ∃ (L : Img) (K : Nat) (base' : Int), flR c start base ps = (0, flC base L K, base', []) ∧ base' ≤ base + 2 * (ps.length : Int) + 8 ∧ Wf start base' [] ∧ FI start base' (recI base L im) (at_ ++ ps.map (·.p)) (bl ++ ps.map (·.b)) ∧
      (∀ ws : List Wr, ws.map core = flC base L K → onceR im ws = true ∧ cutR im ws ((stL ws).length : Int) = (recI base L im, 0) ∧ (stL ws).length ≤ 4096) ∧
      (c ≠ [] → 0 ≤ ctlP start base ps ∧ ctlP start base ps < ((recI base L im).length : Int) ∧ (recI base L im)[(ctlP start base ps).toNat]? = some c) := by
  obtain ⟨L, K, base', hfl, hl, hb, hle, hwf, hLb, hg, hctl⟩ := fl_ap ha hc hn
  have hs0 := ha.wf.s0
  have hsb := ha.wf.sb
  refine ⟨L, K, base', hfl, hle, hwf, by rw [hb]; exact fi_next h ha hLb hg, fun ws hcs => fl_rec h (by omega) hcs hl (by rw [← hb]; exact hwf.b1) hLb, fun hne => ?_⟩
  obtain ⟨h1, h2⟩ := hctl hne
  have h3 := recI_new h.il h2
  rw [show base.toNat + (ctlP start base ps - base).toNat = (ctlP start base ps).toNat from by omega] at h3
  have h4 := (List.getElem?_eq_some_iff.1 h3).1
  exact ⟨by omega, by omega, h3⟩
end Go.Proofs.Ytfcjianiodiejaa
