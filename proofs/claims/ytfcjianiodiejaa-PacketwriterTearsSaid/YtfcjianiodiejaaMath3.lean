/- Chapter 52: the writer. My own text. -/
import Derived.Test.YtfcjianiodiejaaMath2
import Derived.Test.YtfcjianiodiejaaXKm
import Derived.Test.YtfcjianiodiejaaShelf
set_option linter.unusedVariables false
set_option linter.unusedSimpArgs false
namespace Go.Proofs.Ytfcjianiodiejaa
open Go.XK Go.RowKit
/-- A pending address and its block. -/
structure Pn where
  p : Int
  b : List UInt8
def encP (x : Pn) : List Value := [.int .i64 x.p, .string (B x.b)]
theorem one_encP : ∀ (x : Pn), ∀ u ∈ encP x, u.oneCell' = true := fun x u hu => by simp [encP] at hu; rcases hu with rfl | rfl <;> rfl
theorem one_encW : ∀ (x : Wr), ∀ u ∈ encW x, u.oneCell' = true := fun x u hu => by simp [encW] at hu; rcases hu with rfl | rfl | rfl | rfl <;> rfl
def usbl (start lba : Int) : Bool := (decide (0 ≤ start) && decide (start ≤ lba)) && decide ((lba - start) % 8 ≠ 7)
def lastP (base : Int) (ps : List Pn) : Int := (ps.getLast?.map (·.p)).getD base
def atP (base : Int) (ps : List Pn) : Int := if ps = [] then base else lastP base ps + 1
structure Wf (start base : Int) (ps : List Pn) : Prop where
  s0 : 0 ≤ start
  sb : start ≤ base
  b1 : base ≤ 4096
  pp : ∀ x ∈ ps, base ≤ x.p ∧ x.p < 4096
  len : ps.length ≤ 1000000
  m8 : (base - start) % 8 = 0
  srt : ps.Pairwise (fun x y => x.p < y.p)
theorem lastP_of {base : Int} {ps : List Pn} {x : Pn} (h : ps[ps.length - 1]? = some x) : lastP base ps = x.p := by
  rw [lastP, List.getLast?_eq_getElem?, h]; rfl
theorem lastP_nil {base : Int} {ps : List Pn} (h : ps.length = 0) : lastP base ps = base := by
  rw [List.eq_nil_of_length_eq_zero h]; rfl
theorem atP_of {base : Int} {ps : List Pn} {x : Pn} (h : ps[ps.length - 1]? = some x) : atP base ps = x.p + 1 := by
  rw [atP, if_neg (fun e => by rw [e] at h; simp at h), lastP_of h]
theorem atP_nil {base : Int} {ps : List Pn} (h : ps.length = 0) : atP base ps = base := by
  rw [atP, if_pos (List.eq_nil_of_length_eq_zero h)]
def newE (start next : Int) : Int := if (decide (start < 0) || decide (next < start) || decide (4096 < next)) = true then 1 else if 4096 < start + (next - start + 8 - 1) / 8 * 8 + 8 then 12 else 0
def newB (start next : Int) : Int := start + (next - start + 8 - 1) / 8 * 8
def ctlP (start base : Int) (ps : List Pn) : Int := lastP base ps - (lastP base ps - start) % 8 + 8 - 1
def opnL (ps : List Pn) : List Int := (ps.filter (fun x => decide (x.b = []))).map (·.p)
theorem opn_yes {ps : List Pn} {i : Nat} {x : Pn} (h : ps[i]? = some x) (hb : x.b = []) : opnL (ps.take (i + 1)) = opnL (ps.take i) ++ [x.p] := by
  rw [List.take_add_one, h]; simp [opnL, hb]
theorem opn_no {ps : List Pn} {i : Nat} {x : Pn} (h : ps[i]? = some x) (hb : ¬ x.b = []) : opnL (ps.take (i + 1)) = opnL (ps.take i) := by
  rw [List.take_add_one, h]; simp [opnL, hb]
theorem opn_length (ps : List Pn) : (opnL ps).length ≤ ps.length := by
  rw [opnL, List.length_map]; exact List.length_filter_le _ _
/-- The next n usable addresses from a on. -/
def asgL (start : Int) : Nat → Int → Nat → Option (List Int)
  | _, _, 0 => some []
  | 0, _, _ + 1 => none
  | f + 1, a, n + 1 => if 4096 < a - (a - start) % 8 + 8 then none else if usbl start a = true then (asgL start f (a + 1) n).map (a :: ·) else asgL start f (a + 1) (n + 1)
def asgA (start a : Int) (n : Nat) : Option (List Int) := asgL start (5000 - a).toNat a n
def asgR (start base : Int) (ps : List Pn) (n : Nat) : Option (List Int) := asgA start (atP base ps) n
theorem asg_full {start a : Int} {n : Nat} (ha : a < 5000) (h : 4096 < a - (a - start) % 8 + 8) : asgA start a (n + 1) = none := by
  rw [asgA, show (5000 - a).toNat = (5000 - (a + 1)).toNat + 1 from by omega, asgL, if_pos h]
theorem asg_yes {start a : Int} {n : Nat} (ha : a < 5000) (h : ¬ 4096 < a - (a - start) % 8 + 8) (hu : usbl start a = true) : asgA start a (n + 1) = (asgA start (a + 1) n).map (a :: ·) := by
  rw [asgA, show (5000 - a).toNat = (5000 - (a + 1)).toNat + 1 from by omega, asgL, if_neg h, if_pos hu]; rfl
theorem asg_no {start a : Int} {n : Nat} (ha : a < 5000) (h : ¬ 4096 < a - (a - start) % 8 + 8) (hu : usbl start a = false) : asgA start a (n + 1) = asgA start (a + 1) (n + 1) := by
  rw [asgA, show (5000 - a).toNat = (5000 - (a + 1)).toNat + 1 from by omega, asgL, if_neg h, if_neg (by simp [hu])]; rfl
theorem asg_zero {start a : Int} : asgA start a 0 = some [] := by rw [asgA]; cases (5000 - a).toNat <;> rfl
theorem asg_mem : ∀ (f : Nat) {start a : Int} {n : Nat} {l : List Int}, asgL start f a n = some l → l.length = n ∧ ∀ x ∈ l, a ≤ x ∧ x < 4096 ∧ usbl start x = true
  | _, _, _, 0, l, h => by cases l with
    | nil => exact ⟨rfl, fun x hx => by cases hx⟩
    | cons y ys => unfold asgL at h; simp at h
  | 0, _, _, n + 1, l, h => by simp [asgL] at h
  | f + 1, start, a, n + 1, l, h => by
    rw [asgL] at h
    split at h
    · cases h
    · rename_i hn
      split at h
      · rename_i hu
        obtain ⟨l', hl', rfl⟩ := Option.map_eq_some_iff.1 h
        obtain ⟨h1, h2⟩ := asg_mem f hl'
        refine ⟨by simp [h1], fun x hx => ?_⟩
        rcases List.mem_cons.1 hx with rfl | hx
        · refine ⟨Int.le_refl _, ?_, hu⟩
          simp only [usbl, Bool.and_eq_true, decide_eq_true_eq] at hu
          omega
        · have := h2 x hx
          exact ⟨by omega, this.2.1, this.2.2⟩
      · obtain ⟨h1, h2⟩ := asg_mem f h
        exact ⟨h1, fun x hx => by have := h2 x hx; exact ⟨by omega, this.2.1, this.2.2⟩⟩
theorem asgR_mem {start base : Int} {ps : List Pn} {n : Nat} {l : List Int} (h : asgR start base ps n = some l) : l.length = n ∧ ∀ x ∈ l, atP base ps ≤ x ∧ x < 4096 ∧ usbl start x = true := asg_mem _ h
theorem lastP_wf {start base : Int} {ps : List Pn} (h : Wf start base ps) : base ≤ lastP base ps ∧ lastP base ps ≤ 4096 := by
  rcases Nat.eq_zero_or_pos ps.length with h0 | h0
  · rw [lastP_nil h0]; exact ⟨Int.le_refl _, h.b1⟩
  · have hx : ps[ps.length - 1]? = some ps[ps.length - 1] := List.getElem?_eq_getElem (by omega)
    rw [lastP_of hx]
    have := h.pp _ (List.mem_of_getElem? hx)
    exact ⟨this.1, by omega⟩
theorem atP_wf {start base : Int} {ps : List Pn} (h : Wf start base ps) : base ≤ atP base ps ∧ atP base ps ≤ 4097 := by
  have := lastP_wf h
  have hb := h.b1
  rw [atP]; split <;> omega
def appP (l : List Int) (bs : List (List UInt8)) : List Pn := List.zipWith Pn.mk l bs
theorem app_take {l : List Int} {bs : List (List UInt8)} {i : Nat} {x : Int} {y : List UInt8} (hx : l[i]? = some x) (hy : bs[i]? = some y) : appP (l.take (i + 1)) (bs.take (i + 1)) = appP (l.take i) (bs.take i) ++ [⟨x, y⟩] := by
  have h1 := (List.getElem?_eq_some_iff.1 hx).1
  have h2 := (List.getElem?_eq_some_iff.1 hy).1
  rw [List.take_add_one, List.take_add_one, hx, hy, appP, Option.toList_some, Option.toList_some, List.zipWith_append (by simp; omega)]
  rfl
theorem appP_length {l : List Int} {bs : List (List UInt8)} (h : l.length = bs.length) : (appP l bs).length = l.length := by simp [appP, h]
def apR (bs : List (List UInt8)) (start base : Int) (ps : List Pn) : Int × List Int × List Pn := if bs.any badB = true then (1, [], ps) else match asgR start base ps bs.length with
  | none => (12, [], ps)
  | some l => (0, l, ps ++ appP l bs)
theorem apR_bad {bs : List (List UInt8)} {start base : Int} {ps : List Pn} (h : bs.any badB = true) : apR bs start base ps = (1, [], ps) := by rw [apR, if_pos h]
theorem apR_none {bs : List (List UInt8)} {start base : Int} {ps : List Pn} (h : bs.any badB = false) (h2 : asgR start base ps bs.length = none) : apR bs start base ps = (12, [], ps) := by rw [apR, if_neg (by simp [h]), h2]
theorem apR_some {bs : List (List UInt8)} {start base : Int} {ps : List Pn} {l : List Int} (h : bs.any badB = false) (h2 : asgR start base ps bs.length = some l) : apR bs start base ps = (0, l, ps ++ appP l bs) := by rw [apR, if_neg (by simp [h]), h2]
theorem rep_c0 : ∀ (s : List UInt8) (c : Nat), (Lib.repeatL s c).length = c * s.length
  | s, 0 => by simp [Lib.repeatL]
  | s, c + 1 => by rw [Lib.repeatL, List.length_append, rep_c0 s c, Nat.add_mul]; omega
theorem rep_c (s : List UInt8) (c : Nat) (w : World) (hc : c ≤ 9223372036854775807) (hs : s.length * c ≤ 140737488355328) : CallR Try.prog 63 [.string (B s), .int .i64 c] w (fun v w' => v = .string (B (Lib.repeatL s c)) ∧ Ext w w') := by
  have h := Try.strings_Repeat (B s) c w hc (by rw [B_size]; exact hs)
  exact Calls.mono h fun e w' he => ⟨_, he.1, rfl, he.2⟩
/-- A block of one byte. -/
def blk1 (c : UInt8) : List UInt8 := Lib.repeatL [c] 2048
theorem blk1_length (c : UInt8) : (blk1 c).length = 2048 := by rw [blk1, rep_c0]; rfl
theorem blk1_inj {c d : UInt8} (h : blk1 c = blk1 d) : c = d := by
  have h2 : ∀ (c : UInt8) (n : Nat), (Lib.repeatL [c] (n + 1)).head? = some c := fun c n => by rw [Lib.repeatL]; rfl
  have h3 := h2 c 2047
  rw [show Lib.repeatL [c] (2047 + 1) = blk1 c from rfl, h, show blk1 d = Lib.repeatL [d] (2047 + 1) from rfl, h2 d 2047] at h3
  exact (Option.some.inj h3).symm

theorem lastP_max {start base : Int} {ps : List Pn} (h : Wf start base ps) : ∀ x ∈ ps, x.p ≤ lastP base ps := by
  intro x hx
  obtain ⟨i, hi⟩ := List.getElem?_of_mem hx
  have hlt := (List.getElem?_eq_some_iff.1 hi).1
  have hl : ps[ps.length - 1]? = some ps[ps.length - 1] := List.getElem?_eq_getElem (by omega)
  rw [lastP_of hl]
  rcases Nat.lt_or_ge i (ps.length - 1) with h1 | h1
  · have := List.pairwise_iff_getElem.1 h.srt i (ps.length - 1) hlt (by omega) h1
    rw [(List.getElem?_eq_some_iff.1 hi).2] at this
    omega
  · have : i = ps.length - 1 := by omega
    subst this
    rw [hl] at hi
    rw [Option.some.inj hi]; exact Int.le_refl _
/-! ### What a flush writes -/
def core (x : Wr) : Int × List (List UInt8) × Bool × Bool := (x.p, x.bl, x.sy, x.cl)
def setL (base : Int) (ps : List Pn) (L : Img) : Img := ps.foldl (fun L x => L.set (x.p - base).toNat x.b) L
theorem setL_snoc {base : Int} {ps : List Pn} {i : Nat} {x : Pn} {L : Img} (h : ps[i]? = some x) : setL base (ps.take (i + 1)) L = (setL base (ps.take i) L).set (x.p - base).toNat x.b := by
  rw [List.take_add_one, h]; simp [setL]
theorem setL_length : ∀ (base : Int) (ps : List Pn) (L : Img), (setL base ps L).length = L.length
  | _, [], _ => rfl
  | base, x :: ps, L => by
    show (setL base ps (L.set _ _)).length = _
    rw [setL_length base ps]; simp
def ctlL (c : List UInt8) (L : Img) : Img := if c = [] then L else L.set (L.length - 1) c
theorem ctlL_length (c : List UInt8) (L : Img) : (ctlL c L).length = L.length := by rw [ctlL]; split <;> simp
def zB : List UInt8 := Lib.repeatL [0] 2048
def wrAt (base : Int) (L : Img) (A : Option Addr) (i : Nat) : Wr := ⟨base + (i : Int), (L.take (i + 8)).drop i, false, false, A.map (·.add (i * 1)), 8⟩
def wsL (base : Int) (L : Img) (A : Option Addr) (n : Nat) : List Wr := (List.range n).map fun j => wrAt base L A (8 * j)
theorem wsL_length (base : Int) (L : Img) (A : Option Addr) (n : Nat) : (wsL base L A n).length = n := by simp [wsL]
theorem wsL_next (base : Int) (L : Img) (A : Option Addr) (n : Nat) : wsL base L A (n + 1) = wsL base L A n ++ [wrAt base L A (8 * n)] := by simp [wsL, List.range_succ]
def flC (base : Int) (L : Img) (K : Nat) : List (Int × List (List UInt8) × Bool × Bool) := (List.range K).map fun j => (base + ((8 * j : Nat) : Int), (L.take (8 * j + 8)).drop (8 * j), decide (j + 1 = K), false)
def flR (c : List UInt8) (start base : Int) (ps : List Pn) : Int × List (Int × List (List UInt8) × Bool × Bool) × Int × List Pn :=
  if (decide (c ≠ []) && decide ((c.length : Int) ≠ 2048)) = true then (1, [], base, ps)
  else if (0 : Int) < ((opnL ps).length : Int) then (8, [], base, ps)
  else if (decide ((ps.length : Int) = 0) && decide (c = [])) = true then (0, [], base, ps)
  else if 4096 < ctlP start base ps + 1 then (12, [], base, ps)
  else (0, flC base (ctlL c (setL base ps (List.replicate (ctlP start base ps + 1 - base).toNat zB))) ((ctlP start base ps + 1 - base).toNat / 8), ctlP start base ps + 1, [])
/-- The last write is marked. -/
def wsF (ws : List Wr) (y : Wr) : List Wr := ws.set (ws.length - 1) ⟨y.p, y.bl, true, y.cl, y.A, y.c⟩
theorem wsF_core {base : Int} {L : Img} {A : Option Addr} {K : Nat} {y : Wr} (hK : 0 < K) (hy : (wsL base L A K)[(wsL base L A K).length - 1]? = some y) : (wsF (wsL base L A K) y).map core = flC base L K := by
  rw [wsL_length] at hy
  obtain ⟨m, rfl⟩ : ∃ m, K = m + 1 := ⟨K - 1, by omega⟩
  have hy2 : wrAt base L A (8 * m) = y := by
    rw [show m + 1 - 1 = m from rfl, wsL_next, List.getElem?_append_right (by rw [wsL_length]; omega), wsL_length] at hy
    simpa using hy
  subst hy2
  apply List.ext_getElem?
  intro j
  rw [wsF, wsL_length, List.getElem?_map, List.getElem?_set, wsL_length, flC, List.getElem?_map]
  by_cases h : m + 1 - 1 = j
  · subst h
    rw [if_pos rfl, if_pos (by omega), List.getElem?_range (by omega)]
    simp [core, wrAt]
  · rw [if_neg h]
    by_cases hj : j < m + 1
    · rw [wsL, List.getElem?_map, List.getElem?_range hj]
      simp [core, wrAt]
      omega
    · rw [wsL, List.getElem?_map, List.getElem?_eq_none (by simp; omega)]; rfl
theorem inn_ws {W : World} {B0 K : Nat} {base : Int} {L : Img} {v : Value} {y : Wr} (ho : Go.XK.Own W B0 9 1 encS v L) (h8 : L.length = 8 * K) (hy : y ∈ wsL base L (ownA v) K) : Inn W (wsF (wsL base L (ownA v) K) y) := by
  have key : ∀ x ∈ wsL base L (ownA v) K, SlR W x.A x.c 1 encS x.bl := by
    intro x hx
    simp only [wsL, List.mem_map, List.mem_range] at hx
    obtain ⟨j, hj, rfl⟩ := hx
    have hs := ho.slr (fun _ => rfl)
    have hr := hs.1.slice (cap := ownC v) (lo := 8 * j) (hi := 8 * j + 8) hs.2.1 (by omega)
    have hlc := hs.2.1
    rw [if_neg (by omega)] at hr
    refine ⟨hr, ?_, (show (8 : Nat) ≤ maxLen by decide), fun hn => ?_⟩
    · show ((L.take (8 * j + 8)).drop (8 * j)).length ≤ 8
      simp; omega
    · have hn : (ownA v).map (·.add (8 * j * 1)) = none := hn
      have := (hs.none_ (Option.map_eq_none_iff.1 hn)).2
      rw [this] at h8; simp at h8; omega
  intro x hx
  rcases List.mem_or_eq_of_mem_set hx with hx | rfl
  · exact key x hx
  · exact key y hy
theorem ctl_facts {start base : Int} {ps : List Pn} (h : Wf start base ps) : base + 8 ≤ ctlP start base ps + 1 ∧ ctlP start base ps + 1 ≤ 4104 ∧ (ctlP start base ps + 1 - start) % 8 = 0 ∧ (ctlP start base ps + 1 - base) % 8 = 0 ∧ ∀ x ∈ ps, x.p < ctlP start base ps + 1 := by
  have h1 := lastP_wf h
  have h2 := h.m8
  have h3 := h.s0
  have h4 := h.sb
  have h5 := h.b1
  simp only [ctlP]
  refine ⟨by omega, by omega, by omega, by omega, fun x hx => by have := lastP_max h x hx; omega⟩
end Go.Proofs.Ytfcjianiodiejaa
