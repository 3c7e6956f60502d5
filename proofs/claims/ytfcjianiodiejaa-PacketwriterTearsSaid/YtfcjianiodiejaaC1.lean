/- Chapter 52: C1. Printed by my program wip/tools/wk.py. -/
import Derived.Test.YtfcjianiodiejaaMath
import Derived.Test.YtfcjianiodiejaaProg
set_option linter.unusedVariables false
set_option linter.unusedSimpArgs false
set_option maxRecDepth 4000
set_option maxHeartbeats 4000000
namespace Go.Proofs.Ytfcjianiodiejaa
open Go.XK Go.RowKit
theorem one_encS : ∀ (x : List UInt8), ∀ u ∈ encS x, u.oneCell' = true := fun x u hu => by simp [encS] at hu; subst hu; rfl
theorem one_encI : ∀ (x : Int), ∀ u ∈ encI x, u.oneCell' = true := fun x u hu => by simp [encI] at hu; subst hu; rfl
def vImage (im : Img) : Bool := im.all okE && decide ((im.length : Int) ≤ 4096)
def idxF (xs : List (List UInt8)) : Int := if xs.any badB then (xs.findIdx badB : Int) else -1
theorem idxF_no {xs : List (List UInt8)} {i : Nat} (h : (xs.take i).any badB = false) (hi : xs.length ≤ i) : idxF xs = -1 := by
  rw [List.take_of_length_le hi] at h
  rw [idxF, h]; rfl
theorem idxF_at {xs : List (List UInt8)} {i : Nat} {x : List UInt8} (hx : xs[i]? = some x) (h : (xs.take i).any badB = false) (hb : badB x = true) : idxF xs = i := by
  have hlt := (List.getElem?_eq_some_iff.1 hx).1
  have hxx : xs[i] = x := (List.getElem?_eq_some_iff.1 hx).2
  have ha : xs.any badB = true := List.any_eq_true.2 ⟨x, List.mem_of_getElem? hx, hb⟩
  rw [idxF, ha, if_pos rfl]
  have : xs.findIdx badB = i := by
    rw [List.findIdx_eq hlt]
    refine ⟨by rw [hxx]; exact hb, fun j hj => ?_⟩
    rw [List.any_eq_false] at h
    have := h xs[j] (List.mem_iff_getElem?.2 ⟨j, by rw [List.getElem?_take, if_pos hj]; exact List.getElem?_eq_getElem _⟩)
    simpa using this
  rw [this]
theorem idxF_nonneg (xs : List (List UInt8)) : decide (0 ≤ idxF xs) = xs.any badB := by
  rw [idxF]
  cases xs.any badB
  · rfl
  · simp
theorem any_take {xs : List (List UInt8)} {i : Nat} {x : List UInt8} (hx : xs[i]? = some x) (h : (xs.take i).any badB = false) (hb : badB x = false) : (xs.take (i + 1)).any badB = false := by
  rw [List.take_add_one, hx, List.any_append, h]; simp [hb]
theorem any_at {xs : List (List UInt8)} {i : Nat} {x : List UInt8} (hx : xs[i]? = some x) (hb : badB x = true) : xs.any badB = true := List.any_eq_true.2 ⟨x, List.mem_of_getElem? hx, hb⟩
theorem okE_no {p q r : Bool} (h : (p && q && r) = true) : (!(p && q && r)) = false := by rw [h]; rfl
theorem okE_yes {p q r : Bool} (h : (p && q && r) = false) : (!(p && q && r)) = true := by rw [h]; rfl
theorem same_no {α : Type} {a b : List α} {i : Nat} {x y : α} (hx : a[i]? = some x) (hy : b[i]? = some y) (h : x ≠ y) : a ≠ b := fun e => by
  subst e
  rw [hx] at hy
  exact h (Option.some.inj hy)
theorem same_take {α : Type} {a b : List α} {i : Nat} {x : α} (hx : a[i]? = some x) (hy : b[i]? = some x) (h : a.take i = b.take i) : a.take (i + 1) = b.take (i + 1) := by
  rw [List.take_add_one, List.take_add_one, h, hx, hy]
theorem same_end {α : Type} {a b : List α} {i : Nat} (h : a.take i = b.take i) (hl : a.length = b.length) (hi : a.length ≤ i) : a = b := by
  rwa [List.take_of_length_le hi, List.take_of_length_le (by omega)] at h

theorem ent3 : Ent Try.prog 3 := enters_of Try.func3 (by kernel_rfl) rfl
theorem ent4 : Ent Try.prog 4 := enters_of Try.func4 (by kernel_rfl) rfl
theorem ent5 : Ent Try.prog 5 := enters_of Try.func5 (by kernel_rfl) rfl
theorem ent6 : Ent Try.prog 6 := enters_of Try.func6 (by kernel_rfl) rfl
theorem ent7 : Ent Try.prog 7 := enters_of Try.func7 (by kernel_rfl) rfl
theorem ent8 : Ent Try.prog 8 := enters_of Try.func8 (by kernel_rfl) rfl
theorem ent9 : Ent Try.prog 9 := enters_of Try.func9 (by kernel_rfl) rfl
theorem ent10 : Ent Try.prog 10 := enters_of Try.func10 (by kernel_rfl) rfl
theorem ent11 : Ent Try.prog 11 := enters_of Try.func11 (by kernel_rfl) rfl
theorem ent12 : Ent Try.prog 12 := enters_of Try.func12 (by kernel_rfl) rfl
theorem ent13 : Ent Try.prog 13 := enters_of Try.func13 (by kernel_rfl) rfl
theorem ent14 : Ent Try.prog 14 := enters_of Try.func14 (by kernel_rfl) rfl
theorem ent15 : Ent Try.prog 15 := enters_of Try.func15 (by kernel_rfl) rfl
theorem ent16 : Ent Try.prog 16 := enters_of Try.func16 (by kernel_rfl) rfl
theorem ent17 : Ent Try.prog 17 := enters_of Try.func17 (by kernel_rfl) rfl
theorem ent18 : Ent Try.prog 18 := enters_of Try.func18 (by kernel_rfl) rfl
theorem ent19 : Ent Try.prog 19 := enters_of Try.func19 (by kernel_rfl) rfl
theorem ent20 : Ent Try.prog 20 := enters_of Try.func20 (by kernel_rfl) rfl
theorem ent21 : Ent Try.prog 21 := enters_of Try.func21 (by kernel_rfl) rfl
theorem ent22 : Ent Try.prog 22 := enters_of Try.func22 (by kernel_rfl) rfl
theorem ent23 : Ent Try.prog 23 := enters_of Try.func23 (by kernel_rfl) rfl
theorem ent24 : Ent Try.prog 24 := enters_of Try.func24 (by kernel_rfl) rfl
theorem ent25 : Ent Try.prog 25 := enters_of Try.func25 (by kernel_rfl) rfl
theorem ent26 : Ent Try.prog 26 := enters_of Try.func26 (by kernel_rfl) rfl
theorem ent27 : Ent Try.prog 27 := enters_of Try.func27 (by kernel_rfl) rfl
theorem ent28 : Ent Try.prog 28 := enters_of Try.func28 (by kernel_rfl) rfl
theorem ent29 : Ent Try.prog 29 := enters_of Try.func29 (by kernel_rfl) rfl
theorem ent30 : Ent Try.prog 30 := enters_of Try.func30 (by kernel_rfl) rfl
theorem ent31 : Ent Try.prog 31 := enters_of Try.func31 (by kernel_rfl) rfl
theorem ent32 : Ent Try.prog 32 := enters_of Try.func32 (by kernel_rfl) rfl
theorem ent33 : Ent Try.prog 33 := enters_of Try.func33 (by kernel_rfl) rfl
theorem ent34 : Ent Try.prog 34 := enters_of Try.func34 (by kernel_rfl) rfl
theorem ent35 : Ent Try.prog 35 := enters_of Try.func35 (by kernel_rfl) rfl
theorem ent36 : Ent Try.prog 36 := enters_of Try.func36 (by kernel_rfl) rfl
theorem ent37 : Ent Try.prog 37 := enters_of Try.func37 (by kernel_rfl) rfl
theorem ent38 : Ent Try.prog 38 := enters_of Try.func38 (by kernel_rfl) rfl
theorem ent39 : Ent Try.prog 39 := enters_of Try.func39 (by kernel_rfl) rfl
theorem ent40 : Ent Try.prog 40 := enters_of Try.func40 (by kernel_rfl) rfl
theorem ent41 : Ent Try.prog 41 := enters_of Try.func41 (by kernel_rfl) rfl
theorem ent42 : Ent Try.prog 42 := enters_of Try.func42 (by kernel_rfl) rfl
theorem ent43 : Ent Try.prog 43 := enters_of Try.func43 (by kernel_rfl) rfl
theorem ent44 : Ent Try.prog 44 := enters_of Try.func44 (by kernel_rfl) rfl
theorem ent45 : Ent Try.prog 45 := enters_of Try.func45 (by kernel_rfl) rfl
theorem ent46 : Ent Try.prog 46 := enters_of Try.func46 (by kernel_rfl) rfl
theorem ent47 : Ent Try.prog 47 := enters_of Try.func47 (by kernel_rfl) rfl
theorem ent48 : Ent Try.prog 48 := enters_of Try.func48 (by kernel_rfl) rfl
theorem ent49 : Ent Try.prog 49 := enters_of Try.func49 (by kernel_rfl) rfl
theorem ent50 : Ent Try.prog 50 := enters_of Try.func50 (by kernel_rfl) rfl
theorem ent51 : Ent Try.prog 51 := enters_of Try.func51 (by kernel_rfl) rfl
theorem ent52 : Ent Try.prog 52 := enters_of Try.func52 (by kernel_rfl) rfl
theorem ent53 : Ent Try.prog 53 := enters_of Try.func53 (by kernel_rfl) rfl
theorem ent54 : Ent Try.prog 54 := enters_of Try.func54 (by kernel_rfl) rfl
theorem ent55 : Ent Try.prog 55 := enters_of Try.func55 (by kernel_rfl) rfl
theorem ent56 : Ent Try.prog 56 := enters_of Try.func56 (by kernel_rfl) rfl
theorem ent57 : Ent Try.prog 57 := enters_of Try.func57 (by kernel_rfl) rfl
theorem ent58 : Ent Try.prog 58 := enters_of Try.func58 (by kernel_rfl) rfl
theorem ent59 : Ent Try.prog 59 := enters_of Try.func59 (by kernel_rfl) rfl
theorem ent60 : Ent Try.prog 60 := enters_of Try.func60 (by kernel_rfl) rfl
theorem ent61 : Ent Try.prog 61 := enters_of Try.func61 (by kernel_rfl) rfl
theorem ent62 : Ent Try.prog 62 := enters_of Try.func62 (by kernel_rfl) rfl
theorem ent63 : Ent Try.prog 63 := enters_of Try.func63 (by kernel_rfl) rfl
theorem ent64 : Ent Try.prog 64 := enters_of Try.func64 (by kernel_rfl) rfl
theorem ent65 : Ent Try.prog 65 := enters_of Try.func65 (by kernel_rfl) rfl
theorem ent66 : Ent Try.prog 66 := enters_of Try.func66 (by kernel_rfl) rfl
theorem ent67 : Ent Try.prog 67 := enters_of Try.func67 (by kernel_rfl) rfl
theorem ent68 : Ent Try.prog 68 := enters_of Try.func68 (by kernel_rfl) rfl
theorem ent69 : Ent Try.prog 69 := enters_of Try.func69 (by kernel_rfl) rfl
theorem ent70 : Ent Try.prog 70 := enters_of Try.func70 (by kernel_rfl) rfl
theorem ent71 : Ent Try.prog 71 := enters_of Try.func71 (by kernel_rfl) rfl
theorem ent72 : Ent Try.prog 72 := enters_of Try.func72 (by kernel_rfl) rfl
theorem ent73 : Ent Try.prog 73 := enters_of Try.func73 (by kernel_rfl) rfl
theorem ent74 : Ent Try.prog 74 := enters_of Try.func74 (by kernel_rfl) rfl
theorem ent75 : Ent Try.prog 75 := enters_of Try.func75 (by kernel_rfl) rfl
theorem ent76 : Ent Try.prog 76 := enters_of Try.func76 (by kernel_rfl) rfl
theorem ent77 : Ent Try.prog 77 := enters_of Try.func77 (by kernel_rfl) rfl
theorem ent78 : Ent Try.prog 78 := enters_of Try.func78 (by kernel_rfl) rfl
theorem ent79 : Ent Try.prog 79 := enters_of Try.func79 (by kernel_rfl) rfl
theorem ent80 : Ent Try.prog 80 := enters_of Try.func80 (by kernel_rfl) rfl
theorem ent81 : Ent Try.prog 81 := enters_of Try.func81 (by kernel_rfl) rfl
theorem ent82 : Ent Try.prog 82 := enters_of Try.func82 (by kernel_rfl) rfl
theorem ent83 : Ent Try.prog 83 := enters_of Try.func83 (by kernel_rfl) rfl
theorem ent84 : Ent Try.prog 84 := enters_of Try.func84 (by kernel_rfl) rfl
theorem ent85 : Ent Try.prog 85 := enters_of Try.func85 (by kernel_rfl) rfl
theorem ent86 : Ent Try.prog 86 := enters_of Try.func86 (by kernel_rfl) rfl
theorem ent87 : Ent Try.prog 87 := enters_of Try.func87 (by kernel_rfl) rfl
theorem ent88 : Ent Try.prog 88 := enters_of Try.func88 (by kernel_rfl) rfl
/-- masterdisc/packetwriter.Valid$1 (function 61) -/
theorem bad61_c (s : List UInt8) (w : World) : CallR Try.prog 61 [.string (B s)] w (fun v w' => v = .bool (badB s) ∧ Ext w w') := by
  refine callR_of (n := 6) [(0, .string (B s))] Try.func61 rfl rfl (Nat.le_of_ble_eq_true rfl) rfl ?_
  refine sc_seq ?_
  refine sc_reg ?_
  refine Go.XK.s (v := .bool false) (e_assign rfl) ?_
  refine sl_nil (nrm_k ?_)
  refine sc_seq ?_
  refine sc_reg ?_
  refine Go.XK.s (v := .string (B s)) (e_move rfl) ?_
  refine Go.XK.s (v := .int .i64 (s.length : Int)) (e_slen Try.underlying9 rfl) ?_
  refine Go.XK.s (v := .bool (decide ((s.length : Int) ≠ 2048))) (e_ne rfl rfl) ?_
  refine Go.XK.s (v := .bool (decide ((s.length : Int) ≠ 2048))) (e_assign rfl) ?_
  refine sl_nil (nrm_k ?_)
  refine sc_retf rfl (ret1 Try.results61 (rvt rfl) ?_)
  exact ⟨rfl, (Ext.rfl' w)⟩

/-- (*masterdisc/packetwriter.Writer).Append$1 (function 64) -/
theorem bad64_c (s : List UInt8) (w : World) : CallR Try.prog 64 [.string (B s)] w (fun v w' => v = .bool (badB s) ∧ Ext w w') := by
  refine callR_of (n := 6) [(0, .string (B s))] Try.func64 rfl rfl (Nat.le_of_ble_eq_true rfl) rfl ?_
  refine sc_seq ?_
  refine sc_reg ?_
  refine Go.XK.s (v := .bool false) (e_assign rfl) ?_
  refine sl_nil (nrm_k ?_)
  refine sc_seq ?_
  refine sc_reg ?_
  refine Go.XK.s (v := .string (B s)) (e_move rfl) ?_
  refine Go.XK.s (v := .int .i64 (s.length : Int)) (e_slen Try.underlying9 rfl) ?_
  refine Go.XK.s (v := .bool (decide ((s.length : Int) ≠ 2048))) (e_ne rfl rfl) ?_
  refine Go.XK.s (v := .bool (decide ((s.length : Int) ≠ 2048))) (e_assign rfl) ?_
  refine sl_nil (nrm_k ?_)
  refine sc_retf rfl (ret1 Try.results64 (rvt rfl) ?_)
  exact ⟨rfl, (Ext.rfl' w)⟩

/-- slices.IndexFunc[[]string,string] (function 79) -/
theorem index_c (F : FuncId) (entF : Ent Try.prog F) (hF : ∀ (s : List UInt8) (w : World), CallR Try.prog F [.string (B s)] w (fun v w' => v = .bool (badB s) ∧ Ext w w')) (xs : List (List UInt8)) (A : Option Addr) (c : Nat) (w : World) (hl : SlR w A c 1 encS xs) : CallR Try.prog 79 [.slice A xs.length c, .func (.func F) #[] #[]] w (fun v w' => v = .int .i64 (idxF xs) ∧ Ext w w') := by
  have hmx0 := hl.lenle
  simp only [maxLen] at hmx0
  refine callR_of (n := 19) [(0, .slice A xs.length c), (1, .func (.func F) #[] #[])] Try.func79 rfl rfl (Nat.le_of_ble_eq_true rfl) rfl ?_
  refine sc_seq ?_
  refine sc_reg ?_
  refine Go.XK.s (v := .int .i64 0) (e_assign rfl) ?_
  refine sl_nil (nrm_k ?_)
  refine sc_seq ?_
  refine sc_seq ?_
  refine sc_reg ?_
  refine Go.XK.s (v := .slice A xs.length c) (e_move rfl) ?_
  refine Go.XK.s (v := .int .i64 (xs.length : Int)) (e_len Try.underlying22 rfl) ?_
  refine Go.XK.s (v := .int .i64 0) (e_move rfl) ?_
  refine sl_nil (nrm_k ?_)
  refine sc_block ?_
  refine sc_loop (fun m_ l_ w_ => ∃ (i : Nat), m_ = xs.length - i ∧ l_ = [(8, .int .i64 (i : Int)), (0, .slice A xs.length c), (1, .func (.func F) #[] #[]), (7, .int .i64 (xs.length : Int))] ∧ Ext w w_ ∧ i ≤ xs.length ∧ (xs.take i).any badB = false) _ [(8, .int .i64 (0 : Int)), (0, .slice A xs.length c), (1, .func (.func F) #[] #[]), (7, .int .i64 (xs.length : Int))] ⟨0, rfl, rfl, (Ext.rfl' w), ⟨by omega, rfl⟩⟩ (.cons rfl (.cons rfl (.cons rfl (.cons rfl (.nil))))) ?_
  rintro j2 _ w1 ⟨i, rfl, rfl, xw_w1, ⟨hi, hno⟩⟩
  refine sc_seq ?_
  refine sc_reg ?_
  refine Go.XK.s (v := .bool (decide ((i : Int) < (xs.length : Int)))) (e_lt rfl rfl) ?_
  refine sl_nil (nrm_k ?_)
  refine sc_seq ?_
  refine sc_ifd rfl (fun c9 => ?_) (fun c9 => ?_)
  ·
    obtain ⟨x, hx⟩ : ∃ x, xs[i]? = some x := ⟨_, List.getElem?_eq_getElem (by omega)⟩
    refine sc_skip (nrm_k ?_)
    refine sc_seq ?_
    refine sc_block ?_
    refine sc_seq ?_
    refine sc_reg ?_
    refine Go.XK.s (v := .int .i64 (i : Int)) (e_move rfl) ?_
    refine Go.XK.s (v := .int .i64 (i : Int)) (e_assign rfl) ?_
    refine sl_nil (nrm_k ?_)
    refine sc_seq ?_
    refine sc_reg ?_
    refine Go.XK.s (v := .func (.func F) #[] #[]) (e_move rfl) ?_
    refine Go.XK.s (v := .slice A xs.length c) (e_move rfl) ?_
    refine Go.XK.s (v := .int .i64 (i : Int)) (e_move rfl) ?_
    refine Go.XK.s (v := .pointer (some (el A 1 (i : Int) 0))) (e_idxEl (e := x) Try.underlying22 Try.sizeOf9 rfl rfl (hl.1.ext xw_w1) hx (by omega) rfl) ?_
    refine Go.XK.s (v := .string (B x)) (e_ldEl (xs := xs) (enc := encS) (e := x) rfl (hl.1.ext xw_w1) hx Try.isAgg9 rfl) ?_
    refine sl_call entF rfl rfl (hF x w1) (by decide) ?_
    rintro _ w3 ⟨rfl, hw3⟩
    have xw_w3 : Ext w w3 := Ext.tr xw_w1 hw3
    refine sl_nil (nrm_k ?_)
    refine sc_if rfl (fun c16 => ?_) (fun c16 => ?_)
    ·
      refine sc_seq ?_
      refine sc_reg ?_
      refine Go.XK.s (v := .int .i64 (i : Int)) (e_move rfl) ?_
      refine Go.XK.s (v := .int .i64 (i : Int)) (e_assign rfl) ?_
      refine sl_nil (nrm_k ?_)
      refine sc_retf rfl (ret1 Try.results79 (rvt rfl) ?_)
      exact ⟨congrArg (Value.int .i64) (idxF_at hx hno c16).symm, xw_w3⟩
    ·
      refine sc_skip (nrm_k ?_)
      refine sc_reg ?_
      refine Go.XK.s (v := .int .i64 ((i : Int) + 1)) (e_add rfl rfl (by omega)) ?_
      refine Go.XK.s (v := .int .i64 ((i : Int) + 1)) (e_move rfl) ?_
      refine sl_nil ?_
      exact nrm_loopq rfl _ _ (by omega) ⟨i + 1, rfl, rfl, xw_w3, ⟨by omega, any_take hx hno c16⟩⟩ (.cons rfl (.cons rfl (.cons rfl (.cons rfl (.nil)))))
  ·
    refine sc_exit rfl (nrm_k ?_)
    refine sc_seq ?_
    refine sc_reg ?_
    refine Go.XK.s (v := .int .i64 (-1)) (e_assign rfl) ?_
    refine sl_nil (nrm_k ?_)
    refine sc_retf rfl (ret1 Try.results79 (rvt rfl) ?_)
    exact ⟨congrArg (Value.int .i64) (idxF_no hno (by omega)).symm, xw_w1⟩

/-- slices.ContainsFunc[[]string,string] (function 60) -/
theorem contains_c (F : FuncId) (entF : Ent Try.prog F) (hF : ∀ (s : List UInt8) (w : World), CallR Try.prog F [.string (B s)] w (fun v w' => v = .bool (badB s) ∧ Ext w w')) (xs : List (List UInt8)) (A : Option Addr) (c : Nat) (w : World) (hl : SlR w A c 1 encS xs) : CallR Try.prog 60 [.slice A xs.length c, .func (.func F) #[] #[]] w (fun v w' => v = .bool (xs.any badB) ∧ Ext w w') := by
  refine callR_of (n := 9) [(0, .slice A xs.length c), (1, .func (.func F) #[] #[])] Try.func60 rfl rfl (Nat.le_of_ble_eq_true rfl) rfl ?_
  refine sc_seq ?_
  refine sc_reg ?_
  refine Go.XK.s (v := .bool false) (e_assign rfl) ?_
  refine sl_nil (nrm_k ?_)
  refine sc_seq ?_
  refine sc_reg ?_
  refine Go.XK.s (v := .slice A xs.length c) (e_move rfl) ?_
  refine Go.XK.s (v := .func (.func F) #[] #[]) (e_move rfl) ?_
  refine sl_call ent79 rfl rfl (index_c F entF hF _ _ _ w (hl.ext (Ext.rfl' w))) (by decide) ?_
  rintro _ w1 ⟨rfl, hw1⟩
  have xw_w1 : Ext w w1 := Ext.tr (Ext.rfl' w) hw1
  refine Go.XK.s (v := .bool (decide ((0 : Int) ≤ idxF xs))) (e_ge rfl rfl) ?_
  refine Go.XK.s (v := .bool (decide ((0 : Int) ≤ idxF xs))) (e_assign rfl) ?_
  refine sl_nil (nrm_k ?_)
  refine sc_retf rfl (ret1 Try.results60 (rvt rfl) ?_)
  exact ⟨congrArg Value.bool (idxF_nonneg xs), xw_w1⟩

/-- masterdisc/masterdiscref52.ValidImage (function 62) -/
theorem vimage_c (im : Img) (A : Option Addr) (c : Nat) (w : World) (hl : SlR w A c 1 encS im) : CallR Try.prog 62 [.slice A im.length c] w (fun v w' => v = .bool (vImage im) ∧ Ext w w') := by
  have hmx0 := hl.lenle
  simp only [maxLen] at hmx0
  refine callR_of (n := 33) [(0, .slice A im.length c)] Try.func62 rfl rfl (Nat.le_of_ble_eq_true rfl) rfl ?_
  refine sc_seq ?_
  refine sc_reg ?_
  refine Go.XK.s (v := .bool false) (e_assign rfl) ?_
  refine sl_nil (nrm_k ?_)
  refine sc_seq ?_
  refine sc_seq ?_
  refine sc_reg ?_
  refine Go.XK.s (v := .int .i64 0) (e_assign rfl) ?_
  refine sl_nil (nrm_k ?_)
  refine sc_block ?_
  refine sc_loop (fun m_ l_ w_ => ∃ (i : Nat), m_ = im.length - i ∧ l_ = [(3, .int .i64 (i : Int)), (0, .slice A im.length c)] ∧ Ext w w_ ∧ i ≤ im.length ∧ (im.take i).all okE = true) _ [(3, .int .i64 (0 : Int)), (0, .slice A im.length c)] ⟨0, rfl, rfl, (Ext.rfl' w), ⟨by omega, rfl⟩⟩ (.cons rfl (.cons rfl (.nil))) ?_
  rintro j2 _ w1 ⟨i, rfl, rfl, xw_w1, ⟨hi, hall⟩⟩
  refine sc_seq ?_
  refine sc_seq ?_
  refine sc_reg ?_
  refine Go.XK.s (v := .int .i64 (i : Int)) (e_move rfl) ?_
  refine Go.XK.s (v := .slice A im.length c) (e_move rfl) ?_
  refine Go.XK.s (v := .int .i64 (im.length : Int)) (e_len Try.underlying23 rfl) ?_
  refine Go.XK.s (v := .bool (decide ((i : Int) < (im.length : Int)))) (e_lt rfl rfl) ?_
  refine sl_nil (nrm_k ?_)
  refine sc_ifd rfl (fun c7 => ?_) (fun c7 => ?_)
  ·
    obtain ⟨x, hx⟩ : ∃ x, im[i]? = some x := ⟨_, List.getElem?_eq_getElem (by omega)⟩
    refine sc_skip (nrm_k ?_)
    refine sc_seq ?_
    refine sc_block ?_
    refine sc_seq ?_
    refine sc_reg ?_
    refine Go.XK.s (v := .slice A im.length c) (e_move rfl) ?_
    refine Go.XK.s (v := .int .i64 (i : Int)) (e_move rfl) ?_
    refine Go.XK.s (v := .pointer (some (el A 1 (i : Int) 0))) (e_idxEl (e := x) Try.underlying23 Try.sizeOf9 rfl rfl (hl.1.ext xw_w1) hx (by omega) rfl) ?_
    refine Go.XK.s (v := .string (B x)) (e_ldEl (xs := im) (enc := encS) (e := x) rfl (hl.1.ext xw_w1) hx Try.isAgg9 rfl) ?_
    refine Go.XK.s (v := .bool (decide (x ≠ []))) (e_sne rfl rfl) ?_
    refine Go.XK.s (v := .bool (decide (x ≠ []))) (e_move rfl) ?_
    refine sl_merge 6 21 (.bool ((decide (x ≠ [])) && (decide (x ≠ [33])))) ?_ ?_
    · refine sl_case (t := 15) rfl (fun g4_5 => ?_) (fun g4_5 => ?_)
      ·
        refine sl_gev (v := .slice A im.length c) rfl rfl g4_5 (e_move rfl) rfl (by decide) ?_
        refine sl_gev (v := .int .i64 (i : Int)) rfl rfl g4_5 (e_move rfl) rfl (by decide) ?_
        refine sl_gev (v := .pointer (some (el A 1 (i : Int) 0))) rfl rfl g4_5 (e_idxEl (e := x) Try.underlying23 Try.sizeOf9 rfl rfl (hl.1.ext xw_w1) hx (by omega) rfl) rfl (by decide) ?_
        refine sl_gev (v := .string (B x)) rfl rfl g4_5 (e_ldEl (xs := im) (enc := encS) (e := x) rfl (hl.1.ext xw_w1) hx Try.isAgg9 rfl) rfl (by decide) ?_
        refine sl_gev (v := .bool (decide (x ≠ [33]))) rfl rfl g4_5 (e_sne rfl rfl) rfl (by decide) ?_
        refine Go.XK.s (v := .bool (decide (x ≠ [33]))) (e_pickT rfl g4_5 rfl) ?_
        exact sl_nil (fun a ha => ⟨rfl, ha.sub (.cons (by rw [g4_5]; rfl) (sub_self_cons (sub_self_cons (sub_self_cons (sub_self_cons (sub_self_cons (sub_self_cons (Sub.refl _) rfl) rfl) rfl) rfl) rfl) rfl))⟩)
      ·
        refine sl_gskip rfl rfl g4_5 (by decide) ?_
        refine sl_gskip rfl rfl g4_5 (by decide) ?_
        refine sl_gskip rfl rfl g4_5 (by decide) ?_
        refine sl_gskip rfl rfl g4_5 (by decide) ?_
        refine sl_gskip rfl rfl g4_5 (by decide) ?_
        refine Go.XK.s (v := .bool false) (e_pickF rfl g4_5 rfl) ?_
        exact sl_nil (fun a ha => ⟨rfl, ha.sub (.cons (by rw [g4_5]; rfl) (sub_self_cons (sub_self_cons (sub_self_cons (sub_self_cons (sub_self_cons (sub_self_cons (Sub.refl _) rfl) rfl) rfl) rfl) rfl) rfl))⟩)
    refine Go.XK.s (v := .bool ((decide (x ≠ [])) && (decide (x ≠ [33])))) (e_move rfl) ?_
    refine sl_merge 7 29 (.bool (((decide (x ≠ [])) && (decide (x ≠ [33]))) && (decide ((x.length : Int) ≠ 2048)))) ?_ ?_
    · refine sl_case (t := 22) rfl (fun g4_12 => ?_) (fun g4_12 => ?_)
      ·
        refine sl_gev (v := .slice A im.length c) rfl rfl g4_12 (e_move rfl) rfl (by decide) ?_
        refine sl_gev (v := .int .i64 (i : Int)) rfl rfl g4_12 (e_move rfl) rfl (by decide) ?_
        refine sl_gev (v := .pointer (some (el A 1 (i : Int) 0))) rfl rfl g4_12 (e_idxEl (e := x) Try.underlying23 Try.sizeOf9 rfl rfl (hl.1.ext xw_w1) hx (by omega) rfl) rfl (by decide) ?_
        refine sl_gev (v := .string (B x)) rfl rfl g4_12 (e_ldEl (xs := im) (enc := encS) (e := x) rfl (hl.1.ext xw_w1) hx Try.isAgg9 rfl) rfl (by decide) ?_
        refine sl_gev (v := .int .i64 (x.length : Int)) rfl rfl g4_12 (e_slen Try.underlying9 rfl) rfl (by decide) ?_
        refine sl_gev (v := .bool (decide ((x.length : Int) ≠ 2048))) rfl rfl g4_12 (e_ne rfl rfl) rfl (by decide) ?_
        refine Go.XK.s (v := .bool (decide ((x.length : Int) ≠ 2048))) (e_pickT rfl g4_12 rfl) ?_
        exact sl_nil (fun a ha => ⟨rfl, ha.sub (.cons (by rw [g4_12]; rfl) (sub_self_cons (sub_self_cons (sub_self_cons (sub_self_cons (sub_self_cons (sub_self_cons (sub_self_cons (Sub.refl _) rfl) rfl) rfl) rfl) rfl) rfl) rfl))⟩)
      ·
        refine sl_gskip rfl rfl g4_12 (by decide) ?_
        refine sl_gskip rfl rfl g4_12 (by decide) ?_
        refine sl_gskip rfl rfl g4_12 (by decide) ?_
        refine sl_gskip rfl rfl g4_12 (by decide) ?_
        refine sl_gskip rfl rfl g4_12 (by decide) ?_
        refine sl_gskip rfl rfl g4_12 (by decide) ?_
        refine Go.XK.s (v := .bool false) (e_pickF rfl g4_12 rfl) ?_
        exact sl_nil (fun a ha => ⟨rfl, ha.sub (.cons (by rw [g4_12]; rfl) (sub_self_cons (sub_self_cons (sub_self_cons (sub_self_cons (sub_self_cons (sub_self_cons (sub_self_cons (Sub.refl _) rfl) rfl) rfl) rfl) rfl) rfl) rfl))⟩)
    refine sl_nil (nrm_k ?_)
    refine sc_if rfl (fun c29 => ?_) (fun c29 => ?_)
    ·
      refine sc_seq ?_
      refine sc_reg ?_
      refine Go.XK.s (v := .bool false) (e_assign rfl) ?_
      refine sl_nil (nrm_k ?_)
      refine sc_retf rfl (ret1 Try.results62 (rvt rfl) ?_)
      exact ⟨congrArg Value.bool (by rw [vImage, all_no hx (okE_no c29)]; rfl), xw_w1⟩
    ·
      refine sc_skip (nrm_k ?_)
      refine sc_reg ?_
      refine Go.XK.s (v := .int .i64 (i : Int)) (e_move rfl) ?_
      refine Go.XK.s (v := .int .i64 ((i : Int) + 1)) (e_add rfl rfl (by omega)) ?_
      refine Go.XK.s (v := .int .i64 ((i : Int) + 1)) (e_assign rfl) ?_
      refine sl_nil ?_
      exact nrm_loopq rfl _ _ (by omega) ⟨i + 1, rfl, rfl, xw_w1, ⟨by omega, all_take hx hall (okE_yes c29)⟩⟩ (.cons rfl (.cons rfl (.nil)))
  ·
    refine sc_exit rfl (nrm_k ?_)
    refine sc_seq ?_
    refine sc_reg ?_
    refine Go.XK.s (v := .slice A im.length c) (e_move rfl) ?_
    refine Go.XK.s (v := .int .i64 (im.length : Int)) (e_len Try.underlying23 rfl) ?_
    refine Go.XK.s (v := .bool (decide ((im.length : Int) ≤ 4096))) (e_le rfl rfl) ?_
    refine Go.XK.s (v := .bool (decide ((im.length : Int) ≤ 4096))) (e_assign rfl) ?_
    refine sl_nil (nrm_k ?_)
    refine sc_retf rfl (ret1 Try.results62 (rvt rfl) ?_)
    exact ⟨congrArg Value.bool (by rw [vImage, all_end hall (by omega)]; rfl), xw_w1⟩

/-- masterdisc/masterdiscref52.SameImage (function 22) -/
theorem same_c (a b : List (List UInt8)) (A A2 : Option Addr) (c d : Nat) (w : World) (hla : SlR w A c 1 encS a) (hlb : SlR w A2 d 1 encS b) : CallR Try.prog 22 [.slice A a.length c, .slice A2 b.length d] w (fun v w' => v = .bool (decide (a = b)) ∧ Ext w w') := by
  have hmx0 := hla.lenle
  simp only [maxLen] at hmx0
  have hmx1 := hlb.lenle
  simp only [maxLen] at hmx1
  refine callR_of (n := 26) [(0, .slice A a.length c), (1, .slice A2 b.length d)] Try.func22 rfl rfl (Nat.le_of_ble_eq_true rfl) rfl ?_
  refine sc_seq ?_
  refine sc_reg ?_
  refine Go.XK.s (v := .bool false) (e_assign rfl) ?_
  refine sl_nil (nrm_k ?_)
  refine sc_seq ?_
  refine sc_seq ?_
  refine sc_reg ?_
  refine Go.XK.s (v := .slice A a.length c) (e_move rfl) ?_
  refine Go.XK.s (v := .int .i64 (a.length : Int)) (e_len Try.underlying23 rfl) ?_
  refine Go.XK.s (v := .slice A2 b.length d) (e_move rfl) ?_
  refine Go.XK.s (v := .int .i64 (b.length : Int)) (e_len Try.underlying23 rfl) ?_
  refine Go.XK.s (v := .bool (decide ((a.length : Int) ≠ (b.length : Int)))) (e_ne rfl rfl) ?_
  refine sl_nil (nrm_k ?_)
  refine sc_ifd rfl (fun c10 => ?_) (fun c10 => ?_)
  ·
    refine sc_seq ?_
    refine sc_reg ?_
    refine Go.XK.s (v := .bool false) (e_assign rfl) ?_
    refine sl_nil (nrm_k ?_)
    refine sc_retf rfl (ret1 Try.results22 (rvt rfl) ?_)
    exact ⟨congrArg Value.bool (decide_eq_false (fun e => by subst e; exact c10 rfl)).symm, (Ext.rfl' w)⟩
  ·
    have hl : a.length = b.length := by omega
    refine sc_skip (nrm_k ?_)
    refine sc_seq ?_
    refine sc_seq ?_
    refine sc_reg ?_
    refine Go.XK.s (v := .int .i64 0) (e_assign rfl) ?_
    refine sl_nil (nrm_k ?_)
    refine sc_block ?_
    refine sc_loop (fun m_ l_ w_ => ∃ (i : Nat), m_ = a.length - i ∧ l_ = [(5, .int .i64 (i : Int)), (0, .slice A a.length c), (1, .slice A2 b.length d)] ∧ Ext w w_ ∧ i ≤ a.length ∧ a.take i = b.take i) _ [(5, .int .i64 (0 : Int)), (0, .slice A a.length c), (1, .slice A2 b.length d)] ⟨0, rfl, rfl, (Ext.rfl' w), ⟨by omega, rfl⟩⟩ (.cons rfl (.cons rfl (.cons rfl (.nil)))) ?_
    rintro j2 _ w1 ⟨i, rfl, rfl, xw_w1, ⟨hi, hs⟩⟩
    refine sc_seq ?_
    refine sc_seq ?_
    refine sc_reg ?_
    refine Go.XK.s (v := .int .i64 (i : Int)) (e_move rfl) ?_
    refine Go.XK.s (v := .slice A a.length c) (e_move rfl) ?_
    refine Go.XK.s (v := .int .i64 (a.length : Int)) (e_len Try.underlying23 rfl) ?_
    refine Go.XK.s (v := .bool (decide ((i : Int) < (a.length : Int)))) (e_lt rfl rfl) ?_
    refine sl_nil (nrm_k ?_)
    refine sc_ifd rfl (fun c14 => ?_) (fun c14 => ?_)
    ·
      obtain ⟨x, hx⟩ : ∃ x, a[i]? = some x := ⟨_, List.getElem?_eq_getElem (by omega)⟩
      obtain ⟨y, hy⟩ : ∃ y, b[i]? = some y := ⟨_, List.getElem?_eq_getElem (by omega)⟩
      refine sc_skip (nrm_k ?_)
      refine sc_seq ?_
      refine sc_block ?_
      refine sc_seq ?_
      refine sc_free [(14, .bool (decide ((i : Int) < (a.length : Int)))), (13, .int .i64 (a.length : Int)), (12, .slice A a.length c), (11, .int .i64 (i : Int)), (5, .int .i64 (i : Int)), (0, .slice A a.length c), (1, .slice A2 b.length d)] [17, 18, 19, 20, 21, 22, 23, 24, 25] [(Is (.slice A a.length c)), (Is (.int .i64 (i : Int))), (Is (.pointer (some (el A 1 (i : Int) 0)))), (Is (.string (B x))), (Is (.slice A2 b.length d)), (Is (.int .i64 (i : Int))), (Is (.pointer (some (el A2 1 (i : Int) 0)))), (Is (.string (B y))), (Is (.bool (decide (x ≠ y))))] [] (by kernel_rfl) (Sub.refl _) (by kernel_rfl) (by kernel_rfl) (by kernel_rfl) rfl (by kernel_rfl) (ds_ext (Stays.spec (.is _ (.is _ (.is _ (.is _ (.is _ (.is _ (.is _ (.is _ (.is _ (.nil)))))))))))) ⟨?_, ?_, ?_, ?_, ?_, ?_, ?_, ?_, ?_, trivial⟩ ?_
      · intro Q act_ wI hxI ha hp
        have xw_wI : Ext w wI := Ext.tr xw_w1 hxI
        exact h_evA (v := .slice A a.length c) ha rfl (e_move rfl) rfl rfl (Ext.rfl' _)
      · intro Q act_ wI hxI ha hp
        have xw_wI : Ext w wI := Ext.tr xw_w1 hxI
        exact h_evA (v := .int .i64 (i : Int)) ha rfl (e_move rfl) rfl rfl (Ext.rfl' _)
      · intro Q act_ wI hxI ha hp
        have xw_wI : Ext w wI := Ext.tr xw_w1 hxI
        have ha := ha.add (show act_.tmps.getD 17 undef = .slice A a.length c from hp 0 (by kernel_rfl) (by decide))
        have ha := ha.add (show act_.tmps.getD 18 undef = .int .i64 (i : Int) from hp 1 (by kernel_rfl) (by decide))
        exact h_evA (v := .pointer (some (el A 1 (i : Int) 0))) ha rfl (e_idxEl (e := x) Try.underlying23 Try.sizeOf9 rfl rfl (hla.1.ext xw_wI) hx (by omega) rfl) rfl rfl (Ext.rfl' _)
      · intro Q act_ wI hxI ha hp
        have xw_wI : Ext w wI := Ext.tr xw_w1 hxI
        have ha := ha.add (show act_.tmps.getD 19 undef = .pointer (some (el A 1 (i : Int) 0)) from hp 2 (by kernel_rfl) (by decide))
        exact h_evA (v := .string (B x)) ha rfl (e_ldEl (xs := a) (enc := encS) (e := x) rfl (hla.1.ext xw_wI) hx Try.isAgg9 rfl) rfl rfl (Ext.rfl' _)
      · intro Q act_ wI hxI ha hp
        have xw_wI : Ext w wI := Ext.tr xw_w1 hxI
        exact h_evA (v := .slice A2 b.length d) ha rfl (e_move rfl) rfl rfl (Ext.rfl' _)
      · intro Q act_ wI hxI ha hp
        have xw_wI : Ext w wI := Ext.tr xw_w1 hxI
        exact h_evA (v := .int .i64 (i : Int)) ha rfl (e_move rfl) rfl rfl (Ext.rfl' _)
      · intro Q act_ wI hxI ha hp
        have xw_wI : Ext w wI := Ext.tr xw_w1 hxI
        have ha := ha.add (show act_.tmps.getD 21 undef = .slice A2 b.length d from hp 4 (by kernel_rfl) (by decide))
        have ha := ha.add (show act_.tmps.getD 22 undef = .int .i64 (i : Int) from hp 5 (by kernel_rfl) (by decide))
        exact h_evA (v := .pointer (some (el A2 1 (i : Int) 0))) ha rfl (e_idxEl (e := y) Try.underlying23 Try.sizeOf9 rfl rfl (hlb.1.ext xw_wI) hy (by omega) rfl) rfl rfl (Ext.rfl' _)
      · intro Q act_ wI hxI ha hp
        have xw_wI : Ext w wI := Ext.tr xw_w1 hxI
        have ha := ha.add (show act_.tmps.getD 23 undef = .pointer (some (el A2 1 (i : Int) 0)) from hp 6 (by kernel_rfl) (by decide))
        exact h_evA (v := .string (B y)) ha rfl (e_ldEl (xs := b) (enc := encS) (e := y) rfl (hlb.1.ext xw_wI) hy Try.isAgg9 rfl) rfl rfl (Ext.rfl' _)
      · intro Q act_ wI hxI ha hp
        have xw_wI : Ext w wI := Ext.tr xw_w1 hxI
        have ha := ha.add (show act_.tmps.getD 20 undef = .string (B x) from hp 3 (by kernel_rfl) (by decide))
        have ha := ha.add (show act_.tmps.getD 24 undef = .string (B y) from hp 7 (by kernel_rfl) (by decide))
        exact h_evA (v := .bool (decide (x ≠ y))) ha rfl (e_sne rfl rfl) rfl rfl (Ext.rfl' _)
      intro vs_ w3 hx_w3 hvs act_ ha hv
      have xw_w3 : Ext w w3 := Ext.tr xw_w1 hx_w3
      have ha := ha.add ((hv 8 (by decide)).trans (show vs_ 8 = .bool (decide (x ≠ y)) from hvs 8 (by decide)))
      refine st_go ha ?_
      clear ha hv hvs
      refine st_nil (nrm_k ?_)
      refine sc_ifd rfl (fun c25 => ?_) (fun c25 => ?_)
      ·
        refine sc_seq ?_
        refine sc_reg ?_
        refine Go.XK.s (v := .bool false) (e_assign rfl) ?_
        refine sl_nil (nrm_k ?_)
        refine sc_retf rfl (ret1 Try.results22 (rvt rfl) ?_)
        exact ⟨congrArg Value.bool (decide_eq_false (same_no hx hy c25)).symm, xw_w3⟩
      ·
        refine sc_skip (nrm_k ?_)
        refine sc_reg ?_
        refine Go.XK.s (v := .int .i64 (i : Int)) (e_move rfl) ?_
        refine Go.XK.s (v := .int .i64 ((i : Int) + 1)) (e_add rfl rfl (by omega)) ?_
        refine Go.XK.s (v := .int .i64 ((i : Int) + 1)) (e_assign rfl) ?_
        refine sl_nil ?_
        exact nrm_loopq rfl _ _ (by omega) ⟨i + 1, rfl, rfl, xw_w3, ⟨by omega, same_take hx (by rw [hy, Classical.not_not.1 c25]) hs⟩⟩ (.cons rfl (.cons rfl (.cons rfl (.nil))))
    ·
      refine sc_exit rfl (nrm_k ?_)
      refine sc_seq ?_
      refine sc_reg ?_
      refine Go.XK.s (v := .bool true) (e_assign rfl) ?_
      refine sl_nil (nrm_k ?_)
      refine sc_retf rfl (ret1 Try.results22 (rvt rfl) ?_)
      exact ⟨congrArg Value.bool (decide_eq_true (same_end hs hl (by omega))).symm, xw_w1⟩

/-- slices.Equal[masterdisc/api.Image,string] (function 30) -/
theorem equal_c (a b : List (List UInt8)) (A A2 : Option Addr) (c d : Nat) (w : World) (hla : SlR w A c 1 encS a) (hlb : SlR w A2 d 1 encS b) : CallR Try.prog 30 [.slice A a.length c, .slice A2 b.length d] w (fun v w' => v = .bool (decide (a = b)) ∧ Ext w w') := by
  have hmx0 := hla.lenle
  simp only [maxLen] at hmx0
  have hmx1 := hlb.lenle
  simp only [maxLen] at hmx1
  refine callR_of (n := 26) [(0, .slice A a.length c), (1, .slice A2 b.length d)] Try.func30 rfl rfl (Nat.le_of_ble_eq_true rfl) rfl ?_
  refine sc_seq ?_
  refine sc_reg ?_
  refine Go.XK.s (v := .bool false) (e_assign rfl) ?_
  refine sl_nil (nrm_k ?_)
  refine sc_seq ?_
  refine sc_seq ?_
  refine sc_reg ?_
  refine Go.XK.s (v := .slice A a.length c) (e_move rfl) ?_
  refine Go.XK.s (v := .int .i64 (a.length : Int)) (e_len Try.underlying23 rfl) ?_
  refine Go.XK.s (v := .slice A2 b.length d) (e_move rfl) ?_
  refine Go.XK.s (v := .int .i64 (b.length : Int)) (e_len Try.underlying23 rfl) ?_
  refine Go.XK.s (v := .bool (decide ((a.length : Int) ≠ (b.length : Int)))) (e_ne rfl rfl) ?_
  refine sl_nil (nrm_k ?_)
  refine sc_ifd rfl (fun c10 => ?_) (fun c10 => ?_)
  ·
    refine sc_seq ?_
    refine sc_reg ?_
    refine Go.XK.s (v := .bool false) (e_assign rfl) ?_
    refine sl_nil (nrm_k ?_)
    refine sc_retf rfl (ret1 Try.results30 (rvt rfl) ?_)
    exact ⟨congrArg Value.bool (decide_eq_false (fun e => by subst e; exact c10 rfl)).symm, (Ext.rfl' w)⟩
  ·
    have hl : a.length = b.length := by omega
    refine sc_skip (nrm_k ?_)
    refine sc_seq ?_
    refine sc_seq ?_
    refine sc_reg ?_
    refine Go.XK.s (v := .slice A a.length c) (e_move rfl) ?_
    refine Go.XK.s (v := .int .i64 (a.length : Int)) (e_len Try.underlying23 rfl) ?_
    refine Go.XK.s (v := .int .i64 0) (e_move rfl) ?_
    refine sl_nil (nrm_k ?_)
    refine sc_block ?_
    refine sc_loop (fun m_ l_ w_ => ∃ (i : Nat), m_ = a.length - i ∧ l_ = [(13, .int .i64 (i : Int)), (0, .slice A a.length c), (1, .slice A2 b.length d), (12, .int .i64 (a.length : Int))] ∧ Ext w w_ ∧ i ≤ a.length ∧ a.take i = b.take i) _ [(13, .int .i64 (0 : Int)), (0, .slice A a.length c), (1, .slice A2 b.length d), (12, .int .i64 (a.length : Int))] ⟨0, rfl, rfl, (Ext.rfl' w), ⟨by omega, rfl⟩⟩ (.cons rfl (.cons rfl (.cons rfl (.cons rfl (.nil))))) ?_
    rintro j2 _ w1 ⟨i, rfl, rfl, xw_w1, ⟨hi, hs⟩⟩
    refine sc_seq ?_
    refine sc_reg ?_
    refine Go.XK.s (v := .bool (decide ((i : Int) < (a.length : Int)))) (e_lt rfl rfl) ?_
    refine sl_nil (nrm_k ?_)
    refine sc_seq ?_
    refine sc_ifd rfl (fun c14 => ?_) (fun c14 => ?_)
    ·
      obtain ⟨x, hx⟩ : ∃ x, a[i]? = some x := ⟨_, List.getElem?_eq_getElem (by omega)⟩
      obtain ⟨y, hy⟩ : ∃ y, b[i]? = some y := ⟨_, List.getElem?_eq_getElem (by omega)⟩
      refine sc_skip (nrm_k ?_)
      refine sc_seq ?_
      refine sc_block ?_
      refine sc_seq ?_
      refine sc_reg ?_
      refine Go.XK.s (v := .int .i64 (i : Int)) (e_move rfl) ?_
      refine Go.XK.s (v := .int .i64 (i : Int)) (e_assign rfl) ?_
      refine sl_nil (nrm_k ?_)
      refine sc_seq ?_
      refine sc_free [(5, .int .i64 (i : Int)), (15, .int .i64 (i : Int)), (14, .bool (decide ((i : Int) < (a.length : Int)))), (13, .int .i64 (i : Int)), (0, .slice A a.length c), (1, .slice A2 b.length d), (12, .int .i64 (a.length : Int))] [16, 17, 18, 19, 20, 21, 22, 23, 24] [(Is (.slice A a.length c)), (Is (.int .i64 (i : Int))), (Is (.pointer (some (el A 1 (i : Int) 0)))), (Is (.string (B x))), (Is (.slice A2 b.length d)), (Is (.int .i64 (i : Int))), (Is (.pointer (some (el A2 1 (i : Int) 0)))), (Is (.string (B y))), (Is (.bool (decide (x ≠ y))))] [] (by kernel_rfl) (Sub.refl _) (by kernel_rfl) (by kernel_rfl) (by kernel_rfl) rfl (by kernel_rfl) (ds_ext (Stays.spec (.is _ (.is _ (.is _ (.is _ (.is _ (.is _ (.is _ (.is _ (.is _ (.nil)))))))))))) ⟨?_, ?_, ?_, ?_, ?_, ?_, ?_, ?_, ?_, trivial⟩ ?_
      · intro Q act_ wI hxI ha hp
        have xw_wI : Ext w wI := Ext.tr xw_w1 hxI
        exact h_evA (v := .slice A a.length c) ha rfl (e_move rfl) rfl rfl (Ext.rfl' _)
      · intro Q act_ wI hxI ha hp
        have xw_wI : Ext w wI := Ext.tr xw_w1 hxI
        exact h_evA (v := .int .i64 (i : Int)) ha rfl (e_move rfl) rfl rfl (Ext.rfl' _)
      · intro Q act_ wI hxI ha hp
        have xw_wI : Ext w wI := Ext.tr xw_w1 hxI
        have ha := ha.add (show act_.tmps.getD 16 undef = .slice A a.length c from hp 0 (by kernel_rfl) (by decide))
        have ha := ha.add (show act_.tmps.getD 17 undef = .int .i64 (i : Int) from hp 1 (by kernel_rfl) (by decide))
        exact h_evA (v := .pointer (some (el A 1 (i : Int) 0))) ha rfl (e_idxEl (e := x) Try.underlying23 Try.sizeOf9 rfl rfl (hla.1.ext xw_wI) hx (by omega) rfl) rfl rfl (Ext.rfl' _)
      · intro Q act_ wI hxI ha hp
        have xw_wI : Ext w wI := Ext.tr xw_w1 hxI
        have ha := ha.add (show act_.tmps.getD 18 undef = .pointer (some (el A 1 (i : Int) 0)) from hp 2 (by kernel_rfl) (by decide))
        exact h_evA (v := .string (B x)) ha rfl (e_ldEl (xs := a) (enc := encS) (e := x) rfl (hla.1.ext xw_wI) hx Try.isAgg9 rfl) rfl rfl (Ext.rfl' _)
      · intro Q act_ wI hxI ha hp
        have xw_wI : Ext w wI := Ext.tr xw_w1 hxI
        exact h_evA (v := .slice A2 b.length d) ha rfl (e_move rfl) rfl rfl (Ext.rfl' _)
      · intro Q act_ wI hxI ha hp
        have xw_wI : Ext w wI := Ext.tr xw_w1 hxI
        exact h_evA (v := .int .i64 (i : Int)) ha rfl (e_move rfl) rfl rfl (Ext.rfl' _)
      · intro Q act_ wI hxI ha hp
        have xw_wI : Ext w wI := Ext.tr xw_w1 hxI
        have ha := ha.add (show act_.tmps.getD 20 undef = .slice A2 b.length d from hp 4 (by kernel_rfl) (by decide))
        have ha := ha.add (show act_.tmps.getD 21 undef = .int .i64 (i : Int) from hp 5 (by kernel_rfl) (by decide))
        exact h_evA (v := .pointer (some (el A2 1 (i : Int) 0))) ha rfl (e_idxEl (e := y) Try.underlying23 Try.sizeOf9 rfl rfl (hlb.1.ext xw_wI) hy (by omega) rfl) rfl rfl (Ext.rfl' _)
      · intro Q act_ wI hxI ha hp
        have xw_wI : Ext w wI := Ext.tr xw_w1 hxI
        have ha := ha.add (show act_.tmps.getD 22 undef = .pointer (some (el A2 1 (i : Int) 0)) from hp 6 (by kernel_rfl) (by decide))
        exact h_evA (v := .string (B y)) ha rfl (e_ldEl (xs := b) (enc := encS) (e := y) rfl (hlb.1.ext xw_wI) hy Try.isAgg9 rfl) rfl rfl (Ext.rfl' _)
      · intro Q act_ wI hxI ha hp
        have xw_wI : Ext w wI := Ext.tr xw_w1 hxI
        have ha := ha.add (show act_.tmps.getD 19 undef = .string (B x) from hp 3 (by kernel_rfl) (by decide))
        have ha := ha.add (show act_.tmps.getD 23 undef = .string (B y) from hp 7 (by kernel_rfl) (by decide))
        exact h_evA (v := .bool (decide (x ≠ y))) ha rfl (e_sne rfl rfl) rfl rfl (Ext.rfl' _)
      intro vs_ w3 hx_w3 hvs act_ ha hv
      have xw_w3 : Ext w w3 := Ext.tr xw_w1 hx_w3
      have ha := ha.add ((hv 8 (by decide)).trans (show vs_ 8 = .bool (decide (x ≠ y)) from hvs 8 (by decide)))
      refine st_go ha ?_
      clear ha hv hvs
      refine st_nil (nrm_k ?_)
      refine sc_ifd rfl (fun c24 => ?_) (fun c24 => ?_)
      ·
        refine sc_seq ?_
        refine sc_reg ?_
        refine Go.XK.s (v := .bool false) (e_assign rfl) ?_
        refine sl_nil (nrm_k ?_)
        refine sc_retf rfl (ret1 Try.results30 (rvt rfl) ?_)
        exact ⟨congrArg Value.bool (decide_eq_false (same_no hx hy c24)).symm, xw_w3⟩
      ·
        refine sc_skip (nrm_k ?_)
        refine sc_reg ?_
        refine Go.XK.s (v := .int .i64 ((i : Int) + 1)) (e_add rfl rfl (by omega)) ?_
        refine Go.XK.s (v := .int .i64 ((i : Int) + 1)) (e_move rfl) ?_
        refine sl_nil ?_
        exact nrm_loopq rfl _ _ (by omega) ⟨i + 1, rfl, rfl, xw_w3, ⟨by omega, same_take hx (by rw [hy, Classical.not_not.1 c24]) hs⟩⟩ (.cons rfl (.cons rfl (.cons rfl (.cons rfl (.nil)))))
    ·
      refine sc_exit rfl (nrm_k ?_)
      refine sc_seq ?_
      refine sc_reg ?_
      refine Go.XK.s (v := .bool true) (e_assign rfl) ?_
      refine sl_nil (nrm_k ?_)
      refine sc_retf rfl (ret1 Try.results30 (rvt rfl) ?_)
      exact ⟨congrArg Value.bool (decide_eq_true (same_end hs hl (by omega))).symm, xw_w1⟩

end Go.Proofs.Ytfcjianiodiejaa
