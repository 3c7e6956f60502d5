/- Chapter 52: C10. Printed by my program wip/tools/wk.py. -/
import Derived.Test.YtfcjianiodiejaaMath4
import Derived.Test.YtfcjianiodiejaaXKn
set_option linter.unusedVariables false
set_option linter.unusedSimpArgs false
set_option maxRecDepth 4000
set_option maxHeartbeats 4000000
namespace Go.Proofs.Ytfcjianiodiejaa
open Go.XK Go.RowKit
theorem callB {P : Program} {f : FuncId} {args : List Value} {w : World} {b b' : Bool} (h : b = b') (hc : CallR P f args w (fun v w' => v = .bool b ∧ Ext w w')) : CallR P f args w (fun v w' => v = .bool b' ∧ Ext w w') := h ▸ hc
theorem callI {P : Program} {f : FuncId} {args : List Value} {w : World} {b b' : Int} (h : b = b') (hc : CallR P f args w (fun v w' => v = .int .i64 b ∧ Ext w w')) : CallR P f args w (fun v w' => v = .int .i64 b' ∧ Ext w w') := h ▸ hc
theorem block_d {S : List UInt8} (c : UInt8) (w : World) (hc : c.toNat < 128) (hS : S = blk1 c) : CallR Try.prog 24 [.int .u8 (c.toNat : Int)] w (fun v w' => v = .string (B S) ∧ Ext w w') := hS ▸ block_c c w hc
theorem new_d (start next : Int) (w : World) (h1 : -9223372036854775808 ≤ start ∧ start ≤ 9223372036854775807) (h2 : next ≤ 9223372036854775807) (base : Int) (hE : newE start next = 0) (hB : newB start next = base) : CallR Try.prog 23 [.int .i64 start, .int .i64 next] w (fun v w' => ∃ b : Nat, v = .tuple #[.pointer (some ⟨b, 0, none⟩), .int .i64 0] ∧ Blk w' b 109 [.int .i64 start, .int .i64 base, .slice none 0 0] ∧ w.heap.size ≤ b ∧ Ext w w') := by
  subst hB
  refine CallR.mono (new_c start next w h1 h2) ?_
  rintro v w' ⟨v1, rfl, h3, _, h5⟩
  obtain ⟨b, rfl, h6, h7⟩ := h3 hE
  exact ⟨b, by rw [hE], h6, h7, h5⟩
theorem append_d (w0 : World) (b : Nat) (lv : Value) (start base : Int) (ps : List Pn) (bs : List (List UInt8)) (A : Option Addr) (c : Nat) (w : World) (hb0 : w0.heap.size ≤ b) (hx0 : Ext w0 w) (hbw : Blk w b 109 [.int .i64 start, .int .i64 base, lv]) (hop : Go.XK.Own w w0.heap.size 114 2 encP lv ps) (hwf : Wf start base ps) (hl : SlR w A c 1 encS bs) (hne : bs = [] ∨ ∀ ad, A = some ad → ad.block ≠ b ∧ lv.ownBlock ≠ some ad.block) (hbl : bs.length ≤ 1000000) {e : Int} {l : List Int} {ps' : List Pn} (hap : apR bs start base ps = (e, l, ps')) :
    CallR Try.prog 25 [.pointer (some ⟨b, 0, none⟩), .slice A bs.length c] w (fun v w' => ∃ v1 lv', v = .tuple #[v1, .int .i64 e] ∧ Go.XK.Own w' w.heap.size 3 1 encI v1 l ∧ Blk w' b 109 [.int .i64 start, .int .i64 base, lv'] ∧ Go.XK.Own w' w0.heap.size 114 2 encP lv' ps' ∧ Fr2 w w' b lv lv' ∧ Ext w0 w') := by
  have h := append_c w0 b lv start base ps bs A c w hb0 hx0 hbw hop hwf hl hne hbl
  rw [hap] at h; exact h
theorem flush_d (w0 : World) (b : Nat) (lv : Value) (start base : Int) (ps : List Pn) (c : List UInt8) (w : World) (hb0 : w0.heap.size ≤ b) (hx0 : Ext w0 w) (hbw : Blk w b 109 [.int .i64 start, .int .i64 base, lv]) (hop : Go.XK.Own w w0.heap.size 114 2 encP lv ps) (hwf : Wf start base ps) {e : Int} {cs : List (Int × List (List UInt8) × Bool × Bool)} {base' : Int} {ps' : List Pn} (hfl : flR c start base ps = (e, cs, base', ps')) :
    CallR Try.prog 27 [.pointer (some ⟨b, 0, none⟩), .string (B c)] w (fun v w' => ∃ v1 lv' ws, v = .tuple #[v1, .int .i64 e] ∧ Go.XK.Own w' w.heap.size 49 4 encW v1 ws ∧ Inn w' ws ∧ ws.map core = cs ∧ Blk w' b 109 [.int .i64 start, .int .i64 base', lv'] ∧ Go.XK.Own w' w0.heap.size 114 2 encP lv' ps' ∧ Fr2 w w' b lv lv' ∧ Ext w0 w') := by
  have h := flush_c w0 b lv start base ps c w hb0 hx0 hbw hop hwf
  rw [hfl] at h; exact h
theorem cut_d (im : Img) (A : Option Addr) (c : Nat) (ws : List Wr) (Aw : Option Addr) (cw : Nat) (z : Int) (w : World) (hl : SlR w A c 1 encS im) (hw : SlR w Aw cw 4 encW ws) (hin : Inn w ws) {o : Img} {e : Int} (hc : cutR im ws z = (o, e)) : CallR Try.prog 16 [.slice A im.length c, .slice Aw ws.length cw, .int .i64 z] w (fun v w' => ∃ v1, v = .tuple #[v1, .int .i64 e] ∧ Go.XK.Own w' w.heap.size 9 1 encS v1 o ∧ Ext w w') := by
  have h := cut_c im A c ws Aw cw z w hl hw hin
  rw [hc] at h; exact h
theorem record_d (im : Img) (A : Option Addr) (c : Nat) (ws : List Wr) (Aw : Option Addr) (cw : Nat) (w : World) (hl : SlR w A c 1 encS im) (hw : SlR w Aw cw 4 encW ws) (hin : Inn w ws) (hs : (stL ws).length ≤ 4611686018427387904) {o : Img} {e : Int} (hc : cutR im ws ((stL ws).length : Int) = (o, e)) : CallR Try.prog 14 [.slice A im.length c, .slice Aw ws.length cw] w (fun v w' => ∃ v1, v = .tuple #[v1, .int .i64 e] ∧ Go.XK.Own w' w.heap.size 9 1 encS v1 o ∧ Ext w w') := by
  have h := record_c im A c ws Aw cw w hl hw hin hs
  rw [hc] at h; exact h
theorem wf_new {start base : Int} (h0 : 0 ≤ start) (h1 : start ≤ base) (h2 : base ≤ 4096) (h8 : (base - start) % 8 = 0) : Wf start base [] := ⟨h0, h1, h2, (fun x hx => by cases hx), by simp, h8, List.Pairwise.nil⟩
theorem aw_wf (S : List UInt8) : Wf 10 18 (awP S) := ⟨by decide, by decide, by decide, by simp [awP], by simp [awP], by decide, by simp [awP]⟩

/-- slices.Equal[[]int,int] (function 38) -/
theorem equalI_c (a b : List (Int)) (A A2 : Option Addr) (c d : Nat) (w : World) (hla : SlR w A c 1 encI a) (hlb : SlR w A2 d 1 encI b) : CallR Try.prog 38 [.slice A a.length c, .slice A2 b.length d] w (fun v w' => v = .bool (decide (a = b)) ∧ Ext w w') := by
  have hmx0 := hla.lenle
  simp only [maxLen] at hmx0
  have hmx1 := hlb.lenle
  simp only [maxLen] at hmx1
  refine callR_of (n := 26) [(0, .slice A a.length c), (1, .slice A2 b.length d)] Try.func38 rfl rfl (Nat.le_of_ble_eq_true rfl) rfl ?_
  refine sc_seq ?_
  refine sc_reg ?_
  refine Go.XK.s (v := .bool false) (e_assign rfl) ?_
  refine sl_nil (nrm_k ?_)
  refine sc_seq ?_
  refine sc_seq ?_
  refine sc_reg ?_
  refine Go.XK.s (v := .slice A a.length c) (e_move rfl) ?_
  refine Go.XK.s (v := .int .i64 (a.length : Int)) (e_len Try.underlying38 rfl) ?_
  refine Go.XK.s (v := .slice A2 b.length d) (e_move rfl) ?_
  refine Go.XK.s (v := .int .i64 (b.length : Int)) (e_len Try.underlying38 rfl) ?_
  refine Go.XK.s (v := .bool (decide ((a.length : Int) ≠ (b.length : Int)))) (e_ne rfl rfl) ?_
  refine sl_nil (nrm_k ?_)
  refine sc_ifd rfl (fun c10 => ?_) (fun c10 => ?_)
  ·
    refine sc_seq ?_
    refine sc_reg ?_
    refine Go.XK.s (v := .bool false) (e_assign rfl) ?_
    refine sl_nil (nrm_k ?_)
    refine sc_retf rfl (ret1 Try.results38 (rvt rfl) ?_)
    exact ⟨congrArg Value.bool (decide_eq_false (fun e => by subst e; exact c10 rfl)).symm, (Ext.rfl' w)⟩
  ·
    have hl : a.length = b.length := by omega
    refine sc_skip (nrm_k ?_)
    refine sc_seq ?_
    refine sc_seq ?_
    refine sc_reg ?_
    refine Go.XK.s (v := .slice A a.length c) (e_move rfl) ?_
    refine Go.XK.s (v := .int .i64 (a.length : Int)) (e_len Try.underlying38 rfl) ?_
    refine Go.XK.s (v := .int .i64 0) (e_move rfl) ?_
    refine sl_nil (nrm_k ?_)
    refine sc_block ?_
    refine sc_loop (fun m_ l_ w_ => ∃ (i : Nat), m_ = a.length - i ∧ l_ = [(13, .int .i64 (i : Int)), (0, .slice A a.length c), (1, .slice A2 b.length d), (12, .int .i64 (a.length : Int))] ∧ Ext w w_ ∧ i ≤ a.length ∧ a.take i = b.take i) _ [(13, .int .i64 (0 : Int)), (0, .slice A a.length c), (1, .slice A2 b.length d), (12, .int .i64 (a.length : Int))] ⟨0, rfl, rfl, (Ext.rfl' w), ⟨by omega, rfl⟩⟩ (.cons rfl (.cons rfl (.cons rfl (.cons rfl (.nil))))) ?_
    rintro j2 _ w1 ⟨i, rfl, rfl, xw_w1, ⟨hi, hs⟩⟩
    refine sc_seq ?_
    refine sc_reg ?_
    refine Go.XK.s (v := .bool (decide ((i : Int) < (a.length : Int)))) (e_lt rfl rfl) ?_
    refine sl_nil (nrm_k ?_)
    refine sc_seq ?_
    refine sc_ifd rfl (fun c14 => ?_) (fun c14 => ?_)
    ·
      obtain ⟨x, hx⟩ : ∃ x, a[i]? = some x := ⟨_, List.getElem?_eq_getElem (by omega)⟩
      obtain ⟨y, hy⟩ : ∃ y, b[i]? = some y := ⟨_, List.getElem?_eq_getElem (by omega)⟩
      refine sc_skip (nrm_k ?_)
      refine sc_seq ?_
      refine sc_block ?_
      refine sc_seq ?_
      refine sc_reg ?_
      refine Go.XK.s (v := .int .i64 (i : Int)) (e_move rfl) ?_
      refine Go.XK.s (v := .int .i64 (i : Int)) (e_assign rfl) ?_
      refine sl_nil (nrm_k ?_)
      refine sc_seq ?_
      refine sc_free [(5, .int .i64 (i : Int)), (15, .int .i64 (i : Int)), (14, .bool (decide ((i : Int) < (a.length : Int)))), (13, .int .i64 (i : Int)), (0, .slice A a.length c), (1, .slice A2 b.length d), (12, .int .i64 (a.length : Int))] [16, 17, 18, 19, 20, 21, 22, 23, 24] [(Is (.slice A a.length c)), (Is (.int .i64 (i : Int))), (Is (.pointer (some (el A 1 (i : Int) 0)))), (Is (.int .i64 x)), (Is (.slice A2 b.length d)), (Is (.int .i64 (i : Int))), (Is (.pointer (some (el A2 1 (i : Int) 0)))), (Is (.int .i64 y)), (Is (.bool (decide (x ≠ y))))] [] (by kernel_rfl) (Sub.refl _) (by kernel_rfl) (by kernel_rfl) (by kernel_rfl) rfl (by kernel_rfl) (ds_ext (Stays.spec (.is _ (.is _ (.is _ (.is _ (.is _ (.is _ (.is _ (.is _ (.is _ (.nil)))))))))))) ⟨?_, ?_, ?_, ?_, ?_, ?_, ?_, ?_, ?_, trivial⟩ ?_
      · intro Q act_ wI hxI ha hp
        have xw_wI : Ext w wI := Ext.tr xw_w1 hxI
        exact h_evA (v := .slice A a.length c) ha rfl (e_move rfl) rfl rfl (Ext.rfl' _)
      · intro Q act_ wI hxI ha hp
        have xw_wI : Ext w wI := Ext.tr xw_w1 hxI
        exact h_evA (v := .int .i64 (i : Int)) ha rfl (e_move rfl) rfl rfl (Ext.rfl' _)
      · intro Q act_ wI hxI ha hp
        have xw_wI : Ext w wI := Ext.tr xw_w1 hxI
        have ha := ha.add (show act_.tmps.getD 16 undef = .slice A a.length c from hp 0 (by kernel_rfl) (by decide))
        have ha := ha.add (show act_.tmps.getD 17 undef = .int .i64 (i : Int) from hp 1 (by kernel_rfl) (by decide))
        exact h_evA (v := .pointer (some (el A 1 (i : Int) 0))) ha rfl (e_idxEl (e := x) Try.underlying38 Try.sizeOf3 rfl rfl (hla.1.ext xw_wI) hx (by omega) rfl) rfl rfl (Ext.rfl' _)
      · intro Q act_ wI hxI ha hp
        have xw_wI : Ext w wI := Ext.tr xw_w1 hxI
        have ha := ha.add (show act_.tmps.getD 18 undef = .pointer (some (el A 1 (i : Int) 0)) from hp 2 (by kernel_rfl) (by decide))
        exact h_evA (v := .int .i64 x) ha rfl (e_ldEl (xs := a) (enc := encI) (e := x) rfl (hla.1.ext xw_wI) hx Try.isAgg3 rfl) rfl rfl (Ext.rfl' _)
      · intro Q act_ wI hxI ha hp
        have xw_wI : Ext w wI := Ext.tr xw_w1 hxI
        exact h_evA (v := .slice A2 b.length d) ha rfl (e_move rfl) rfl rfl (Ext.rfl' _)
      · intro Q act_ wI hxI ha hp
        have xw_wI : Ext w wI := Ext.tr xw_w1 hxI
        exact h_evA (v := .int .i64 (i : Int)) ha rfl (e_move rfl) rfl rfl (Ext.rfl' _)
      · intro Q act_ wI hxI ha hp
        have xw_wI : Ext w wI := Ext.tr xw_w1 hxI
        have ha := ha.add (show act_.tmps.getD 20 undef = .slice A2 b.length d from hp 4 (by kernel_rfl) (by decide))
        have ha := ha.add (show act_.tmps.getD 21 undef = .int .i64 (i : Int) from hp 5 (by kernel_rfl) (by decide))
        exact h_evA (v := .pointer (some (el A2 1 (i : Int) 0))) ha rfl (e_idxEl (e := y) Try.underlying38 Try.sizeOf3 rfl rfl (hlb.1.ext xw_wI) hy (by omega) rfl) rfl rfl (Ext.rfl' _)
      · intro Q act_ wI hxI ha hp
        have xw_wI : Ext w wI := Ext.tr xw_w1 hxI
        have ha := ha.add (show act_.tmps.getD 22 undef = .pointer (some (el A2 1 (i : Int) 0)) from hp 6 (by kernel_rfl) (by decide))
        exact h_evA (v := .int .i64 y) ha rfl (e_ldEl (xs := b) (enc := encI) (e := y) rfl (hlb.1.ext xw_wI) hy Try.isAgg3 rfl) rfl rfl (Ext.rfl' _)
      · intro Q act_ wI hxI ha hp
        have xw_wI : Ext w wI := Ext.tr xw_w1 hxI
        have ha := ha.add (show act_.tmps.getD 19 undef = .int .i64 x from hp 3 (by kernel_rfl) (by decide))
        have ha := ha.add (show act_.tmps.getD 23 undef = .int .i64 y from hp 7 (by kernel_rfl) (by decide))
        exact h_evA (v := .bool (decide (x ≠ y))) ha rfl (e_ne rfl rfl) rfl rfl (Ext.rfl' _)
      intro vs_ w3 hx_w3 hvs act_ ha hv
      have xw_w3 : Ext w w3 := Ext.tr xw_w1 hx_w3
      have ha := ha.add ((hv 8 (by decide)).trans (show vs_ 8 = .bool (decide (x ≠ y)) from hvs 8 (by decide)))
      refine st_go ha ?_
      clear ha hv hvs
      refine st_nil (nrm_k ?_)
      refine sc_ifd rfl (fun c24 => ?_) (fun c24 => ?_)
      ·
        refine sc_seq ?_
        refine sc_reg ?_
        refine Go.XK.s (v := .bool false) (e_assign rfl) ?_
        refine sl_nil (nrm_k ?_)
        refine sc_retf rfl (ret1 Try.results38 (rvt rfl) ?_)
        exact ⟨congrArg Value.bool (decide_eq_false (same_no hx hy c24)).symm, xw_w3⟩
      ·
        refine sc_skip (nrm_k ?_)
        refine sc_reg ?_
        refine Go.XK.s (v := .int .i64 ((i : Int) + 1)) (e_add rfl rfl (by omega)) ?_
        refine Go.XK.s (v := .int .i64 ((i : Int) + 1)) (e_move rfl) ?_
        refine sl_nil ?_
        exact nrm_loopq rfl _ _ (by omega) ⟨i + 1, rfl, rfl, xw_w3, ⟨by omega, same_take hx (by rw [hy, Classical.not_not.1 c24]) hs⟩⟩ (.cons rfl (.cons rfl (.cons rfl (.cons rfl (.nil)))))
    ·
      refine sc_exit rfl (nrm_k ?_)
      refine sc_seq ?_
      refine sc_reg ?_
      refine Go.XK.s (v := .bool true) (e_assign rfl) ?_
      refine sl_nil (nrm_k ?_)
      refine sc_retf rfl (ret1 Try.results38 (rvt rfl) ?_)
      exact ⟨congrArg Value.bool (decide_eq_true (same_end hs hl (by omega))).symm, xw_w1⟩

/-- masterdisc/masterdisclaw52.awake (function 11) -/
theorem awake_c (w : World) : CallR Try.prog 11 [] w (fun v w' => v = .bool true ∧ Ext w w') := by
  have eqI : decide (([18, 19, 20, 21, 22, 23, 24, 26] : List Int) = [18, 19, 20, 21, 22, 23, 24, 26]) = true := decide_eq_true rfl
  obtain ⟨S, hS⟩ : ∃ S, S = blk1 97 := ⟨_, rfl⟩
  obtain ⟨C, hC⟩ : ∃ C, C = blk1 99 := ⟨_, rfl⟩
  obtain ⟨Z, hZ⟩ : ∃ Z, Z = zB := ⟨_, rfl⟩
  have hSl : S.length = 2048 := by rw [hS, blk1_length]
  have hCl : C.length = 2048 := by rw [hC, blk1_length]
  have ctl33 : ctlP 10 18 (awP S) = 33 := by rw [ctlP, show lastP 18 (awP S) = 26 from rfl]; decide
  have aw_steps16 : ∀ {A1 A2 : Option Addr} {c1 c2 : Nat}, ((stL [aw1 S Z A1 c1, aw2 S Z C A2 c2]).length : Int) = 16 := by intros; rw [aw_steps]; rfl
  refine callR_of (n := 165) [] Try.func11 rfl rfl (Nat.le_of_ble_eq_true rfl) rfl ?_
  refine sc_seq ?_
  refine sc_reg ?_
  refine Go.XK.s (v := .bool false) (e_assign rfl) ?_
  refine sl_nil (nrm_k ?_)
  refine sc_seq ?_
  refine sc_reg ?_
  refine sl_call ent23 rfl rfl (new_d 10 13 w (by decide) (by decide) 18 (by decide) (by decide)) (by decide) ?_
  rintro _ w1 ⟨bw, rfl, hbw, hgw, hw1⟩
  have ge_bw : w.heap.size ≤ bw := by have h_ := Below.size (Ext.rfl' w); omega
  have xw_w1 : Ext w w1 := Ext.tr (Ext.rfl' w) hw1
  have hop : Go.XK.Own w1 w.heap.size 114 2 encP (.slice none 0 0) [] := Go.XK.Own.nil _ _ _ _ _
  refine Go.XK.s (v := .tuple #[.pointer (some ⟨bw, 0, none⟩), .int .i64 0]) (e_move rfl) ?_
  refine Go.XK.s (v := .pointer (some ⟨bw, 0, none⟩)) (e_extract (vs := [.pointer (some ⟨bw, 0, none⟩), .int .i64 0]) rfl rfl) ?_
  refine Go.XK.s (v := .int .i64 0) (e_extract (vs := [.pointer (some ⟨bw, 0, none⟩), .int .i64 0]) rfl rfl) ?_
  refine Go.XK.s (v := .pointer (some ⟨bw, 0, none⟩)) (e_assign rfl) ?_
  refine Go.XK.s (v := .int .i64 0) (e_assign rfl) ?_
  refine sl_nil (nrm_k ?_)
  refine sc_seq ?_
  refine sc_seq ?_
  refine sc_reg ?_
  refine Go.XK.s (v := .int .i64 0) (e_move rfl) ?_
  refine Go.XK.s (v := .bool (decide ((0 : Int) ≠ 0))) (e_ne rfl rfl) ?_
  refine Go.XK.s (v := .bool (decide ((0 : Int) ≠ 0))) (e_move rfl) ?_
  refine sl_gev (v := .pointer (some ⟨bw, 0, none⟩)) rfl rfl (by decide) (e_move rfl) rfl (by decide) ?_
  refine sl_gev (v := .bool false) rfl rfl (by decide) (e_peqnil (by kernel_rfl) rfl rfl) rfl (by decide) ?_
  refine Go.XK.s (v := .bool false) (e_pickF rfl (by decide) rfl) ?_
  refine Go.XK.s (v := .bool false) (e_move rfl) ?_
  refine sl_gev (v := .pointer (some ⟨bw, 0, none⟩)) rfl rfl rfl (e_move rfl) rfl (by decide) ?_
  refine sl_gcall rfl rfl rfl ent40 rfl rfl (base_c w _ _ _ _ _ w1 ge_bw xw_w1 hbw hop (wf_new (by decide) (by decide) (by decide) (by decide))) (by decide) ?_
  rintro _ w2 ⟨rfl, hw2⟩
  have xw_w2 : Ext w w2 := Ext.tr xw_w1 hw2
  replace hbw := hbw.ext hw2
  replace hop := hop.ext hw2
  refine sl_gev (v := .bool (decide ((18 : Int) ≠ 18))) rfl rfl rfl (e_ne rfl rfl) rfl (by decide) ?_
  refine Go.XK.s (v := .bool (decide ((18 : Int) ≠ 18))) (e_pickF rfl rfl rfl) ?_
  refine sl_nil (nrm_k ?_)
  refine sc_no rfl (by decide) ?_
  refine sc_skip (nrm_k ?_)
  refine sc_seq ?_
  refine sc_reg ?_
  refine Go.XK.s (v := .pointer (some ⟨bw, 0, none⟩)) (e_move rfl) ?_
  refine sl_call ent24 rfl rfl (block_d 97 w2 (by decide) hS) (by decide) ?_
  rintro _ w3 ⟨rfl, hw3⟩
  have xw_w3 : Ext w w3 := Ext.tr xw_w2 hw3
  replace hbw := hbw.ext hw3
  replace hop := hop.ext hw3
  refine s_bslice (vs := [(0, .string (B S))]) (e := 9) rfl [.string (B S)] (by kernel_rfl) ?_
  intro b26 w4 hb26 he26 hs26 hx26
  have ne_b26_bw : b26 ≠ bw := by have h_ := hbw.lt; omega
  have no_b26_hop : Value.ownBlock (.slice none 0 0) ≠ some b26 := fun h_ => by have h2_ := (Go.XK.Own.lt hop _ h_).2; omega
  have ge_b26 : w.heap.size ≤ b26 := by have h_ := (Below.size xw_w3); omega
  have xw_w4 : Ext w w4 := Ext.tr xw_w3 hx26
  replace hbw := hbw.ext hx26
  replace hop := hop.ext hx26
  refine sl_call ent56 rfl rfl (repeat_c S ⟨b26, 0, none⟩ 1 8 w4 ⟨Rd.ofBlk (xs := [S]) hb26 (fun _ => rfl), by simp, by decide, fun h_ => by cases h_⟩ (by omega) (by omega)) (by decide) ?_
  rintro vB w5 ⟨hoB, hw5⟩
  replace hoB := Own.low hoB (Below.size xw_w4)
  have xw_w5 : Ext w w5 := Ext.tr xw_w4 hw5
  replace hbw := hbw.ext hw5
  replace hb26 := hb26.ext hw5
  replace hop := hop.ext hw5
  obtain ⟨AB, cB, eB_, hlcB, hcmB, _⟩ := Go.XK.Own.shape hoB (fun _ => rfl)
  subst eB_
  refine sl_call ent25 rfl rfl (append_d w _ _ _ _ _ _ _ _ w5 ge_bw xw_w5 hbw hop (wf_new (by decide) (by decide) (by decide) (by decide)) (Go.XK.Own.slr hoB (fun _ => rfl)) (Go.XK.Own.apart hoB hbw hop (by decide) (by decide)) (by simp) (aw_ap hSl)) (by decide) ?_
  rintro _ w6 ⟨vL1, lv1, rfl, hoL1, hbwN, hopN, hfrN, hw6⟩
  replace hoL1 := Own.low hoL1 (Below.size xw_w5)
  replace hb26 := Blk.fr2 hb26 hfrN ne_b26_bw (Go.XK.Own.ne hop hb26 (by decide))
  replace hoB := Go.XK.Own.fr2 hoB hfrN hbw hop (by decide) (by decide)
  clear hbw hop
  have hbw := hbwN
  have hop := hopN
  clear hbwN hopN
  have xw_w6 := hw6
  obtain ⟨AL1, cL1, eL1_, hlcL1, hcmL1, _⟩ := Go.XK.Own.shape hoL1 (fun _ => rfl)
  subst eL1_
  refine Go.XK.s (v := .tuple #[.slice AL1 [18, 19, 20, 21, 22, 23, 24, 26].length cL1, .int .i64 0]) (e_move rfl) ?_
  refine Go.XK.s (v := .slice AL1 [18, 19, 20, 21, 22, 23, 24, 26].length cL1) (e_extract (vs := [.slice AL1 [18, 19, 20, 21, 22, 23, 24, 26].length cL1, .int .i64 0]) rfl rfl) ?_
  refine Go.XK.s (v := .int .i64 0) (e_extract (vs := [.slice AL1 [18, 19, 20, 21, 22, 23, 24, 26].length cL1, .int .i64 0]) rfl rfl) ?_
  refine Go.XK.s (v := .slice AL1 [18, 19, 20, 21, 22, 23, 24, 26].length cL1) (e_assign rfl) ?_
  refine Go.XK.s (v := .int .i64 0) (e_assign rfl) ?_
  refine sl_nil (nrm_k ?_)
  refine sc_seq ?_
  refine sc_seq ?_
  refine sc_reg ?_
  refine Go.XK.s (v := .int .i64 0) (e_move rfl) ?_
  refine Go.XK.s (v := .bool (decide ((0 : Int) ≠ 0))) (e_ne rfl rfl) ?_
  refine Go.XK.s (v := .bool (decide ((0 : Int) ≠ 0))) (e_move rfl) ?_
  refine sl_gev (v := .slice AL1 [18, 19, 20, 21, 22, 23, 24, 26].length cL1) rfl rfl (by decide) (e_move rfl) rfl (by decide) ?_
  refine sl_unguard rfl rfl (by decide) ?_
  refine s_bslice (vs := [(0, .int .i64 18), (1, .int .i64 19), (2, .int .i64 20), (3, .int .i64 21), (4, .int .i64 22), (5, .int .i64 23), (6, .int .i64 24), (7, .int .i64 26)]) (e := 3) rfl [.int .i64 18, .int .i64 19, .int .i64 20, .int .i64 21, .int .i64 22, .int .i64 23, .int .i64 24, .int .i64 26] (by kernel_rfl) ?_
  intro b35 w7 hb35 he35 hs35 hx35
  have ne_b35_bw : b35 ≠ bw := by have h_ := hbw.lt; omega
  have ne_b35_b26 : b35 ≠ b26 := by have h_ := hb26.lt; omega
  have no_b35_hop : Value.ownBlock lv1 ≠ some b35 := fun h_ => by have h2_ := (Go.XK.Own.lt hop _ h_).2; omega
  have no_b35_hoB : Value.ownBlock (.slice AB ((List.replicate 8 S).length) cB) ≠ some b35 := fun h_ => by have h2_ := (Go.XK.Own.lt hoB _ h_).2; omega
  have no_b35_hoL1 : Value.ownBlock (.slice AL1 ([18, 19, 20, 21, 22, 23, 24, 26].length) cL1) ≠ some b35 := fun h_ => by have h2_ := (Go.XK.Own.lt hoL1 _ h_).2; omega
  have ge_b35 : w.heap.size ≤ b35 := by have h_ := (Below.size xw_w6); omega
  have xw_w7 : Ext w w7 := Ext.tr xw_w6 hx35
  replace hbw := hbw.ext hx35
  replace hb26 := hb26.ext hx35
  replace hop := hop.ext hx35
  replace hoB := hoB.ext hx35
  replace hoL1 := hoL1.ext hx35
  refine sl_gcall rfl rfl (by decide) ent38 rfl rfl ((callB eqI (equalI_c _ _ _ _ _ _ w7 (Go.XK.Own.slr hoL1 (fun _ => rfl)) ⟨Rd.ofBlk (xs := [18, 19, 20, 21, 22, 23, 24, 26]) hb35 (fun _ => rfl), by simp, by decide, fun h_ => by cases h_⟩))) (by decide) ?_
  rintro _ w8 ⟨rfl, hw8⟩
  have xw_w8 : Ext w w8 := Ext.tr xw_w7 hw8
  replace hbw := hbw.ext hw8
  replace hb26 := hb26.ext hw8
  replace hb35 := hb35.ext hw8
  replace hop := hop.ext hw8
  replace hoB := hoB.ext hw8
  replace hoL1 := hoL1.ext hw8
  refine sl_gev (v := .bool false) rfl rfl (by decide) (e_not (b := true) rfl) rfl (by decide) ?_
  refine Go.XK.s (v := .bool false) (e_pickF rfl (by decide) rfl) ?_
  refine Go.XK.s (v := .bool false) (e_move rfl) ?_
  refine sl_gev (v := .pointer (some ⟨bw, 0, none⟩)) rfl rfl rfl (e_move rfl) rfl (by decide) ?_
  refine sl_gcall rfl rfl rfl ent26 rfl rfl ((callI ctl33 (control_c w _ _ _ _ _ w8 ge_bw xw_w8 hbw hop (aw_wf S)))) (by decide) ?_
  rintro _ w9 ⟨rfl, hw9⟩
  have xw_w9 : Ext w w9 := Ext.tr xw_w8 hw9
  replace hbw := hbw.ext hw9
  replace hb26 := hb26.ext hw9
  replace hb35 := hb35.ext hw9
  replace hop := hop.ext hw9
  replace hoB := hoB.ext hw9
  replace hoL1 := hoL1.ext hw9
  refine sl_gev (v := .bool (decide ((33 : Int) ≠ 33))) rfl rfl rfl (e_ne rfl rfl) rfl (by decide) ?_
  refine Go.XK.s (v := .bool (decide ((33 : Int) ≠ 33))) (e_pickF rfl rfl rfl) ?_
  refine sl_nil (nrm_k ?_)
  refine sc_no rfl (by decide) ?_
  refine sc_skip (nrm_k ?_)
  refine sc_seq ?_
  refine sc_reg ?_
  refine Go.XK.s (v := .pointer (some ⟨bw, 0, none⟩)) (e_move rfl) ?_
  refine sl_call ent24 rfl rfl (block_d 99 w9 (by decide) hC) (by decide) ?_
  rintro _ w10 ⟨rfl, hw10⟩
  have xw_w10 : Ext w w10 := Ext.tr xw_w9 hw10
  replace hbw := hbw.ext hw10
  replace hb26 := hb26.ext hw10
  replace hb35 := hb35.ext hw10
  replace hop := hop.ext hw10
  replace hoB := hoB.ext hw10
  replace hoL1 := hoL1.ext hw10
  refine sl_call ent27 rfl rfl (flush_d w _ _ _ _ _ _ w10 ge_bw xw_w10 hbw hop (aw_wf S) (aw_fl hSl hCl hZ)) (by decide) ?_
  rintro _ w11 ⟨vF1, lvF1, ws1, rfl, hoF1, hiF1, hcs1, hbwN, hopN, hfrN, hw11⟩
  replace hoF1 := Own.low hoF1 (Below.size xw_w10)
  replace hb26 := Blk.fr2 hb26 hfrN ne_b26_bw (Go.XK.Own.ne hop hb26 (by decide))
  replace hb35 := Blk.fr2 hb35 hfrN ne_b35_bw (Go.XK.Own.ne hop hb35 (by decide))
  replace hoB := Go.XK.Own.fr2 hoB hfrN hbw hop (by decide) (by decide)
  replace hoL1 := Go.XK.Own.fr2 hoL1 hfrN hbw hop (by decide) (by decide)
  clear hbw hop
  have hbw := hbwN
  have hop := hopN
  clear hbwN hopN
  have xw_w11 := hw11
  obtain ⟨AW1, cW1, AW2, cW2, rfl⟩ := aw_ws hcs1
  have hzl : Z.length = 2048 := by rw [hZ]; exact rep_c0 _ _
  obtain ⟨AF, cF, eF_, hlcF, hcmF, _⟩ := Go.XK.Own.shape hoF1 (fun _ => rfl)
  subst eF_
  refine Go.XK.s (v := .tuple #[.slice AF 2 cF, .int .i64 0]) (e_move rfl) ?_
  refine Go.XK.s (v := .slice AF 2 cF) (e_extract (vs := [.slice AF 2 cF, .int .i64 0]) rfl rfl) ?_
  refine Go.XK.s (v := .int .i64 0) (e_extract (vs := [.slice AF 2 cF, .int .i64 0]) rfl rfl) ?_
  refine Go.XK.s (v := .slice AF 2 cF) (e_assign rfl) ?_
  refine Go.XK.s (v := .int .i64 0) (e_assign rfl) ?_
  refine sl_nil (nrm_k ?_)
  refine sc_seq ?_
  refine sc_seq ?_
  refine sc_reg ?_
  refine Go.XK.s (v := .int .i64 0) (e_move rfl) ?_
  refine Go.XK.s (v := .bool (decide ((0 : Int) ≠ 0))) (e_ne rfl rfl) ?_
  refine Go.XK.s (v := .bool (decide ((0 : Int) ≠ 0))) (e_move rfl) ?_
  refine sl_gev (v := .slice AF 2 cF) rfl rfl (by decide) (e_move rfl) rfl (by decide) ?_
  refine sl_gev (v := .int .i64 2) rfl rfl (by decide) (e_lenOwn Try.underlying24 rfl hoF1 (fun _ => rfl)) rfl (by decide) ?_
  refine sl_gev (v := .bool (decide ((2 : Int) ≠ 2))) rfl rfl (by decide) (e_ne rfl rfl) rfl (by decide) ?_
  refine Go.XK.s (v := .bool (decide ((2 : Int) ≠ 2))) (e_pickF rfl (by decide) rfl) ?_
  refine Go.XK.s (v := .bool (decide ((2 : Int) ≠ 2))) (e_move rfl) ?_
  refine sl_gev (v := .slice AF 2 cF) rfl rfl (by decide) (e_move rfl) rfl (by decide) ?_
  refine sl_gev (v := .pointer (some (el (ownA (.slice AF 2 cF)) 4 0 0))) rfl rfl (by decide) (e_idxOwn (x0 := (aw1 S Z AW1 cW1)) Try.underlying24 Try.sizeOf49 rfl rfl hoF1 (fun _ => rfl) rfl (by decide)) rfl (by decide) ?_
  refine sl_gev (v := .pointer (some (el (ownA (.slice AF 2 cF)) 4 0 0))) rfl rfl (by decide) (e_fieldEl (fsz := 1) Try.underlying49 rfl Try.sizeOf3 (by decide) rfl rfl) rfl (by decide) ?_
  refine sl_gev (v := .int .i64 18) rfl rfl (by decide) (e_ldEl (xs := [aw1 S Z AW1 cW1, aw2 S Z C AW2 cW2]) (enc := encW) (e := (aw1 S Z AW1 cW1)) rfl (Go.XK.Own.rd hoF1 (fun _ => rfl)) rfl Try.isAgg3 rfl) rfl (by decide) ?_
  refine sl_gev (v := .bool (decide ((18 : Int) ≠ 18))) rfl rfl (by decide) (e_ne rfl rfl) rfl (by decide) ?_
  refine Go.XK.s (v := .bool (decide ((18 : Int) ≠ 18))) (e_pickF rfl (by decide) rfl) ?_
  refine Go.XK.s (v := .bool (decide ((18 : Int) ≠ 18))) (e_move rfl) ?_
  refine sl_gev (v := .slice AF 2 cF) rfl rfl (by decide) (e_move rfl) rfl (by decide) ?_
  refine sl_gev (v := .pointer (some (el (ownA (.slice AF 2 cF)) 4 1 0))) rfl rfl (by decide) (e_idxOwn (x0 := (aw2 S Z C AW2 cW2)) Try.underlying24 Try.sizeOf49 rfl rfl hoF1 (fun _ => rfl) rfl (by decide)) rfl (by decide) ?_
  refine sl_gev (v := .pointer (some (el (ownA (.slice AF 2 cF)) 4 1 0))) rfl rfl (by decide) (e_fieldEl (fsz := 1) Try.underlying49 rfl Try.sizeOf3 (by decide) rfl rfl) rfl (by decide) ?_
  refine sl_gev (v := .int .i64 26) rfl rfl (by decide) (e_ldEl (xs := [aw1 S Z AW1 cW1, aw2 S Z C AW2 cW2]) (enc := encW) (e := (aw2 S Z C AW2 cW2)) rfl (Go.XK.Own.rd hoF1 (fun _ => rfl)) rfl Try.isAgg3 rfl) rfl (by decide) ?_
  refine sl_gev (v := .bool (decide ((26 : Int) ≠ 26))) rfl rfl (by decide) (e_ne rfl rfl) rfl (by decide) ?_
  refine Go.XK.s (v := .bool (decide ((26 : Int) ≠ 26))) (e_pickF rfl (by decide) rfl) ?_
  refine Go.XK.s (v := .bool (decide ((26 : Int) ≠ 26))) (e_move rfl) ?_
  refine sl_gev (v := .slice AF 2 cF) rfl rfl (by decide) (e_move rfl) rfl (by decide) ?_
  refine sl_gev (v := .pointer (some (el (ownA (.slice AF 2 cF)) 4 0 0))) rfl rfl (by decide) (e_idxOwn (x0 := (aw1 S Z AW1 cW1)) Try.underlying24 Try.sizeOf49 rfl rfl hoF1 (fun _ => rfl) rfl (by omega)) rfl (by decide) ?_
  refine sl_gev (v := .pointer (some (el (ownA (.slice AF 2 cF)) 4 0 2))) rfl rfl (by decide) (e_fieldEl (fsz := 1) Try.underlying49 rfl Try.sizeOf4 (by decide) rfl rfl) rfl (by decide) ?_
  refine sl_gev (v := .bool false) rfl rfl (by decide) (e_ldEl (xs := [aw1 S Z AW1 cW1, aw2 S Z C AW2 cW2]) (enc := encW) (e := (aw1 S Z AW1 cW1)) rfl (Go.XK.Own.rd hoF1 (fun _ => rfl)) rfl Try.isAgg4 rfl) rfl (by decide) ?_
  refine Go.XK.s (v := .bool false) (e_pickF rfl (by decide) rfl) ?_
  refine Go.XK.s (v := .bool false) (e_move rfl) ?_
  refine sl_gev (v := .slice AF 2 cF) rfl rfl rfl (e_move rfl) rfl (by decide) ?_
  refine sl_gev (v := .pointer (some (el (ownA (.slice AF 2 cF)) 4 1 0))) rfl rfl rfl (e_idxOwn (x0 := (aw2 S Z C AW2 cW2)) Try.underlying24 Try.sizeOf49 rfl rfl hoF1 (fun _ => rfl) rfl (by omega)) rfl (by decide) ?_
  refine sl_gev (v := .pointer (some (el (ownA (.slice AF 2 cF)) 4 1 2))) rfl rfl rfl (e_fieldEl (fsz := 1) Try.underlying49 rfl Try.sizeOf4 (by decide) rfl rfl) rfl (by decide) ?_
  refine sl_gev (v := .bool true) rfl rfl rfl (e_ldEl (xs := [aw1 S Z AW1 cW1, aw2 S Z C AW2 cW2]) (enc := encW) (e := (aw2 S Z C AW2 cW2)) rfl (Go.XK.Own.rd hoF1 (fun _ => rfl)) rfl Try.isAgg4 rfl) rfl (by decide) ?_
  refine sl_gev (v := .bool false) rfl rfl rfl (e_not (b := true) rfl) rfl (by decide) ?_
  refine Go.XK.s (v := .bool false) (e_pickF rfl rfl rfl) ?_
  refine Go.XK.s (v := .bool false) (e_move rfl) ?_
  refine sl_gev (v := .slice AF 2 cF) rfl rfl rfl (e_move rfl) rfl (by decide) ?_
  refine sl_gev (v := .pointer (some (el (ownA (.slice AF 2 cF)) 4 1 0))) rfl rfl rfl (e_idxOwn (x0 := (aw2 S Z C AW2 cW2)) Try.underlying24 Try.sizeOf49 rfl rfl hoF1 (fun _ => rfl) rfl (by omega)) rfl (by decide) ?_
  refine sl_gev (v := .pointer (some (el (ownA (.slice AF 2 cF)) 4 1 1))) rfl rfl rfl (e_fieldEl (fsz := 1) Try.underlying49 rfl Try.sizeOf22 (by decide) rfl rfl) rfl (by decide) ?_
  refine sl_gev (v := .slice AW2 8 cW2) rfl rfl rfl (e_ldEl (xs := [aw1 S Z AW1 cW1, aw2 S Z C AW2 cW2]) (enc := encW) (e := (aw2 S Z C AW2 cW2)) rfl (Go.XK.Own.rd hoF1 (fun _ => rfl)) rfl Try.isAgg22 rfl) rfl (by decide) ?_
  refine sl_gev (v := .int .i64 8) rfl rfl rfl (e_len Try.underlying22 rfl) rfl (by decide) ?_
  refine sl_gev (v := .bool (decide ((8 : Int) ≠ 8))) rfl rfl rfl (e_ne rfl rfl) rfl (by decide) ?_
  refine Go.XK.s (v := .bool (decide ((8 : Int) ≠ 8))) (e_pickF rfl rfl rfl) ?_
  refine sl_nil (nrm_k ?_)
  refine sc_no rfl (by decide) ?_
  refine sc_skip (nrm_k ?_)
  refine sc_seq ?_
  obtain ⟨im1, hrec, hl1, hg33, hg17, hvr⟩ := aw_rec (A1 := AW1) (A2 := AW2) (c1 := cW1) (c2 := cW2) hSl hzl hCl
  obtain ⟨im2, hcut, hl2, hg26, hg27⟩ := aw_cut (A1 := AW1) (A2 := AW2) (c1 := cW1) (c2 := cW2) hSl hzl hCl
  refine sc_reg ?_
  refine Go.XK.s (v := .slice AF 2 cF) (e_move rfl) ?_
  refine sl_call ent14 rfl rfl (record_d _ _ _ _ _ _ w11 (SlR.nil _) (Go.XK.Own.slr hoF1 (fun _ => rfl)) hiF1 (by rw [aw_steps]; decide) hrec) (by decide) ?_
  rintro _ w12 ⟨vI1, rfl, hoI1, hw12⟩
  replace hoI1 := Own.low hoI1 (Below.size xw_w11)
  have xw_w12 : Ext w w12 := Ext.tr xw_w11 hw12
  replace hbw := hbw.ext hw12
  replace hb26 := hb26.ext hw12
  replace hb35 := hb35.ext hw12
  replace hop := hop.ext hw12
  replace hoB := hoB.ext hw12
  replace hoL1 := hoL1.ext hw12
  replace hoF1 := hoF1.ext hw12
  replace hiF1 := hiF1.ext hw12
  obtain ⟨AI1, cI1, eI1_, hlcI1, hcmI1, _⟩ := Go.XK.Own.shape hoI1 (fun _ => rfl)
  subst eI1_
  refine Go.XK.s (v := .tuple #[.slice AI1 im1.length cI1, .int .i64 0]) (e_move rfl) ?_
  refine Go.XK.s (v := .slice AI1 im1.length cI1) (e_extract (vs := [.slice AI1 im1.length cI1, .int .i64 0]) rfl rfl) ?_
  refine Go.XK.s (v := .int .i64 0) (e_extract (vs := [.slice AI1 im1.length cI1, .int .i64 0]) rfl rfl) ?_
  refine Go.XK.s (v := .slice AI1 im1.length cI1) (e_assign rfl) ?_
  refine Go.XK.s (v := .int .i64 0) (e_assign rfl) ?_
  refine sl_nil (nrm_k ?_)
  refine sc_seq ?_
  refine sc_reg ?_
  refine Go.XK.s (v := .slice AF 2 cF) (e_move rfl) ?_
  refine sl_call ent16 rfl rfl (cut_d _ _ _ _ _ _ _ w12 (SlR.nil _) (Go.XK.Own.slr hoF1 (fun _ => rfl)) hiF1 hcut) (by decide) ?_
  rintro _ w13 ⟨vI2, rfl, hoI2, hw13⟩
  replace hoI2 := Own.low hoI2 (Below.size xw_w12)
  have xw_w13 : Ext w w13 := Ext.tr xw_w12 hw13
  replace hbw := hbw.ext hw13
  replace hb26 := hb26.ext hw13
  replace hb35 := hb35.ext hw13
  replace hop := hop.ext hw13
  replace hoB := hoB.ext hw13
  replace hoL1 := hoL1.ext hw13
  replace hoF1 := hoF1.ext hw13
  replace hiF1 := hiF1.ext hw13
  replace hoI1 := hoI1.ext hw13
  obtain ⟨AI2, cI2, eI2_, hlcI2, hcmI2, _⟩ := Go.XK.Own.shape hoI2 (fun _ => rfl)
  subst eI2_
  refine Go.XK.s (v := .tuple #[.slice AI2 im2.length cI2, .int .i64 0]) (e_move rfl) ?_
  refine Go.XK.s (v := .slice AI2 im2.length cI2) (e_extract (vs := [.slice AI2 im2.length cI2, .int .i64 0]) rfl rfl) ?_
  refine Go.XK.s (v := .int .i64 0) (e_extract (vs := [.slice AI2 im2.length cI2, .int .i64 0]) rfl rfl) ?_
  refine Go.XK.s (v := .slice AI2 im2.length cI2) (e_assign rfl) ?_
  refine Go.XK.s (v := .int .i64 0) (e_assign rfl) ?_
  refine sl_nil (nrm_k ?_)
  refine sc_seq ?_
  refine sc_free [(7, .int .i64 0), (6, .slice AI2 im2.length cI2), (2, .int .i64 0), (5, .slice AI1 im1.length cI1), (4, .slice AF 2 cF)] (102 :: 103 :: 104 :: 105 :: 106 :: 107 :: 108 :: 109 :: 110 :: 111 :: 112 :: 113 :: 114 :: 115 :: 116 :: 117 :: 118 :: 119 :: 120 :: 121 :: 122 :: 123 :: 124 :: 125 :: 126 :: 127 :: 128 :: 129 :: 130 :: 131 :: 132 :: 133 :: 134 :: 135 :: 136 :: 137 :: 138 :: 139 :: 140 :: 141 :: 142 :: 143 :: 144 :: 145 :: 146 :: 147 :: 148 :: 149 :: 150 :: 151 :: 152 :: 153 :: 154 :: 155 :: 156 :: 157 :: 158 :: 159 :: 160 :: 161 :: 162 :: 163 :: 164 :: []) ((Is (.int .i64 0)) :: (Is (.bool (decide ((0 : Int) = 0)))) :: (Is (.bool (decide ((0 : Int) = 0)))) :: (Is (.int .i64 0)) :: (Is (.bool (decide ((0 : Int) = 0)))) :: (Is (.bool (decide ((0 : Int) = 0)))) :: (Is (.bool (decide ((0 : Int) = 0)))) :: (Is (.slice AI1 im1.length cI1)) :: (Is (.int .i64 (im1.length : Int))) :: (Is (.bool (decide ((im1.length : Int) = 34)))) :: (Is (.bool (decide ((im1.length : Int) = 34)))) :: (Is (.bool (decide ((im1.length : Int) = 34)))) :: (Is (.slice AI1 im1.length cI1)) :: (Is (.pointer (some (el (ownA (.slice AI1 im1.length cI1)) 1 33 0)))) :: (Is (.string (B C))) :: (Is (.string (B C))) :: (Is (.bool (decide (C = C)))) :: (Is (.bool (decide (C = C)))) :: (Is (.bool (decide (C = C)))) :: (Is (.slice AI1 im1.length cI1)) :: (Is (.pointer (some (el (ownA (.slice AI1 im1.length cI1)) 1 17 0)))) :: (Is (.string (B ([] : List UInt8)))) :: (Is (.bool (decide (([] : List UInt8) = [])))) :: (Is (.bool (decide (([] : List UInt8) = [])))) :: (Is (.bool (decide (([] : List UInt8) = [])))) :: (Is (.slice AI2 im2.length cI2)) :: (Is (.int .i64 (im2.length : Int))) :: (Is (.bool (decide ((im2.length : Int) = 28)))) :: (Is (.bool (decide ((im2.length : Int) = 28)))) :: (Is (.bool (decide ((im2.length : Int) = 28)))) :: (Is (.slice AI2 im2.length cI2)) :: (Is (.pointer (some (el (ownA (.slice AI2 im2.length cI2)) 1 26 0)))) :: (Is (.string (B S))) :: (Is (.string (B S))) :: (Is (.bool (decide (S = S)))) :: (Is (.bool (decide (S = S)))) :: (Is (.bool (decide (S = S)))) :: (Is (.slice AI2 im2.length cI2)) :: (Is (.pointer (some (el (ownA (.slice AI2 im2.length cI2)) 1 27 0)))) :: (Is (.string (B ([33] : List UInt8)))) :: (Is (.bool (decide (([33] : List UInt8) = [33])))) :: (Is (.bool (decide (([33] : List UInt8) = [33])))) :: (Is (.bool (decide (([33] : List UInt8) = [33])))) :: (Is (.slice AF 2 cF)) :: (Is (.bool true)) :: (Is (.bool true)) :: (Is (.bool true)) :: (Is (.slice AF 2 cF)) :: (Is (.int .i64 16)) :: (Is (.bool (decide ((16 : Int) = 16)))) :: (Is (.bool (decide ((16 : Int) = 16)))) :: (Is (.bool (decide ((16 : Int) = 16)))) :: (Is (.bool true)) :: (Is (.bool true)) :: (Is (.bool true)) :: (Is (.bool false)) :: (Is (.bool true)) :: (Is (.bool true)) :: (Is (.bool true)) :: (Is (.slice AI1 im1.length cI1)) :: (Is (.slice AF 2 cF)) :: (Is (.bool true)) :: (Is (.bool true)) :: []) [63] (by kernel_rfl) ((.cons rfl (.cons rfl (.cons rfl (.cons rfl (.cons rfl .nil)))))) (by kernel_rfl) (by kernel_rfl) (waits_of (Nat.le_of_ble_eq_true rfl) (by kernel_rfl)) rfl (by kernel_rfl) (ds_ext (Stays.spec (.is _ (.is _ (.is _ (.is _ (.is _ (.is _ (.is _ (.is _ (.is _ (.is _ (.is _ (.is _ (.is _ (.is _ (.is _ (.is _ (.is _ (.is _ (.is _ (.is _ (.is _ (.is _ (.is _ (.is _ (.is _ (.is _ (.is _ (.is _ (.is _ (.is _ (.is _ (.is _ (.is _ (.is _ (.is _ (.is _ (.is _ (.is _ (.is _ (.is _ (.is _ (.is _ (.is _ (.is _ (.is _ (.is _ (.is _ (.is _ (.is _ (.is _ (.is _ (.is _ (.is _ (.is _ (.is _ (.is _ (.is _ (.is _ (.is _ (.is _ (.is _ (.is _ (.is _ (.nil)))))))))))))))))))))))))))))))))))))))))))))))))))))))))))))))))) ?_ ?_
  · refine And.intro ?_ ?_
    · intro Q act_ wI hxI ha hp
      have xw_wI : Ext w wI := Ext.tr xw_w13 hxI
      replace hbw := hbw.ext hxI
      replace hb26 := hb26.ext hxI
      replace hb35 := hb35.ext hxI
      replace hop := hop.ext hxI
      replace hoB := hoB.ext hxI
      replace hoL1 := hoL1.ext hxI
      replace hoF1 := hoF1.ext hxI
      replace hiF1 := hiF1.ext hxI
      replace hoI1 := hoI1.ext hxI
      replace hoI2 := hoI2.ext hxI
      exact h_evA (v := .int .i64 0) ha rfl (e_move rfl) rfl rfl (Ext.rfl' _)
    refine And.intro ?_ ?_
    · intro Q act_ wI hxI ha hp
      have xw_wI : Ext w wI := Ext.tr xw_w13 hxI
      replace hbw := hbw.ext hxI
      replace hb26 := hb26.ext hxI
      replace hb35 := hb35.ext hxI
      replace hop := hop.ext hxI
      replace hoB := hoB.ext hxI
      replace hoL1 := hoL1.ext hxI
      replace hoF1 := hoF1.ext hxI
      replace hiF1 := hiF1.ext hxI
      replace hoI1 := hoI1.ext hxI
      replace hoI2 := hoI2.ext hxI
      have ha := ha.add (show act_.tmps.getD 102 undef = .int .i64 0 from hp 0 (by kernel_rfl) (by decide))
      exact h_evA (v := .bool (decide ((0 : Int) = 0))) ha rfl (e_eq rfl rfl) rfl rfl (Ext.rfl' _)
    refine And.intro ?_ ?_
    · intro Q act_ wI hxI ha hp
      have xw_wI : Ext w wI := Ext.tr xw_w13 hxI
      replace hbw := hbw.ext hxI
      replace hb26 := hb26.ext hxI
      replace hb35 := hb35.ext hxI
      replace hop := hop.ext hxI
      replace hoB := hoB.ext hxI
      replace hoL1 := hoL1.ext hxI
      replace hoF1 := hoF1.ext hxI
      replace hiF1 := hiF1.ext hxI
      replace hoI1 := hoI1.ext hxI
      replace hoI2 := hoI2.ext hxI
      have ha := ha.add (show act_.tmps.getD 103 undef = .bool (decide ((0 : Int) = 0)) from hp 1 (by kernel_rfl) (by decide))
      exact h_evA (v := .bool (decide ((0 : Int) = 0))) ha rfl (e_move rfl) rfl rfl (Ext.rfl' _)
    refine And.intro ?_ ?_
    · intro Q act_ wI hxI ha hp
      have xw_wI : Ext w wI := Ext.tr xw_w13 hxI
      replace hbw := hbw.ext hxI
      replace hb26 := hb26.ext hxI
      replace hb35 := hb35.ext hxI
      replace hop := hop.ext hxI
      replace hoB := hoB.ext hxI
      replace hoL1 := hoL1.ext hxI
      replace hoF1 := hoF1.ext hxI
      replace hiF1 := hiF1.ext hxI
      replace hoI1 := hoI1.ext hxI
      replace hoI2 := hoI2.ext hxI
      have ha := ha.add (show act_.tmps.getD 104 undef = .bool (decide ((0 : Int) = 0)) from hp 2 (by kernel_rfl) (by decide))
      exact h_gevA (v := .int .i64 0) ha rfl rfl rfl (by decide) (e_move rfl) rfl rfl (Ext.rfl' _)
    refine And.intro ?_ ?_
    · intro Q act_ wI hxI ha hp
      have xw_wI : Ext w wI := Ext.tr xw_w13 hxI
      replace hbw := hbw.ext hxI
      replace hb26 := hb26.ext hxI
      replace hb35 := hb35.ext hxI
      replace hop := hop.ext hxI
      replace hoB := hoB.ext hxI
      replace hoL1 := hoL1.ext hxI
      replace hoF1 := hoF1.ext hxI
      replace hiF1 := hiF1.ext hxI
      replace hoI1 := hoI1.ext hxI
      replace hoI2 := hoI2.ext hxI
      have ha := ha.add (show act_.tmps.getD 104 undef = .bool (decide ((0 : Int) = 0)) from hp 2 (by kernel_rfl) (by decide))
      have ha := ha.add (show act_.tmps.getD 105 undef = .int .i64 0 from hp 3 (by kernel_rfl) (by decide))
      exact h_gevA (v := .bool (decide ((0 : Int) = 0))) ha rfl rfl rfl (by decide) (e_eq rfl rfl) rfl rfl (Ext.rfl' _)
    refine And.intro ?_ ?_
    · intro Q act_ wI hxI ha hp
      have xw_wI : Ext w wI := Ext.tr xw_w13 hxI
      replace hbw := hbw.ext hxI
      replace hb26 := hb26.ext hxI
      replace hb35 := hb35.ext hxI
      replace hop := hop.ext hxI
      replace hoB := hoB.ext hxI
      replace hoL1 := hoL1.ext hxI
      replace hoF1 := hoF1.ext hxI
      replace hiF1 := hiF1.ext hxI
      replace hoI1 := hoI1.ext hxI
      replace hoI2 := hoI2.ext hxI
      have ha := ha.add (show act_.tmps.getD 104 undef = .bool (decide ((0 : Int) = 0)) from hp 2 (by kernel_rfl) (by decide))
      have ha := ha.add (show act_.tmps.getD 106 undef = .bool (decide ((0 : Int) = 0)) from hp 4 (by kernel_rfl) (by decide))
      exact h_evA (v := .bool (decide ((0 : Int) = 0))) ha rfl (e_pickT rfl (by decide) rfl) rfl rfl (Ext.rfl' _)
    refine And.intro ?_ ?_
    · intro Q act_ wI hxI ha hp
      have xw_wI : Ext w wI := Ext.tr xw_w13 hxI
      replace hbw := hbw.ext hxI
      replace hb26 := hb26.ext hxI
      replace hb35 := hb35.ext hxI
      replace hop := hop.ext hxI
      replace hoB := hoB.ext hxI
      replace hoL1 := hoL1.ext hxI
      replace hoF1 := hoF1.ext hxI
      replace hiF1 := hiF1.ext hxI
      replace hoI1 := hoI1.ext hxI
      replace hoI2 := hoI2.ext hxI
      have ha := ha.add (show act_.tmps.getD 107 undef = .bool (decide ((0 : Int) = 0)) from hp 5 (by kernel_rfl) (by decide))
      exact h_evA (v := .bool (decide ((0 : Int) = 0))) ha rfl (e_move rfl) rfl rfl (Ext.rfl' _)
    refine And.intro ?_ ?_
    · intro Q act_ wI hxI ha hp
      have xw_wI : Ext w wI := Ext.tr xw_w13 hxI
      replace hbw := hbw.ext hxI
      replace hb26 := hb26.ext hxI
      replace hb35 := hb35.ext hxI
      replace hop := hop.ext hxI
      replace hoB := hoB.ext hxI
      replace hoL1 := hoL1.ext hxI
      replace hoF1 := hoF1.ext hxI
      replace hiF1 := hiF1.ext hxI
      replace hoI1 := hoI1.ext hxI
      replace hoI2 := hoI2.ext hxI
      have ha := ha.add (show act_.tmps.getD 108 undef = .bool (decide ((0 : Int) = 0)) from hp 6 (by kernel_rfl) (by decide))
      exact h_gevA (v := .slice AI1 im1.length cI1) ha rfl rfl rfl (by decide) (e_move rfl) rfl rfl (Ext.rfl' _)
    refine And.intro ?_ ?_
    · intro Q act_ wI hxI ha hp
      have xw_wI : Ext w wI := Ext.tr xw_w13 hxI
      replace hbw := hbw.ext hxI
      replace hb26 := hb26.ext hxI
      replace hb35 := hb35.ext hxI
      replace hop := hop.ext hxI
      replace hoB := hoB.ext hxI
      replace hoL1 := hoL1.ext hxI
      replace hoF1 := hoF1.ext hxI
      replace hiF1 := hiF1.ext hxI
      replace hoI1 := hoI1.ext hxI
      replace hoI2 := hoI2.ext hxI
      have ha := ha.add (show act_.tmps.getD 108 undef = .bool (decide ((0 : Int) = 0)) from hp 6 (by kernel_rfl) (by decide))
      have ha := ha.add (show act_.tmps.getD 109 undef = .slice AI1 im1.length cI1 from hp 7 (by kernel_rfl) (by decide))
      exact h_gevA (v := .int .i64 (im1.length : Int)) ha rfl rfl rfl (by decide) (e_lenOwn Try.underlying23 rfl hoI1 (fun _ => rfl)) rfl rfl (Ext.rfl' _)
    refine And.intro ?_ ?_
    · intro Q act_ wI hxI ha hp
      have xw_wI : Ext w wI := Ext.tr xw_w13 hxI
      replace hbw := hbw.ext hxI
      replace hb26 := hb26.ext hxI
      replace hb35 := hb35.ext hxI
      replace hop := hop.ext hxI
      replace hoB := hoB.ext hxI
      replace hoL1 := hoL1.ext hxI
      replace hoF1 := hoF1.ext hxI
      replace hiF1 := hiF1.ext hxI
      replace hoI1 := hoI1.ext hxI
      replace hoI2 := hoI2.ext hxI
      have ha := ha.add (show act_.tmps.getD 108 undef = .bool (decide ((0 : Int) = 0)) from hp 6 (by kernel_rfl) (by decide))
      have ha := ha.add (show act_.tmps.getD 110 undef = .int .i64 (im1.length : Int) from hp 8 (by kernel_rfl) (by decide))
      exact h_gevA (v := .bool (decide ((im1.length : Int) = 34))) ha rfl rfl rfl (by decide) (e_eq rfl rfl) rfl rfl (Ext.rfl' _)
    refine And.intro ?_ ?_
    · intro Q act_ wI hxI ha hp
      have xw_wI : Ext w wI := Ext.tr xw_w13 hxI
      replace hbw := hbw.ext hxI
      replace hb26 := hb26.ext hxI
      replace hb35 := hb35.ext hxI
      replace hop := hop.ext hxI
      replace hoB := hoB.ext hxI
      replace hoL1 := hoL1.ext hxI
      replace hoF1 := hoF1.ext hxI
      replace hiF1 := hiF1.ext hxI
      replace hoI1 := hoI1.ext hxI
      replace hoI2 := hoI2.ext hxI
      have ha := ha.add (show act_.tmps.getD 108 undef = .bool (decide ((0 : Int) = 0)) from hp 6 (by kernel_rfl) (by decide))
      have ha := ha.add (show act_.tmps.getD 111 undef = .bool (decide ((im1.length : Int) = 34)) from hp 9 (by kernel_rfl) (by decide))
      exact h_evA (v := .bool (decide ((im1.length : Int) = 34))) ha rfl (e_pickT rfl (by decide) rfl) rfl rfl (Ext.rfl' _)
    refine And.intro ?_ ?_
    · intro Q act_ wI hxI ha hp
      have xw_wI : Ext w wI := Ext.tr xw_w13 hxI
      replace hbw := hbw.ext hxI
      replace hb26 := hb26.ext hxI
      replace hb35 := hb35.ext hxI
      replace hop := hop.ext hxI
      replace hoB := hoB.ext hxI
      replace hoL1 := hoL1.ext hxI
      replace hoF1 := hoF1.ext hxI
      replace hiF1 := hiF1.ext hxI
      replace hoI1 := hoI1.ext hxI
      replace hoI2 := hoI2.ext hxI
      have ha := ha.add (show act_.tmps.getD 112 undef = .bool (decide ((im1.length : Int) = 34)) from hp 10 (by kernel_rfl) (by decide))
      exact h_evA (v := .bool (decide ((im1.length : Int) = 34))) ha rfl (e_move rfl) rfl rfl (Ext.rfl' _)
    refine And.intro ?_ ?_
    · intro Q act_ wI hxI ha hp
      have xw_wI : Ext w wI := Ext.tr xw_w13 hxI
      replace hbw := hbw.ext hxI
      replace hb26 := hb26.ext hxI
      replace hb35 := hb35.ext hxI
      replace hop := hop.ext hxI
      replace hoB := hoB.ext hxI
      replace hoL1 := hoL1.ext hxI
      replace hoF1 := hoF1.ext hxI
      replace hiF1 := hiF1.ext hxI
      replace hoI1 := hoI1.ext hxI
      replace hoI2 := hoI2.ext hxI
      have ha := ha.add (show act_.tmps.getD 113 undef = .bool (decide ((im1.length : Int) = 34)) from hp 11 (by kernel_rfl) (by decide))
      exact h_gevA (v := .slice AI1 im1.length cI1) ha rfl rfl rfl (decide_eq_true (by omega)) (e_move rfl) rfl rfl (Ext.rfl' _)
    refine And.intro ?_ ?_
    · intro Q act_ wI hxI ha hp
      have xw_wI : Ext w wI := Ext.tr xw_w13 hxI
      replace hbw := hbw.ext hxI
      replace hb26 := hb26.ext hxI
      replace hb35 := hb35.ext hxI
      replace hop := hop.ext hxI
      replace hoB := hoB.ext hxI
      replace hoL1 := hoL1.ext hxI
      replace hoF1 := hoF1.ext hxI
      replace hiF1 := hiF1.ext hxI
      replace hoI1 := hoI1.ext hxI
      replace hoI2 := hoI2.ext hxI
      have ha := ha.add (show act_.tmps.getD 113 undef = .bool (decide ((im1.length : Int) = 34)) from hp 11 (by kernel_rfl) (by decide))
      have ha := ha.add (show act_.tmps.getD 114 undef = .slice AI1 im1.length cI1 from hp 12 (by kernel_rfl) (by decide))
      exact h_gevA (v := .pointer (some (el (ownA (.slice AI1 im1.length cI1)) 1 33 0))) ha rfl rfl rfl (decide_eq_true (by omega)) (e_idxOwn (x0 := C) Try.underlying23 Try.sizeOf9 rfl rfl hoI1 (fun _ => rfl) hg33 (by omega)) rfl rfl (Ext.rfl' _)
    refine And.intro ?_ ?_
    · intro Q act_ wI hxI ha hp
      have xw_wI : Ext w wI := Ext.tr xw_w13 hxI
      replace hbw := hbw.ext hxI
      replace hb26 := hb26.ext hxI
      replace hb35 := hb35.ext hxI
      replace hop := hop.ext hxI
      replace hoB := hoB.ext hxI
      replace hoL1 := hoL1.ext hxI
      replace hoF1 := hoF1.ext hxI
      replace hiF1 := hiF1.ext hxI
      replace hoI1 := hoI1.ext hxI
      replace hoI2 := hoI2.ext hxI
      have ha := ha.add (show act_.tmps.getD 113 undef = .bool (decide ((im1.length : Int) = 34)) from hp 11 (by kernel_rfl) (by decide))
      have ha := ha.add (show act_.tmps.getD 115 undef = .pointer (some (el (ownA (.slice AI1 im1.length cI1)) 1 33 0)) from hp 13 (by kernel_rfl) (by decide))
      exact h_gevA (v := .string (B C)) ha rfl rfl rfl (decide_eq_true (by omega)) (e_ldEl (xs := im1) (enc := encS) (e := C) rfl (Go.XK.Own.rd hoI1 (fun _ => rfl)) hg33 Try.isAgg9 rfl) rfl rfl (Ext.rfl' _)
    refine And.intro ?_ ?_
    · intro Q act_ wI hxI ha hp
      have xw_wI : Ext w wI := Ext.tr xw_w13 hxI
      replace hbw := hbw.ext hxI
      replace hb26 := hb26.ext hxI
      replace hb35 := hb35.ext hxI
      replace hop := hop.ext hxI
      replace hoB := hoB.ext hxI
      replace hoL1 := hoL1.ext hxI
      replace hoF1 := hoF1.ext hxI
      replace hiF1 := hiF1.ext hxI
      replace hoI1 := hoI1.ext hxI
      replace hoI2 := hoI2.ext hxI
      have ha := ha.add (show act_.tmps.getD 113 undef = .bool (decide ((im1.length : Int) = 34)) from hp 11 (by kernel_rfl) (by decide))
      exact h_gcallA ha ent24 rfl rfl rfl (decide_eq_true (by omega)) rfl rfl (block_d 99 wI (by decide) hC) rfl (by rintro _ w1 ⟨rfl, hR⟩; exact ⟨rfl, hR⟩)
    refine And.intro ?_ ?_
    · intro Q act_ wI hxI ha hp
      have xw_wI : Ext w wI := Ext.tr xw_w13 hxI
      replace hbw := hbw.ext hxI
      replace hb26 := hb26.ext hxI
      replace hb35 := hb35.ext hxI
      replace hop := hop.ext hxI
      replace hoB := hoB.ext hxI
      replace hoL1 := hoL1.ext hxI
      replace hoF1 := hoF1.ext hxI
      replace hiF1 := hiF1.ext hxI
      replace hoI1 := hoI1.ext hxI
      replace hoI2 := hoI2.ext hxI
      have ha := ha.add (show act_.tmps.getD 113 undef = .bool (decide ((im1.length : Int) = 34)) from hp 11 (by kernel_rfl) (by decide))
      have ha := ha.add (show act_.tmps.getD 116 undef = .string (B C) from hp 14 (by kernel_rfl) (by decide))
      have ha := ha.add (show act_.tmps.getD 117 undef = .string (B C) from hp 15 (by kernel_rfl) (by decide))
      exact h_gevA (v := .bool (decide (C = C))) ha rfl rfl rfl (decide_eq_true (by omega)) (e_seq rfl rfl) rfl rfl (Ext.rfl' _)
    refine And.intro ?_ ?_
    · intro Q act_ wI hxI ha hp
      have xw_wI : Ext w wI := Ext.tr xw_w13 hxI
      replace hbw := hbw.ext hxI
      replace hb26 := hb26.ext hxI
      replace hb35 := hb35.ext hxI
      replace hop := hop.ext hxI
      replace hoB := hoB.ext hxI
      replace hoL1 := hoL1.ext hxI
      replace hoF1 := hoF1.ext hxI
      replace hiF1 := hiF1.ext hxI
      replace hoI1 := hoI1.ext hxI
      replace hoI2 := hoI2.ext hxI
      have ha := ha.add (show act_.tmps.getD 113 undef = .bool (decide ((im1.length : Int) = 34)) from hp 11 (by kernel_rfl) (by decide))
      have ha := ha.add (show act_.tmps.getD 118 undef = .bool (decide (C = C)) from hp 16 (by kernel_rfl) (by decide))
      exact h_evA (v := .bool (decide (C = C))) ha rfl (e_pickT rfl (decide_eq_true (by omega)) rfl) rfl rfl (Ext.rfl' _)
    refine And.intro ?_ ?_
    · intro Q act_ wI hxI ha hp
      have xw_wI : Ext w wI := Ext.tr xw_w13 hxI
      replace hbw := hbw.ext hxI
      replace hb26 := hb26.ext hxI
      replace hb35 := hb35.ext hxI
      replace hop := hop.ext hxI
      replace hoB := hoB.ext hxI
      replace hoL1 := hoL1.ext hxI
      replace hoF1 := hoF1.ext hxI
      replace hiF1 := hiF1.ext hxI
      replace hoI1 := hoI1.ext hxI
      replace hoI2 := hoI2.ext hxI
      have ha := ha.add (show act_.tmps.getD 119 undef = .bool (decide (C = C)) from hp 17 (by kernel_rfl) (by decide))
      exact h_evA (v := .bool (decide (C = C))) ha rfl (e_move rfl) rfl rfl (Ext.rfl' _)
    refine And.intro ?_ ?_
    · intro Q act_ wI hxI ha hp
      have xw_wI : Ext w wI := Ext.tr xw_w13 hxI
      replace hbw := hbw.ext hxI
      replace hb26 := hb26.ext hxI
      replace hb35 := hb35.ext hxI
      replace hop := hop.ext hxI
      replace hoB := hoB.ext hxI
      replace hoL1 := hoL1.ext hxI
      replace hoF1 := hoF1.ext hxI
      replace hiF1 := hiF1.ext hxI
      replace hoI1 := hoI1.ext hxI
      replace hoI2 := hoI2.ext hxI
      have ha := ha.add (show act_.tmps.getD 120 undef = .bool (decide (C = C)) from hp 18 (by kernel_rfl) (by decide))
      exact h_gevA (v := .slice AI1 im1.length cI1) ha rfl rfl rfl (decide_eq_true (rfl)) (e_move rfl) rfl rfl (Ext.rfl' _)
    refine And.intro ?_ ?_
    · intro Q act_ wI hxI ha hp
      have xw_wI : Ext w wI := Ext.tr xw_w13 hxI
      replace hbw := hbw.ext hxI
      replace hb26 := hb26.ext hxI
      replace hb35 := hb35.ext hxI
      replace hop := hop.ext hxI
      replace hoB := hoB.ext hxI
      replace hoL1 := hoL1.ext hxI
      replace hoF1 := hoF1.ext hxI
      replace hiF1 := hiF1.ext hxI
      replace hoI1 := hoI1.ext hxI
      replace hoI2 := hoI2.ext hxI
      have ha := ha.add (show act_.tmps.getD 120 undef = .bool (decide (C = C)) from hp 18 (by kernel_rfl) (by decide))
      have ha := ha.add (show act_.tmps.getD 121 undef = .slice AI1 im1.length cI1 from hp 19 (by kernel_rfl) (by decide))
      exact h_gevA (v := .pointer (some (el (ownA (.slice AI1 im1.length cI1)) 1 17 0))) ha rfl rfl rfl (decide_eq_true (rfl)) (e_idxOwn (x0 := ([] : List UInt8)) Try.underlying23 Try.sizeOf9 rfl rfl hoI1 (fun _ => rfl) hg17 (by omega)) rfl rfl (Ext.rfl' _)
    refine And.intro ?_ ?_
    · intro Q act_ wI hxI ha hp
      have xw_wI : Ext w wI := Ext.tr xw_w13 hxI
      replace hbw := hbw.ext hxI
      replace hb26 := hb26.ext hxI
      replace hb35 := hb35.ext hxI
      replace hop := hop.ext hxI
      replace hoB := hoB.ext hxI
      replace hoL1 := hoL1.ext hxI
      replace hoF1 := hoF1.ext hxI
      replace hiF1 := hiF1.ext hxI
      replace hoI1 := hoI1.ext hxI
      replace hoI2 := hoI2.ext hxI
      have ha := ha.add (show act_.tmps.getD 120 undef = .bool (decide (C = C)) from hp 18 (by kernel_rfl) (by decide))
      have ha := ha.add (show act_.tmps.getD 122 undef = .pointer (some (el (ownA (.slice AI1 im1.length cI1)) 1 17 0)) from hp 20 (by kernel_rfl) (by decide))
      exact h_gevA (v := .string (B ([] : List UInt8))) ha rfl rfl rfl (decide_eq_true (rfl)) (e_ldEl (xs := im1) (enc := encS) (e := ([] : List UInt8)) rfl (Go.XK.Own.rd hoI1 (fun _ => rfl)) hg17 Try.isAgg9 rfl) rfl rfl (Ext.rfl' _)
    refine And.intro ?_ ?_
    · intro Q act_ wI hxI ha hp
      have xw_wI : Ext w wI := Ext.tr xw_w13 hxI
      replace hbw := hbw.ext hxI
      replace hb26 := hb26.ext hxI
      replace hb35 := hb35.ext hxI
      replace hop := hop.ext hxI
      replace hoB := hoB.ext hxI
      replace hoL1 := hoL1.ext hxI
      replace hoF1 := hoF1.ext hxI
      replace hiF1 := hiF1.ext hxI
      replace hoI1 := hoI1.ext hxI
      replace hoI2 := hoI2.ext hxI
      have ha := ha.add (show act_.tmps.getD 120 undef = .bool (decide (C = C)) from hp 18 (by kernel_rfl) (by decide))
      have ha := ha.add (show act_.tmps.getD 123 undef = .string (B ([] : List UInt8)) from hp 21 (by kernel_rfl) (by decide))
      exact h_gevA (v := .bool (decide (([] : List UInt8) = []))) ha rfl rfl rfl (decide_eq_true (rfl)) (e_seq rfl rfl) rfl rfl (Ext.rfl' _)
    refine And.intro ?_ ?_
    · intro Q act_ wI hxI ha hp
      have xw_wI : Ext w wI := Ext.tr xw_w13 hxI
      replace hbw := hbw.ext hxI
      replace hb26 := hb26.ext hxI
      replace hb35 := hb35.ext hxI
      replace hop := hop.ext hxI
      replace hoB := hoB.ext hxI
      replace hoL1 := hoL1.ext hxI
      replace hoF1 := hoF1.ext hxI
      replace hiF1 := hiF1.ext hxI
      replace hoI1 := hoI1.ext hxI
      replace hoI2 := hoI2.ext hxI
      have ha := ha.add (show act_.tmps.getD 120 undef = .bool (decide (C = C)) from hp 18 (by kernel_rfl) (by decide))
      have ha := ha.add (show act_.tmps.getD 124 undef = .bool (decide (([] : List UInt8) = [])) from hp 22 (by kernel_rfl) (by decide))
      exact h_evA (v := .bool (decide (([] : List UInt8) = []))) ha rfl (e_pickT rfl (decide_eq_true (rfl)) rfl) rfl rfl (Ext.rfl' _)
    refine And.intro ?_ ?_
    · intro Q act_ wI hxI ha hp
      have xw_wI : Ext w wI := Ext.tr xw_w13 hxI
      replace hbw := hbw.ext hxI
      replace hb26 := hb26.ext hxI
      replace hb35 := hb35.ext hxI
      replace hop := hop.ext hxI
      replace hoB := hoB.ext hxI
      replace hoL1 := hoL1.ext hxI
      replace hoF1 := hoF1.ext hxI
      replace hiF1 := hiF1.ext hxI
      replace hoI1 := hoI1.ext hxI
      replace hoI2 := hoI2.ext hxI
      have ha := ha.add (show act_.tmps.getD 125 undef = .bool (decide (([] : List UInt8) = [])) from hp 23 (by kernel_rfl) (by decide))
      exact h_evA (v := .bool (decide (([] : List UInt8) = []))) ha rfl (e_move rfl) rfl rfl (Ext.rfl' _)
    refine And.intro ?_ ?_
    · intro Q act_ wI hxI ha hp
      have xw_wI : Ext w wI := Ext.tr xw_w13 hxI
      replace hbw := hbw.ext hxI
      replace hb26 := hb26.ext hxI
      replace hb35 := hb35.ext hxI
      replace hop := hop.ext hxI
      replace hoB := hoB.ext hxI
      replace hoL1 := hoL1.ext hxI
      replace hoF1 := hoF1.ext hxI
      replace hiF1 := hiF1.ext hxI
      replace hoI1 := hoI1.ext hxI
      replace hoI2 := hoI2.ext hxI
      have ha := ha.add (show act_.tmps.getD 126 undef = .bool (decide (([] : List UInt8) = [])) from hp 24 (by kernel_rfl) (by decide))
      exact h_gevA (v := .slice AI2 im2.length cI2) ha rfl rfl rfl (decide_eq_true (rfl)) (e_move rfl) rfl rfl (Ext.rfl' _)
    refine And.intro ?_ ?_
    · intro Q act_ wI hxI ha hp
      have xw_wI : Ext w wI := Ext.tr xw_w13 hxI
      replace hbw := hbw.ext hxI
      replace hb26 := hb26.ext hxI
      replace hb35 := hb35.ext hxI
      replace hop := hop.ext hxI
      replace hoB := hoB.ext hxI
      replace hoL1 := hoL1.ext hxI
      replace hoF1 := hoF1.ext hxI
      replace hiF1 := hiF1.ext hxI
      replace hoI1 := hoI1.ext hxI
      replace hoI2 := hoI2.ext hxI
      have ha := ha.add (show act_.tmps.getD 126 undef = .bool (decide (([] : List UInt8) = [])) from hp 24 (by kernel_rfl) (by decide))
      have ha := ha.add (show act_.tmps.getD 127 undef = .slice AI2 im2.length cI2 from hp 25 (by kernel_rfl) (by decide))
      exact h_gevA (v := .int .i64 (im2.length : Int)) ha rfl rfl rfl (decide_eq_true (rfl)) (e_lenOwn Try.underlying23 rfl hoI2 (fun _ => rfl)) rfl rfl (Ext.rfl' _)
    refine And.intro ?_ ?_
    · intro Q act_ wI hxI ha hp
      have xw_wI : Ext w wI := Ext.tr xw_w13 hxI
      replace hbw := hbw.ext hxI
      replace hb26 := hb26.ext hxI
      replace hb35 := hb35.ext hxI
      replace hop := hop.ext hxI
      replace hoB := hoB.ext hxI
      replace hoL1 := hoL1.ext hxI
      replace hoF1 := hoF1.ext hxI
      replace hiF1 := hiF1.ext hxI
      replace hoI1 := hoI1.ext hxI
      replace hoI2 := hoI2.ext hxI
      have ha := ha.add (show act_.tmps.getD 126 undef = .bool (decide (([] : List UInt8) = [])) from hp 24 (by kernel_rfl) (by decide))
      have ha := ha.add (show act_.tmps.getD 128 undef = .int .i64 (im2.length : Int) from hp 26 (by kernel_rfl) (by decide))
      exact h_gevA (v := .bool (decide ((im2.length : Int) = 28))) ha rfl rfl rfl (decide_eq_true (rfl)) (e_eq rfl rfl) rfl rfl (Ext.rfl' _)
    refine And.intro ?_ ?_
    · intro Q act_ wI hxI ha hp
      have xw_wI : Ext w wI := Ext.tr xw_w13 hxI
      replace hbw := hbw.ext hxI
      replace hb26 := hb26.ext hxI
      replace hb35 := hb35.ext hxI
      replace hop := hop.ext hxI
      replace hoB := hoB.ext hxI
      replace hoL1 := hoL1.ext hxI
      replace hoF1 := hoF1.ext hxI
      replace hiF1 := hiF1.ext hxI
      replace hoI1 := hoI1.ext hxI
      replace hoI2 := hoI2.ext hxI
      have ha := ha.add (show act_.tmps.getD 126 undef = .bool (decide (([] : List UInt8) = [])) from hp 24 (by kernel_rfl) (by decide))
      have ha := ha.add (show act_.tmps.getD 129 undef = .bool (decide ((im2.length : Int) = 28)) from hp 27 (by kernel_rfl) (by decide))
      exact h_evA (v := .bool (decide ((im2.length : Int) = 28))) ha rfl (e_pickT rfl (decide_eq_true (rfl)) rfl) rfl rfl (Ext.rfl' _)
    refine And.intro ?_ ?_
    · intro Q act_ wI hxI ha hp
      have xw_wI : Ext w wI := Ext.tr xw_w13 hxI
      replace hbw := hbw.ext hxI
      replace hb26 := hb26.ext hxI
      replace hb35 := hb35.ext hxI
      replace hop := hop.ext hxI
      replace hoB := hoB.ext hxI
      replace hoL1 := hoL1.ext hxI
      replace hoF1 := hoF1.ext hxI
      replace hiF1 := hiF1.ext hxI
      replace hoI1 := hoI1.ext hxI
      replace hoI2 := hoI2.ext hxI
      have ha := ha.add (show act_.tmps.getD 130 undef = .bool (decide ((im2.length : Int) = 28)) from hp 28 (by kernel_rfl) (by decide))
      exact h_evA (v := .bool (decide ((im2.length : Int) = 28))) ha rfl (e_move rfl) rfl rfl (Ext.rfl' _)
    refine And.intro ?_ ?_
    · intro Q act_ wI hxI ha hp
      have xw_wI : Ext w wI := Ext.tr xw_w13 hxI
      replace hbw := hbw.ext hxI
      replace hb26 := hb26.ext hxI
      replace hb35 := hb35.ext hxI
      replace hop := hop.ext hxI
      replace hoB := hoB.ext hxI
      replace hoL1 := hoL1.ext hxI
      replace hoF1 := hoF1.ext hxI
      replace hiF1 := hiF1.ext hxI
      replace hoI1 := hoI1.ext hxI
      replace hoI2 := hoI2.ext hxI
      have ha := ha.add (show act_.tmps.getD 131 undef = .bool (decide ((im2.length : Int) = 28)) from hp 29 (by kernel_rfl) (by decide))
      exact h_gevA (v := .slice AI2 im2.length cI2) ha rfl rfl rfl (decide_eq_true (by omega)) (e_move rfl) rfl rfl (Ext.rfl' _)
    refine And.intro ?_ ?_
    · intro Q act_ wI hxI ha hp
      have xw_wI : Ext w wI := Ext.tr xw_w13 hxI
      replace hbw := hbw.ext hxI
      replace hb26 := hb26.ext hxI
      replace hb35 := hb35.ext hxI
      replace hop := hop.ext hxI
      replace hoB := hoB.ext hxI
      replace hoL1 := hoL1.ext hxI
      replace hoF1 := hoF1.ext hxI
      replace hiF1 := hiF1.ext hxI
      replace hoI1 := hoI1.ext hxI
      replace hoI2 := hoI2.ext hxI
      have ha := ha.add (show act_.tmps.getD 131 undef = .bool (decide ((im2.length : Int) = 28)) from hp 29 (by kernel_rfl) (by decide))
      have ha := ha.add (show act_.tmps.getD 132 undef = .slice AI2 im2.length cI2 from hp 30 (by kernel_rfl) (by decide))
      exact h_gevA (v := .pointer (some (el (ownA (.slice AI2 im2.length cI2)) 1 26 0))) ha rfl rfl rfl (decide_eq_true (by omega)) (e_idxOwn (x0 := S) Try.underlying23 Try.sizeOf9 rfl rfl hoI2 (fun _ => rfl) hg26 (by omega)) rfl rfl (Ext.rfl' _)
    refine And.intro ?_ ?_
    · intro Q act_ wI hxI ha hp
      have xw_wI : Ext w wI := Ext.tr xw_w13 hxI
      replace hbw := hbw.ext hxI
      replace hb26 := hb26.ext hxI
      replace hb35 := hb35.ext hxI
      replace hop := hop.ext hxI
      replace hoB := hoB.ext hxI
      replace hoL1 := hoL1.ext hxI
      replace hoF1 := hoF1.ext hxI
      replace hiF1 := hiF1.ext hxI
      replace hoI1 := hoI1.ext hxI
      replace hoI2 := hoI2.ext hxI
      have ha := ha.add (show act_.tmps.getD 131 undef = .bool (decide ((im2.length : Int) = 28)) from hp 29 (by kernel_rfl) (by decide))
      have ha := ha.add (show act_.tmps.getD 133 undef = .pointer (some (el (ownA (.slice AI2 im2.length cI2)) 1 26 0)) from hp 31 (by kernel_rfl) (by decide))
      exact h_gevA (v := .string (B S)) ha rfl rfl rfl (decide_eq_true (by omega)) (e_ldEl (xs := im2) (enc := encS) (e := S) rfl (Go.XK.Own.rd hoI2 (fun _ => rfl)) hg26 Try.isAgg9 rfl) rfl rfl (Ext.rfl' _)
    refine And.intro ?_ ?_
    · intro Q act_ wI hxI ha hp
      have xw_wI : Ext w wI := Ext.tr xw_w13 hxI
      replace hbw := hbw.ext hxI
      replace hb26 := hb26.ext hxI
      replace hb35 := hb35.ext hxI
      replace hop := hop.ext hxI
      replace hoB := hoB.ext hxI
      replace hoL1 := hoL1.ext hxI
      replace hoF1 := hoF1.ext hxI
      replace hiF1 := hiF1.ext hxI
      replace hoI1 := hoI1.ext hxI
      replace hoI2 := hoI2.ext hxI
      have ha := ha.add (show act_.tmps.getD 131 undef = .bool (decide ((im2.length : Int) = 28)) from hp 29 (by kernel_rfl) (by decide))
      exact h_gcallA ha ent24 rfl rfl rfl (decide_eq_true (by omega)) rfl rfl (block_d 97 wI (by decide) hS) rfl (by rintro _ w1 ⟨rfl, hR⟩; exact ⟨rfl, hR⟩)
    refine And.intro ?_ ?_
    · intro Q act_ wI hxI ha hp
      have xw_wI : Ext w wI := Ext.tr xw_w13 hxI
      replace hbw := hbw.ext hxI
      replace hb26 := hb26.ext hxI
      replace hb35 := hb35.ext hxI
      replace hop := hop.ext hxI
      replace hoB := hoB.ext hxI
      replace hoL1 := hoL1.ext hxI
      replace hoF1 := hoF1.ext hxI
      replace hiF1 := hiF1.ext hxI
      replace hoI1 := hoI1.ext hxI
      replace hoI2 := hoI2.ext hxI
      have ha := ha.add (show act_.tmps.getD 131 undef = .bool (decide ((im2.length : Int) = 28)) from hp 29 (by kernel_rfl) (by decide))
      have ha := ha.add (show act_.tmps.getD 134 undef = .string (B S) from hp 32 (by kernel_rfl) (by decide))
      have ha := ha.add (show act_.tmps.getD 135 undef = .string (B S) from hp 33 (by kernel_rfl) (by decide))
      exact h_gevA (v := .bool (decide (S = S))) ha rfl rfl rfl (decide_eq_true (by omega)) (e_seq rfl rfl) rfl rfl (Ext.rfl' _)
    refine And.intro ?_ ?_
    · intro Q act_ wI hxI ha hp
      have xw_wI : Ext w wI := Ext.tr xw_w13 hxI
      replace hbw := hbw.ext hxI
      replace hb26 := hb26.ext hxI
      replace hb35 := hb35.ext hxI
      replace hop := hop.ext hxI
      replace hoB := hoB.ext hxI
      replace hoL1 := hoL1.ext hxI
      replace hoF1 := hoF1.ext hxI
      replace hiF1 := hiF1.ext hxI
      replace hoI1 := hoI1.ext hxI
      replace hoI2 := hoI2.ext hxI
      have ha := ha.add (show act_.tmps.getD 131 undef = .bool (decide ((im2.length : Int) = 28)) from hp 29 (by kernel_rfl) (by decide))
      have ha := ha.add (show act_.tmps.getD 136 undef = .bool (decide (S = S)) from hp 34 (by kernel_rfl) (by decide))
      exact h_evA (v := .bool (decide (S = S))) ha rfl (e_pickT rfl (decide_eq_true (by omega)) rfl) rfl rfl (Ext.rfl' _)
    refine And.intro ?_ ?_
    · intro Q act_ wI hxI ha hp
      have xw_wI : Ext w wI := Ext.tr xw_w13 hxI
      replace hbw := hbw.ext hxI
      replace hb26 := hb26.ext hxI
      replace hb35 := hb35.ext hxI
      replace hop := hop.ext hxI
      replace hoB := hoB.ext hxI
      replace hoL1 := hoL1.ext hxI
      replace hoF1 := hoF1.ext hxI
      replace hiF1 := hiF1.ext hxI
      replace hoI1 := hoI1.ext hxI
      replace hoI2 := hoI2.ext hxI
      have ha := ha.add (show act_.tmps.getD 137 undef = .bool (decide (S = S)) from hp 35 (by kernel_rfl) (by decide))
      exact h_evA (v := .bool (decide (S = S))) ha rfl (e_move rfl) rfl rfl (Ext.rfl' _)
    refine And.intro ?_ ?_
    · intro Q act_ wI hxI ha hp
      have xw_wI : Ext w wI := Ext.tr xw_w13 hxI
      replace hbw := hbw.ext hxI
      replace hb26 := hb26.ext hxI
      replace hb35 := hb35.ext hxI
      replace hop := hop.ext hxI
      replace hoB := hoB.ext hxI
      replace hoL1 := hoL1.ext hxI
      replace hoF1 := hoF1.ext hxI
      replace hiF1 := hiF1.ext hxI
      replace hoI1 := hoI1.ext hxI
      replace hoI2 := hoI2.ext hxI
      have ha := ha.add (show act_.tmps.getD 138 undef = .bool (decide (S = S)) from hp 36 (by kernel_rfl) (by decide))
      exact h_gevA (v := .slice AI2 im2.length cI2) ha rfl rfl rfl (decide_eq_true (rfl)) (e_move rfl) rfl rfl (Ext.rfl' _)
    refine And.intro ?_ ?_
    · intro Q act_ wI hxI ha hp
      have xw_wI : Ext w wI := Ext.tr xw_w13 hxI
      replace hbw := hbw.ext hxI
      replace hb26 := hb26.ext hxI
      replace hb35 := hb35.ext hxI
      replace hop := hop.ext hxI
      replace hoB := hoB.ext hxI
      replace hoL1 := hoL1.ext hxI
      replace hoF1 := hoF1.ext hxI
      replace hiF1 := hiF1.ext hxI
      replace hoI1 := hoI1.ext hxI
      replace hoI2 := hoI2.ext hxI
      have ha := ha.add (show act_.tmps.getD 138 undef = .bool (decide (S = S)) from hp 36 (by kernel_rfl) (by decide))
      have ha := ha.add (show act_.tmps.getD 139 undef = .slice AI2 im2.length cI2 from hp 37 (by kernel_rfl) (by decide))
      exact h_gevA (v := .pointer (some (el (ownA (.slice AI2 im2.length cI2)) 1 27 0))) ha rfl rfl rfl (decide_eq_true (rfl)) (e_idxOwn (x0 := ([33] : List UInt8)) Try.underlying23 Try.sizeOf9 rfl rfl hoI2 (fun _ => rfl) hg27 (by omega)) rfl rfl (Ext.rfl' _)
    refine And.intro ?_ ?_
    · intro Q act_ wI hxI ha hp
      have xw_wI : Ext w wI := Ext.tr xw_w13 hxI
      replace hbw := hbw.ext hxI
      replace hb26 := hb26.ext hxI
      replace hb35 := hb35.ext hxI
      replace hop := hop.ext hxI
      replace hoB := hoB.ext hxI
      replace hoL1 := hoL1.ext hxI
      replace hoF1 := hoF1.ext hxI
      replace hiF1 := hiF1.ext hxI
      replace hoI1 := hoI1.ext hxI
      replace hoI2 := hoI2.ext hxI
      have ha := ha.add (show act_.tmps.getD 138 undef = .bool (decide (S = S)) from hp 36 (by kernel_rfl) (by decide))
      have ha := ha.add (show act_.tmps.getD 140 undef = .pointer (some (el (ownA (.slice AI2 im2.length cI2)) 1 27 0)) from hp 38 (by kernel_rfl) (by decide))
      exact h_gevA (v := .string (B ([33] : List UInt8))) ha rfl rfl rfl (decide_eq_true (rfl)) (e_ldEl (xs := im2) (enc := encS) (e := ([33] : List UInt8)) rfl (Go.XK.Own.rd hoI2 (fun _ => rfl)) hg27 Try.isAgg9 rfl) rfl rfl (Ext.rfl' _)
    refine And.intro ?_ ?_
    · intro Q act_ wI hxI ha hp
      have xw_wI : Ext w wI := Ext.tr xw_w13 hxI
      replace hbw := hbw.ext hxI
      replace hb26 := hb26.ext hxI
      replace hb35 := hb35.ext hxI
      replace hop := hop.ext hxI
      replace hoB := hoB.ext hxI
      replace hoL1 := hoL1.ext hxI
      replace hoF1 := hoF1.ext hxI
      replace hiF1 := hiF1.ext hxI
      replace hoI1 := hoI1.ext hxI
      replace hoI2 := hoI2.ext hxI
      have ha := ha.add (show act_.tmps.getD 138 undef = .bool (decide (S = S)) from hp 36 (by kernel_rfl) (by decide))
      have ha := ha.add (show act_.tmps.getD 141 undef = .string (B ([33] : List UInt8)) from hp 39 (by kernel_rfl) (by decide))
      exact h_gevA (v := .bool (decide (([33] : List UInt8) = [33]))) ha rfl rfl rfl (decide_eq_true (rfl)) (e_seq rfl rfl) rfl rfl (Ext.rfl' _)
    refine And.intro ?_ ?_
    · intro Q act_ wI hxI ha hp
      have xw_wI : Ext w wI := Ext.tr xw_w13 hxI
      replace hbw := hbw.ext hxI
      replace hb26 := hb26.ext hxI
      replace hb35 := hb35.ext hxI
      replace hop := hop.ext hxI
      replace hoB := hoB.ext hxI
      replace hoL1 := hoL1.ext hxI
      replace hoF1 := hoF1.ext hxI
      replace hiF1 := hiF1.ext hxI
      replace hoI1 := hoI1.ext hxI
      replace hoI2 := hoI2.ext hxI
      have ha := ha.add (show act_.tmps.getD 138 undef = .bool (decide (S = S)) from hp 36 (by kernel_rfl) (by decide))
      have ha := ha.add (show act_.tmps.getD 142 undef = .bool (decide (([33] : List UInt8) = [33])) from hp 40 (by kernel_rfl) (by decide))
      exact h_evA (v := .bool (decide (([33] : List UInt8) = [33]))) ha rfl (e_pickT rfl (decide_eq_true (rfl)) rfl) rfl rfl (Ext.rfl' _)
    refine And.intro ?_ ?_
    · intro Q act_ wI hxI ha hp
      have xw_wI : Ext w wI := Ext.tr xw_w13 hxI
      replace hbw := hbw.ext hxI
      replace hb26 := hb26.ext hxI
      replace hb35 := hb35.ext hxI
      replace hop := hop.ext hxI
      replace hoB := hoB.ext hxI
      replace hoL1 := hoL1.ext hxI
      replace hoF1 := hoF1.ext hxI
      replace hiF1 := hiF1.ext hxI
      replace hoI1 := hoI1.ext hxI
      replace hoI2 := hoI2.ext hxI
      have ha := ha.add (show act_.tmps.getD 143 undef = .bool (decide (([33] : List UInt8) = [33])) from hp 41 (by kernel_rfl) (by decide))
      exact h_evA (v := .bool (decide (([33] : List UInt8) = [33]))) ha rfl (e_move rfl) rfl rfl (Ext.rfl' _)
    refine And.intro ?_ ?_
    · intro Q act_ wI hxI ha hp
      have xw_wI : Ext w wI := Ext.tr xw_w13 hxI
      replace hbw := hbw.ext hxI
      replace hb26 := hb26.ext hxI
      replace hb35 := hb35.ext hxI
      replace hop := hop.ext hxI
      replace hoB := hoB.ext hxI
      replace hoL1 := hoL1.ext hxI
      replace hoF1 := hoF1.ext hxI
      replace hiF1 := hiF1.ext hxI
      replace hoI1 := hoI1.ext hxI
      replace hoI2 := hoI2.ext hxI
      have ha := ha.add (show act_.tmps.getD 144 undef = .bool (decide (([33] : List UInt8) = [33])) from hp 42 (by kernel_rfl) (by decide))
      exact h_gevA (v := .slice AF 2 cF) ha rfl rfl rfl (decide_eq_true (rfl)) (e_move rfl) rfl rfl (Ext.rfl' _)
    refine And.intro ?_ ?_
    · intro Q act_ wI hxI ha hp
      have xw_wI : Ext w wI := Ext.tr xw_w13 hxI
      replace hbw := hbw.ext hxI
      replace hb26 := hb26.ext hxI
      replace hb35 := hb35.ext hxI
      replace hop := hop.ext hxI
      replace hoB := hoB.ext hxI
      replace hoL1 := hoL1.ext hxI
      replace hoF1 := hoF1.ext hxI
      replace hiF1 := hiF1.ext hxI
      replace hoI1 := hoI1.ext hxI
      replace hoI2 := hoI2.ext hxI
      have ha := ha.add (show act_.tmps.getD 144 undef = .bool (decide (([33] : List UInt8) = [33])) from hp 42 (by kernel_rfl) (by decide))
      have ha := ha.add (show act_.tmps.getD 145 undef = .slice AF 2 cF from hp 43 (by kernel_rfl) (by decide))
      exact h_gcallA ha ent20 rfl rfl rfl (decide_eq_true (rfl)) rfl rfl ((callB (aw_once hSl hzl hCl) (once_c _ _ _ _ _ _ wI (SlR.nil _) (Go.XK.Own.slr hoF1 (fun _ => rfl)) hiF1))) rfl (by rintro _ w1 ⟨rfl, hR⟩; exact ⟨rfl, hR⟩)
    refine And.intro ?_ ?_
    · intro Q act_ wI hxI ha hp
      have xw_wI : Ext w wI := Ext.tr xw_w13 hxI
      replace hbw := hbw.ext hxI
      replace hb26 := hb26.ext hxI
      replace hb35 := hb35.ext hxI
      replace hop := hop.ext hxI
      replace hoB := hoB.ext hxI
      replace hoL1 := hoL1.ext hxI
      replace hoF1 := hoF1.ext hxI
      replace hiF1 := hiF1.ext hxI
      replace hoI1 := hoI1.ext hxI
      replace hoI2 := hoI2.ext hxI
      have ha := ha.add (show act_.tmps.getD 144 undef = .bool (decide (([33] : List UInt8) = [33])) from hp 42 (by kernel_rfl) (by decide))
      have ha := ha.add (show act_.tmps.getD 146 undef = .bool true from hp 44 (by kernel_rfl) (by decide))
      exact h_evA (v := .bool true) ha rfl (e_pickT rfl (decide_eq_true (rfl)) rfl) rfl rfl (Ext.rfl' _)
    refine And.intro ?_ ?_
    · intro Q act_ wI hxI ha hp
      have xw_wI : Ext w wI := Ext.tr xw_w13 hxI
      replace hbw := hbw.ext hxI
      replace hb26 := hb26.ext hxI
      replace hb35 := hb35.ext hxI
      replace hop := hop.ext hxI
      replace hoB := hoB.ext hxI
      replace hoL1 := hoL1.ext hxI
      replace hoF1 := hoF1.ext hxI
      replace hiF1 := hiF1.ext hxI
      replace hoI1 := hoI1.ext hxI
      replace hoI2 := hoI2.ext hxI
      have ha := ha.add (show act_.tmps.getD 147 undef = .bool true from hp 45 (by kernel_rfl) (by decide))
      exact h_evA (v := .bool true) ha rfl (e_move rfl) rfl rfl (Ext.rfl' _)
    refine And.intro ?_ ?_
    · intro Q act_ wI hxI ha hp
      have xw_wI : Ext w wI := Ext.tr xw_w13 hxI
      replace hbw := hbw.ext hxI
      replace hb26 := hb26.ext hxI
      replace hb35 := hb35.ext hxI
      replace hop := hop.ext hxI
      replace hoB := hoB.ext hxI
      replace hoL1 := hoL1.ext hxI
      replace hoF1 := hoF1.ext hxI
      replace hiF1 := hiF1.ext hxI
      replace hoI1 := hoI1.ext hxI
      replace hoI2 := hoI2.ext hxI
      have ha := ha.add (show act_.tmps.getD 148 undef = .bool true from hp 46 (by kernel_rfl) (by decide))
      exact h_gevA (v := .slice AF 2 cF) ha rfl rfl rfl rfl (e_move rfl) rfl rfl (Ext.rfl' _)
    refine And.intro ?_ ?_
    · intro Q act_ wI hxI ha hp
      have xw_wI : Ext w wI := Ext.tr xw_w13 hxI
      replace hbw := hbw.ext hxI
      replace hb26 := hb26.ext hxI
      replace hb35 := hb35.ext hxI
      replace hop := hop.ext hxI
      replace hoB := hoB.ext hxI
      replace hoL1 := hoL1.ext hxI
      replace hoF1 := hoF1.ext hxI
      replace hiF1 := hiF1.ext hxI
      replace hoI1 := hoI1.ext hxI
      replace hoI2 := hoI2.ext hxI
      have ha := ha.add (show act_.tmps.getD 148 undef = .bool true from hp 46 (by kernel_rfl) (by decide))
      have ha := ha.add (show act_.tmps.getD 149 undef = .slice AF 2 cF from hp 47 (by kernel_rfl) (by decide))
      exact h_gcallA ha ent19 rfl rfl rfl rfl rfl rfl ((callI aw_steps16 (steps2_c _ _ _ wI (Go.XK.Own.slr hoF1 (fun _ => rfl)) hiF1 (by rw [aw_steps]; decide)))) rfl (by rintro _ w1 ⟨rfl, hR⟩; exact ⟨rfl, hR⟩)
    refine And.intro ?_ ?_
    · intro Q act_ wI hxI ha hp
      have xw_wI : Ext w wI := Ext.tr xw_w13 hxI
      replace hbw := hbw.ext hxI
      replace hb26 := hb26.ext hxI
      replace hb35 := hb35.ext hxI
      replace hop := hop.ext hxI
      replace hoB := hoB.ext hxI
      replace hoL1 := hoL1.ext hxI
      replace hoF1 := hoF1.ext hxI
      replace hiF1 := hiF1.ext hxI
      replace hoI1 := hoI1.ext hxI
      replace hoI2 := hoI2.ext hxI
      have ha := ha.add (show act_.tmps.getD 148 undef = .bool true from hp 46 (by kernel_rfl) (by decide))
      have ha := ha.add (show act_.tmps.getD 150 undef = .int .i64 16 from hp 48 (by kernel_rfl) (by decide))
      exact h_gevA (v := .bool (decide ((16 : Int) = 16))) ha rfl rfl rfl rfl (e_eq rfl rfl) rfl rfl (Ext.rfl' _)
    refine And.intro ?_ ?_
    · intro Q act_ wI hxI ha hp
      have xw_wI : Ext w wI := Ext.tr xw_w13 hxI
      replace hbw := hbw.ext hxI
      replace hb26 := hb26.ext hxI
      replace hb35 := hb35.ext hxI
      replace hop := hop.ext hxI
      replace hoB := hoB.ext hxI
      replace hoL1 := hoL1.ext hxI
      replace hoF1 := hoF1.ext hxI
      replace hiF1 := hiF1.ext hxI
      replace hoI1 := hoI1.ext hxI
      replace hoI2 := hoI2.ext hxI
      have ha := ha.add (show act_.tmps.getD 148 undef = .bool true from hp 46 (by kernel_rfl) (by decide))
      have ha := ha.add (show act_.tmps.getD 151 undef = .bool (decide ((16 : Int) = 16)) from hp 49 (by kernel_rfl) (by decide))
      exact h_evA (v := .bool (decide ((16 : Int) = 16))) ha rfl (e_pickT rfl rfl rfl) rfl rfl (Ext.rfl' _)
    refine And.intro ?_ ?_
    · intro Q act_ wI hxI ha hp
      have xw_wI : Ext w wI := Ext.tr xw_w13 hxI
      replace hbw := hbw.ext hxI
      replace hb26 := hb26.ext hxI
      replace hb35 := hb35.ext hxI
      replace hop := hop.ext hxI
      replace hoB := hoB.ext hxI
      replace hoL1 := hoL1.ext hxI
      replace hoF1 := hoF1.ext hxI
      replace hiF1 := hiF1.ext hxI
      replace hoI1 := hoI1.ext hxI
      replace hoI2 := hoI2.ext hxI
      have ha := ha.add (show act_.tmps.getD 152 undef = .bool (decide ((16 : Int) = 16)) from hp 50 (by kernel_rfl) (by decide))
      exact h_evA (v := .bool (decide ((16 : Int) = 16))) ha rfl (e_move rfl) rfl rfl (Ext.rfl' _)
    refine And.intro ?_ ?_
    · intro Q act_ wI hxI ha hp
      have xw_wI : Ext w wI := Ext.tr xw_w13 hxI
      replace hbw := hbw.ext hxI
      replace hb26 := hb26.ext hxI
      replace hb35 := hb35.ext hxI
      replace hop := hop.ext hxI
      replace hoB := hoB.ext hxI
      replace hoL1 := hoL1.ext hxI
      replace hoF1 := hoF1.ext hxI
      replace hiF1 := hiF1.ext hxI
      replace hoI1 := hoI1.ext hxI
      replace hoI2 := hoI2.ext hxI
      have ha := ha.add (show act_.tmps.getD 153 undef = .bool (decide ((16 : Int) = 16)) from hp 51 (by kernel_rfl) (by decide))
      exact h_gcallA ha ent28 rfl rfl rfl (by decide) rfl rfl (callB (show usbl 10 16 = true from by decide) (usable_c 10 16 wI (by decide) (by decide))) rfl (by rintro _ w1 ⟨rfl, hR⟩; exact ⟨rfl, hR⟩)
    refine And.intro ?_ ?_
    · intro Q act_ wI hxI ha hp
      have xw_wI : Ext w wI := Ext.tr xw_w13 hxI
      replace hbw := hbw.ext hxI
      replace hb26 := hb26.ext hxI
      replace hb35 := hb35.ext hxI
      replace hop := hop.ext hxI
      replace hoB := hoB.ext hxI
      replace hoL1 := hoL1.ext hxI
      replace hoF1 := hoF1.ext hxI
      replace hiF1 := hiF1.ext hxI
      replace hoI1 := hoI1.ext hxI
      replace hoI2 := hoI2.ext hxI
      have ha := ha.add (show act_.tmps.getD 153 undef = .bool (decide ((16 : Int) = 16)) from hp 51 (by kernel_rfl) (by decide))
      have ha := ha.add (show act_.tmps.getD 154 undef = .bool true from hp 52 (by kernel_rfl) (by decide))
      exact h_evA (v := .bool true) ha rfl (e_pickT rfl (by decide) rfl) rfl rfl (Ext.rfl' _)
    refine And.intro ?_ ?_
    · intro Q act_ wI hxI ha hp
      have xw_wI : Ext w wI := Ext.tr xw_w13 hxI
      replace hbw := hbw.ext hxI
      replace hb26 := hb26.ext hxI
      replace hb35 := hb35.ext hxI
      replace hop := hop.ext hxI
      replace hoB := hoB.ext hxI
      replace hoL1 := hoL1.ext hxI
      replace hoF1 := hoF1.ext hxI
      replace hiF1 := hiF1.ext hxI
      replace hoI1 := hoI1.ext hxI
      replace hoI2 := hoI2.ext hxI
      have ha := ha.add (show act_.tmps.getD 155 undef = .bool true from hp 53 (by kernel_rfl) (by decide))
      exact h_evA (v := .bool true) ha rfl (e_move rfl) rfl rfl (Ext.rfl' _)
    refine And.intro ?_ ?_
    · intro Q act_ wI hxI ha hp
      have xw_wI : Ext w wI := Ext.tr xw_w13 hxI
      replace hbw := hbw.ext hxI
      replace hb26 := hb26.ext hxI
      replace hb35 := hb35.ext hxI
      replace hop := hop.ext hxI
      replace hoB := hoB.ext hxI
      replace hoL1 := hoL1.ext hxI
      replace hoF1 := hoF1.ext hxI
      replace hiF1 := hiF1.ext hxI
      replace hoI1 := hoI1.ext hxI
      replace hoI2 := hoI2.ext hxI
      have ha := ha.add (show act_.tmps.getD 156 undef = .bool true from hp 54 (by kernel_rfl) (by decide))
      exact h_gcallA ha ent28 rfl rfl rfl rfl rfl rfl (callB (show usbl 10 17 = false from by decide) (usable_c 10 17 wI (by decide) (by decide))) rfl (by rintro _ w1 ⟨rfl, hR⟩; exact ⟨rfl, hR⟩)
    refine And.intro ?_ ?_
    · intro Q act_ wI hxI ha hp
      have xw_wI : Ext w wI := Ext.tr xw_w13 hxI
      replace hbw := hbw.ext hxI
      replace hb26 := hb26.ext hxI
      replace hb35 := hb35.ext hxI
      replace hop := hop.ext hxI
      replace hoB := hoB.ext hxI
      replace hoL1 := hoL1.ext hxI
      replace hoF1 := hoF1.ext hxI
      replace hiF1 := hiF1.ext hxI
      replace hoI1 := hoI1.ext hxI
      replace hoI2 := hoI2.ext hxI
      have ha := ha.add (show act_.tmps.getD 156 undef = .bool true from hp 54 (by kernel_rfl) (by decide))
      have ha := ha.add (show act_.tmps.getD 157 undef = .bool false from hp 55 (by kernel_rfl) (by decide))
      exact h_gevA (v := .bool true) ha rfl rfl rfl rfl (e_not (b := false) rfl) rfl rfl (Ext.rfl' _)
    refine And.intro ?_ ?_
    · intro Q act_ wI hxI ha hp
      have xw_wI : Ext w wI := Ext.tr xw_w13 hxI
      replace hbw := hbw.ext hxI
      replace hb26 := hb26.ext hxI
      replace hb35 := hb35.ext hxI
      replace hop := hop.ext hxI
      replace hoB := hoB.ext hxI
      replace hoL1 := hoL1.ext hxI
      replace hoF1 := hoF1.ext hxI
      replace hiF1 := hiF1.ext hxI
      replace hoI1 := hoI1.ext hxI
      replace hoI2 := hoI2.ext hxI
      have ha := ha.add (show act_.tmps.getD 156 undef = .bool true from hp 54 (by kernel_rfl) (by decide))
      have ha := ha.add (show act_.tmps.getD 158 undef = .bool true from hp 56 (by kernel_rfl) (by decide))
      exact h_evA (v := .bool true) ha rfl (e_pickT rfl rfl rfl) rfl rfl (Ext.rfl' _)
    refine And.intro ?_ ?_
    · intro Q act_ wI hxI ha hp
      have xw_wI : Ext w wI := Ext.tr xw_w13 hxI
      replace hbw := hbw.ext hxI
      replace hb26 := hb26.ext hxI
      replace hb35 := hb35.ext hxI
      replace hop := hop.ext hxI
      replace hoB := hoB.ext hxI
      replace hoL1 := hoL1.ext hxI
      replace hoF1 := hoF1.ext hxI
      replace hiF1 := hiF1.ext hxI
      replace hoI1 := hoI1.ext hxI
      replace hoI2 := hoI2.ext hxI
      have ha := ha.add (show act_.tmps.getD 159 undef = .bool true from hp 57 (by kernel_rfl) (by decide))
      exact h_evA (v := .bool true) ha rfl (e_move rfl) rfl rfl (Ext.rfl' _)
    refine And.intro ?_ ?_
    · intro Q act_ wI hxI ha hp
      have xw_wI : Ext w wI := Ext.tr xw_w13 hxI
      replace hbw := hbw.ext hxI
      replace hb26 := hb26.ext hxI
      replace hb35 := hb35.ext hxI
      replace hop := hop.ext hxI
      replace hoB := hoB.ext hxI
      replace hoL1 := hoL1.ext hxI
      replace hoF1 := hoF1.ext hxI
      replace hiF1 := hiF1.ext hxI
      replace hoI1 := hoI1.ext hxI
      replace hoI2 := hoI2.ext hxI
      have ha := ha.add (show act_.tmps.getD 160 undef = .bool true from hp 58 (by kernel_rfl) (by decide))
      exact h_gevA (v := .slice AI1 im1.length cI1) ha rfl rfl rfl rfl (e_move rfl) rfl rfl (Ext.rfl' _)
    refine And.intro ?_ ?_
    · intro Q act_ wI hxI ha hp
      have xw_wI : Ext w wI := Ext.tr xw_w13 hxI
      replace hbw := hbw.ext hxI
      replace hb26 := hb26.ext hxI
      replace hb35 := hb35.ext hxI
      replace hop := hop.ext hxI
      replace hoB := hoB.ext hxI
      replace hoL1 := hoL1.ext hxI
      replace hoF1 := hoF1.ext hxI
      replace hiF1 := hiF1.ext hxI
      replace hoI1 := hoI1.ext hxI
      replace hoI2 := hoI2.ext hxI
      have ha := ha.add (show act_.tmps.getD 160 undef = .bool true from hp 58 (by kernel_rfl) (by decide))
      exact h_gevA (v := .slice AF 2 cF) ha rfl rfl rfl rfl (e_move rfl) rfl rfl (Ext.rfl' _)
    refine And.intro ?_ ?_
    · intro Q act_ wI hxI ha hp
      have xw_wI : Ext w wI := Ext.tr xw_w13 hxI
      replace hbw := hbw.ext hxI
      replace hb26 := hb26.ext hxI
      replace hb35 := hb35.ext hxI
      replace hop := hop.ext hxI
      replace hoB := hoB.ext hxI
      replace hoL1 := hoL1.ext hxI
      replace hoF1 := hoF1.ext hxI
      replace hiF1 := hiF1.ext hxI
      replace hoI1 := hoI1.ext hxI
      replace hoI2 := hoI2.ext hxI
      have ha := ha.add (show act_.tmps.getD 160 undef = .bool true from hp 58 (by kernel_rfl) (by decide))
      have ha := ha.add (show act_.tmps.getD 161 undef = .slice AI1 im1.length cI1 from hp 59 (by kernel_rfl) (by decide))
      have ha := ha.add (show act_.tmps.getD 162 undef = .slice AF 2 cF from hp 60 (by kernel_rfl) (by decide))
      exact h_gcallA ha ent17 rfl rfl rfl rfl rfl rfl ((callB hvr (valid_c _ _ _ _ _ _ wI (Go.XK.Own.slr hoI1 (fun _ => rfl)) (Go.XK.Own.slr hoF1 (fun _ => rfl)) hiF1))) rfl (by rintro _ w1 ⟨rfl, hR⟩; exact ⟨rfl, hR⟩)
    refine And.intro ?_ ?_
    · intro Q act_ wI hxI ha hp
      have xw_wI : Ext w wI := Ext.tr xw_w13 hxI
      replace hbw := hbw.ext hxI
      replace hb26 := hb26.ext hxI
      replace hb35 := hb35.ext hxI
      replace hop := hop.ext hxI
      replace hoB := hoB.ext hxI
      replace hoL1 := hoL1.ext hxI
      replace hoF1 := hoF1.ext hxI
      replace hiF1 := hiF1.ext hxI
      replace hoI1 := hoI1.ext hxI
      replace hoI2 := hoI2.ext hxI
      have ha := ha.add (show act_.tmps.getD 160 undef = .bool true from hp 58 (by kernel_rfl) (by decide))
      have ha := ha.add (show act_.tmps.getD 163 undef = .bool true from hp 61 (by kernel_rfl) (by decide))
      exact h_evA (v := .bool true) ha rfl (e_pickT rfl rfl rfl) rfl rfl (Ext.rfl' _)
    trivial
  intro vs_ w14 hx_w14 hvs act_ ha hv
  have xw_w14 : Ext w w14 := Ext.tr xw_w13 hx_w14
  replace hbw := hbw.ext hx_w14
  replace hb26 := hb26.ext hx_w14
  replace hb35 := hb35.ext hx_w14
  replace hop := hop.ext hx_w14
  replace hoB := hoB.ext hx_w14
  replace hoL1 := hoL1.ext hx_w14
  replace hoF1 := hoF1.ext hx_w14
  replace hiF1 := hiF1.ext hx_w14
  replace hoI1 := hoI1.ext hx_w14
  replace hoI2 := hoI2.ext hx_w14
  have ha := ha.add ((hv 62 (by decide)).trans (show vs_ 62 = .bool true from hvs 62 (by decide)))
  refine st_go ha ?_
  clear ha hv hvs
  refine st_ev (v := .bool true) rfl (e_assign rfl) ?_
  refine st_nil (nrm_k ?_)
  refine sc_retf rfl (ret1 Try.results11 (rvt rfl) ?_)
  exact ⟨rfl, xw_w14⟩

end Go.Proofs.Ytfcjianiodiejaa
