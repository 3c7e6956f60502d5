/- Chapter 52: C8. Printed by my program wip/tools/wk.py. -/
import Derived.Test.YtfcjianiodiejaaC7
set_option linter.unusedVariables false
set_option linter.unusedSimpArgs false
set_option maxRecDepth 4000
set_option maxHeartbeats 4000000
namespace Go.Proofs.Ytfcjianiodiejaa
open Go.XK Go.RowKit
theorem mul1_c (c : Nat) (w : World) (hc : c ≤ 1000000) : CallR Try.prog 77 [.int .u64 1, .int .u64 (c : Int)] w (fun v w' => v = .tuple #[.int .u64 0, .int .u64 (c : Int)] ∧ Ext w w') := by
  have h := Try.bits_Mul 1 c (by decide) (by omega) w
  rw [Nat.one_mul, Nat.div_eq_of_lt (by omega), Nat.mod_eq_of_lt (by omega)] at h
  exact Calls.mono h fun e w' he => ⟨_, he.1, rfl, by rw [he.2]; exact Ext.rfl' _⟩
def repC (n c : Nat) (s : List UInt8) : List Value := List.replicate n (.string (B s)) ++ List.replicate (c - n) (.string (B []))
theorem repC_length {n c : Nat} {s : List UInt8} (h : n ≤ c) : (repC n c s).length = c := by simp [repC]; omega
theorem repC_first (c : Nat) (s : List UInt8) : (List.replicate c (.string (B [])) : List Value).take 0 ++ List.replicate 1 (.string (B s)) ++ (List.replicate c (.string (B []))).drop (0 + 1) = repC 1 c s := by
  simp [repC, List.drop_replicate]
theorem repC_next {n c : Nat} {s : List UInt8} (h : n ≤ c) : (repC n c s).take n ++ List.replicate (min n (c - n)) (.string (B s)) ++ (repC n c s).drop (n + min n (c - n)) = repC (n + min n (c - n)) c s := by
  have h1 : (repC n c s).take n = List.replicate n (.string (B s)) := by rw [repC, List.take_left' (by simp)]
  have h2 : (repC n c s).drop (n + min n (c - n)) = List.replicate (c - (n + min n (c - n))) (.string (B [])) := by
    rw [repC, List.drop_append, List.drop_eq_nil_of_le (by simp), List.nil_append, List.drop_replicate, List.length_replicate]
    congr 1; omega
  rw [h1, h2, List.replicate_append_replicate]; rfl
theorem repC_get {n c j : Nat} {s : List UInt8} (h : j < n) : (repC n c s)[j]? = some (.string (B s)) := by
  rw [repC, List.getElem?_append_left (by simpa using h), List.getElem?_replicate, if_pos h]
theorem repC_full (c : Nat) (s : List UInt8) : repC c c s = (List.replicate c s).flatMap encS := by
  rw [repC, Nat.sub_self, rep_flat (fun s => .string (B s)) encS (fun _ => rfl)]; simp
theorem rep_one {n : Nat} {s : List UInt8} : ∀ v ∈ (List.replicate n (.string (B s)) : List Value), v.oneCell' = true := fun v hv => by rw [(List.mem_replicate.1 hv).2]; rfl

/-- slices.Repeat[[]string,string] (function 56) -/
theorem repeat_c (s : List UInt8) (ad : Addr) (c0 c : Nat) (w : World) (hl : SlR w (some ad) c0 1 encS [s]) (hc : c ≤ 1000000) (hc1 : 1 ≤ c) : CallR Try.prog 56 [.slice (some ad) 1 c0, .int .i64 (c : Int)] w (fun v w' => Go.XK.Own w' w.heap.size 9 1 encS v (List.replicate c s) ∧ Ext w w') := by
  refine callR_of (n := 48) [(0, .slice (some ad) 1 c0), (1, .int .i64 (c : Int))] Try.func56 rfl rfl (Nat.le_of_ble_eq_true rfl) rfl ?_
  refine sc_seq ?_
  refine sc_reg ?_
  refine Go.XK.s (v := .slice none 0 0) (e_assign rfl) ?_
  refine sl_nil (nrm_k ?_)
  refine sc_seq ?_
  refine sc_seq ?_
  refine sc_reg ?_
  refine Go.XK.s (v := .int .i64 (c : Int)) (e_move rfl) ?_
  refine Go.XK.s (v := .bool (decide ((c : Int) < 0))) (e_lt rfl rfl) ?_
  refine sl_nil (nrm_k ?_)
  refine sc_ifd rfl (fun c10 => ?_) (fun c10 => ?_)
  ·
    exact absurd c10 (by omega)--closed
  ·
    refine sc_skip (nrm_k ?_)
    refine sc_seq ?_
    refine sc_reg ?_
    refine Go.XK.s (v := .slice (some ad) 1 c0) (e_move rfl) ?_
    refine Go.XK.s (v := .int .i64 1) (e_len Try.underlying22 rfl) ?_
    refine Go.XK.s (v := .int .u64 1) (e_conv Try.underlying3 Try.underlying132 rfl (by decide)) ?_
    refine Go.XK.s (v := .int .i64 (c : Int)) (e_move rfl) ?_
    refine Go.XK.s (v := .int .u64 (c : Int)) (e_conv Try.underlying3 Try.underlying132 rfl (IntWalk.u64_in _ ⟨by omega, by omega⟩)) ?_
    refine sl_call ent77 rfl rfl (mul1_c c w hc) (by decide) ?_
    rintro _ w1 ⟨rfl, hw1⟩
    have xw_w1 : Ext w w1 := Ext.tr (Ext.rfl' w) hw1
    refine Go.XK.s (v := .tuple #[.int .u64 0, .int .u64 (c : Int)]) (e_move rfl) ?_
    refine Go.XK.s (v := .int .u64 0) (e_extract (vs := [.int .u64 0, .int .u64 (c : Int)]) rfl rfl) ?_
    refine Go.XK.s (v := .int .u64 (c : Int)) (e_extract (vs := [.int .u64 0, .int .u64 (c : Int)]) rfl rfl) ?_
    refine Go.XK.s (v := .int .u64 0) (e_assign rfl) ?_
    refine Go.XK.s (v := .int .u64 (c : Int)) (e_assign rfl) ?_
    refine sl_nil (nrm_k ?_)
    refine sc_seq ?_
    refine sc_seq ?_
    refine sc_reg ?_
    refine Go.XK.s (v := .int .u64 0) (e_move rfl) ?_
    refine Go.XK.s (v := .bool (decide ((0 : Int) < 0))) (e_gt rfl rfl) ?_
    refine Go.XK.s (v := .bool (decide ((0 : Int) < 0))) (e_move rfl) ?_
    refine sl_gev (v := .int .u64 (c : Int)) rfl rfl (by decide) (e_move rfl) rfl (by decide) ?_
    refine sl_gev (v := .bool (decide ((9223372036854775807 : Int) < (c : Int)))) rfl rfl (by decide) (e_gt rfl rfl) rfl (by decide) ?_
    refine Go.XK.s (v := .bool (decide ((9223372036854775807 : Int) < (c : Int)))) (e_pickF rfl (by decide) rfl) ?_
    refine sl_nil (nrm_k ?_)
    refine sc_ifd rfl (fun c26 => ?_) (fun c26 => ?_)
    ·
      exact absurd c26 (by omega)--closed
    ·
      refine sc_skip (nrm_k ?_)
      refine sc_seq ?_
      refine sc_reg ?_
      refine Go.XK.s (v := .int .u64 (c : Int)) (e_move rfl) ?_
      refine Go.XK.s (v := .int .i64 (c : Int)) (e_conv Try.underlying132 Try.underlying3 rfl (i64_id (by omega) (by omega))) ?_
      refine s_make1 (m := c) (z := .string (B [])) (bytes := 16) rfl rfl Try.underlying22 (by kernel_rfl) rfl (by first | (simp only [maxLen]; omega) | omega) (by first | (simp only [maxLen]; omega) | omega) ?_
      intro b30 w2 hb30 he30 hs30 hx30
      have ge_b30 : w.heap.size ≤ b30 := by have h_ := (Below.size xw_w1); omega
      have xw_w2 : Ext w w2 := Ext.tr xw_w1 hx30
      refine Go.XK.s (v := .slice (some ⟨b30, 0, none⟩) c c) (e_assign rfl) ?_
      refine sl_nil (nrm_k ?_)
      refine sc_seq ?_
      refine sc_reg ?_
      refine Go.XK.s (v := .slice (some ⟨b30, 0, none⟩) c c) (e_move rfl) ?_
      refine Go.XK.s (v := .slice (some ad) 1 c0) (e_move rfl) ?_
      refine s_copyX (List.replicate 1 (.string (B s))) 1 (repC 1 c s) rfl rfl hb30 Try.underlying22 (by kernel_rfl) List.length_replicate (show 1 = min 1 c by omega) (fun j v hj => by
        have hj1 : j < 1 := by simpa using (List.getElem?_eq_some_iff.1 hj).1
        have hj0 : j = 0 := by omega
        subst hj0
        rw [List.getElem?_replicate, if_pos hj1] at hj
        obtain rfl := Option.some.inj hj
        obtain ⟨ad2, hA2, hcl⟩ := (hl.1.ext xw_w2).at_ (j := 0) (x := s) rfl
        obtain rfl := Option.some.inj hA2
        exact hcl 0 _ rfl) (by rw [List.length_replicate]; omega) rep_one (repC_first c s) ?_
      intro wC1 hn_ hmC1 hsC1
      have ho_ := hb30
      replace hb30 := hn_
      clear hn_
      have xw_wC1 : Ext w wC1 := below_mut xw_w2 (Below.size xw_w2) hmC1 ge_b30
      refine Go.XK.s (v := .int .i64 1) (e_assign rfl) ?_
      refine sl_nil (nrm_k ?_)
      refine sc_seq ?_
      refine sc_block ?_
      refine sc_loop (fun m_ l_ w_ => ∃ (n : Nat), m_ = c - n ∧ l_ = [(8, .int .i64 (n : Int)), (0, .slice (some ad) 1 c0), (7, .slice (some ⟨b30, 0, none⟩) c c)] ∧ Ext w w_ ∧ Blk w_ b30 9 (repC n c s) ∧ n ≤ c ∧ 1 ≤ n) _ [(8, .int .i64 (1 : Int)), (0, .slice (some ad) 1 c0), (7, .slice (some ⟨b30, 0, none⟩) c c)] ⟨1, rfl, rfl, xw_wC1, hb30, ⟨by omega, by omega⟩⟩ (.cons rfl (.cons rfl (.cons rfl (.nil)))) ?_
      rintro j4 _ w3 ⟨n, rfl, rfl, xw_w3, hb30, ⟨hn1, hn2⟩⟩
      refine sc_seq ?_
      refine sc_seq ?_
      refine sc_reg ?_
      refine Go.XK.s (v := .int .i64 (n : Int)) (e_move rfl) ?_
      refine Go.XK.s (v := .slice (some ⟨b30, 0, none⟩) c c) (e_move rfl) ?_
      refine Go.XK.s (v := .int .i64 (c : Int)) (e_len Try.underlying22 rfl) ?_
      refine Go.XK.s (v := .bool (decide ((n : Int) < (c : Int)))) (e_lt rfl rfl) ?_
      refine sl_nil (nrm_k ?_)
      refine sc_ifd rfl (fun c37 => ?_) (fun c37 => ?_)
      ·
        refine sc_skip (nrm_k ?_)
        refine sc_block ?_
        refine sc_late [(37, .bool (decide ((n : Int) < (c : Int)))), (36, .int .i64 (c : Int)), (35, .slice (some ⟨b30, 0, none⟩) c c), (34, .int .i64 (n : Int)), (8, .int .i64 (n : Int)), (0, .slice (some ad) 1 c0), (7, .slice (some ⟨b30, 0, none⟩) c c)] [38, 39, 40, 41, 42, 43, 44] [(Is (.int .i64 (n : Int))), (Is (.slice (some ⟨b30, 0, none⟩) c c)), (Is (.int .i64 (n : Int))), (Is (.slice (some ⟨b30, n, none⟩) (c - n) (c - n))), (Is (.slice (some ⟨b30, 0, none⟩) c c)), (Is (.int .i64 (n : Int))), (Is (.slice (some ⟨b30, 0, none⟩) n c))] [7, 8, 9] [1, 2, 3, 4, 5, 6] [0] (by kernel_rfl) (Sub.refl _) (by kernel_rfl) (by kernel_rfl) (by kernel_rfl) (by kernel_rfl) rfl (by kernel_rfl) (ds_ext (Stays.spec (.is _ (.is _ (.is _ (.is _ (.is _ (.is _ (.is _ (.nil)))))))))) ⟨?_, ?_, ?_, ?_, ?_, ?_, trivial⟩ ⟨?_, trivial⟩ ?_
        · intro Q act_ wI hxI ha hp
          have xw_wI : Ext w wI := Ext.tr xw_w3 hxI
          replace hb30 := hb30.ext hxI
          exact h_evA (v := .slice (some ⟨b30, 0, none⟩) c c) ha rfl (e_move rfl) rfl rfl (Ext.rfl' _)
        · intro Q act_ wI hxI ha hp
          have xw_wI : Ext w wI := Ext.tr xw_w3 hxI
          replace hb30 := hb30.ext hxI
          exact h_evA (v := .int .i64 (n : Int)) ha rfl (e_move rfl) rfl rfl (Ext.rfl' _)
        · intro Q act_ wI hxI ha hp
          have xw_wI : Ext w wI := Ext.tr xw_w3 hxI
          replace hb30 := hb30.ext hxI
          have ha := ha.add (show act_.tmps.getD 39 undef = .slice (some ⟨b30, 0, none⟩) c c from hp 1 (by kernel_rfl) (by decide))
          have ha := ha.add (show act_.tmps.getD 40 undef = .int .i64 (n : Int) from hp 2 (by kernel_rfl) (by decide))
          exact h_evA (v := .slice (some ⟨b30, n, none⟩) (c - n) (c - n)) ha rfl (e_slLo n Try.underlying22 Try.sizeOf9 rfl rfl (by omega)) rfl rfl (Ext.rfl' _)
        · intro Q act_ wI hxI ha hp
          have xw_wI : Ext w wI := Ext.tr xw_w3 hxI
          replace hb30 := hb30.ext hxI
          exact h_evA (v := .slice (some ⟨b30, 0, none⟩) c c) ha rfl (e_move rfl) rfl rfl (Ext.rfl' _)
        · intro Q act_ wI hxI ha hp
          have xw_wI : Ext w wI := Ext.tr xw_w3 hxI
          replace hb30 := hb30.ext hxI
          exact h_evA (v := .int .i64 (n : Int)) ha rfl (e_move rfl) rfl rfl (Ext.rfl' _)
        · intro Q act_ wI hxI ha hp
          have xw_wI : Ext w wI := Ext.tr xw_w3 hxI
          replace hb30 := hb30.ext hxI
          have ha := ha.add (show act_.tmps.getD 42 undef = .slice (some ⟨b30, 0, none⟩) c c from hp 4 (by kernel_rfl) (by decide))
          have ha := ha.add (show act_.tmps.getD 43 undef = .int .i64 (n : Int) from hp 5 (by kernel_rfl) (by decide))
          exact h_evA (v := .slice (some ⟨b30, 0, none⟩) n c) ha rfl (e_slHi n Try.underlying22 Try.sizeOf9 rfl rfl (by omega)) rfl rfl (Ext.rfl' _)
        · intro act_ wI hxI ha hp
          have xw_wI : Ext w wI := Ext.tr xw_w3 hxI
          replace hb30 := hb30.ext hxI
          exact l_ev (v := .int .i64 (n : Int)) ha rfl (fun _ => e_move rfl) rfl rfl
        intro vs_ w5 hx_w5 hvs act_ ha hv
        have xw_w5 : Ext w w5 := Ext.tr xw_w3 hx_w5
        replace hb30 := hb30.ext hx_w5
        have ha := ha.add ((hv 0 (by decide)).trans (show vs_ 0 = .int .i64 (n : Int) from hvs 0 (by decide)))
        have ha := ha.add ((hv 3 (by decide)).trans (show vs_ 3 = .slice (some ⟨b30, n, none⟩) (c - n) (c - n) from hvs 3 (by decide)))
        have ha := ha.add ((hv 6 (by decide)).trans (show vs_ 6 = .slice (some ⟨b30, 0, none⟩) n c from hvs 6 (by decide)))
        refine st_go ha ?_
        clear ha hv hvs
        refine st_copyX (List.replicate (min n (c - n)) (.string (B s))) (min n (c - n)) (repC (n + min n (c - n)) c s) rfl rfl rfl hb30 Try.underlying22 (by kernel_rfl) List.length_replicate rfl (fun j v hj => by
          have hj1 : j < min n (c - n) := by simpa using (List.getElem?_eq_some_iff.1 hj).1
          rw [List.getElem?_replicate, if_pos hj1] at hj
          rw [add0, Nat.zero_add]
          exact hb30.cell (by rw [repC_get (by omega)]; exact hj)) (by rw [repC_length (by omega)]; omega) rep_one (repC_next (by omega)) ?_
        intro wC2 hn_ hmC2 hsC2
        have ho_ := hb30
        replace hb30 := hn_
        clear hn_
        have xw_wC2 : Ext w wC2 := below_mut xw_w5 (Below.size xw_w5) hmC2 ge_b30
        refine st_ev (v := .int .i64 ((n : Int) + ((min n (c - n) : Nat) : Int))) rfl (e_add rfl rfl (by omega)) ?_
        refine st_ev (v := .int .i64 ((n : Int) + ((min n (c - n) : Nat) : Int))) rfl (e_assign rfl) ?_
        refine st_nil ?_
        exact nrm_loopq rfl _ _ (by omega) ⟨n + min n (c - n), rfl, rfl, xw_wC2, hb30, ⟨by omega, by omega⟩⟩ (.cons rfl (.cons rfl (.cons rfl (.nil))))
      ·
        refine sc_exit rfl (nrm_k ?_)
        refine sc_seq ?_
        refine sc_reg ?_
        refine Go.XK.s (v := .slice (some ⟨b30, 0, none⟩) c c) (e_move rfl) ?_
        refine Go.XK.s (v := .slice (some ⟨b30, 0, none⟩) c c) (e_assign rfl) ?_
        refine sl_nil (nrm_k ?_)
        refine sc_retf rfl (ret1 Try.results56 (rvt rfl) ?_)
        have hnc : n = c := by omega
        rw [hnc, repC_full] at hb30
        have h_ := Go.XK.Own.ofBlk (base := w.heap.size) (kk := 1) hb30 ge_b30 (fun _ => rfl) (by rw [List.length_replicate]; simp only [maxLen]; omega)
        rw [List.length_replicate] at h_
        exact ⟨h_, xw_w3⟩

end Go.Proofs.Ytfcjianiodiejaa
