/- Chapter 24: C2. Printed by my program wip/tools/wk.py. -/
import Derived.Test.YtnbclhbpjlpcoaaC1
set_option linter.unusedVariables false
set_option linter.unusedSimpArgs false
set_option maxRecDepth 4000
set_option maxHeartbeats 4000000
namespace Go.Proofs.Ytnbclhbpjlpcoaa
open Go.XK Go.RowKit
theorem infoB : (Try.prog.info? 5).map (fun i => (i.zero, i.size, i.bytes)) = some (some (.int .u8 0), 1, 1) := by kernel_rfl
def u8V (q : UInt8) : Value := .int .u8 (q.toNat : Int)
theorem byteCells_map (t : List UInt8) : t.map u8V = Lib.byteCells t := by simp [Lib.byteCells, u8V]
theorem byteCells_cat (s t : List UInt8) : Lib.byteCells s ++ Lib.byteCells t = Lib.byteCells (s ++ t) := by simp [Lib.byteCells]

/-- (*strings.Builder).Write (function 46) -/
theorem write_c (w0 : World) (b c : Nat) (s t : List UInt8) (w : World) (HB : Bld w0 b s w) (hx : Below w0.heap.size w0 w) (hsrc : Blk w c 5 (t.map u8V)) (hcb : c ≠ b) (hl : s.length + t.length ≤ 1099511627776) : CallR Try.prog 46 [.pointer (some ⟨b, 0, none⟩), .slice (some ⟨c, 0, none⟩) t.length t.length] w (fun v w' => v = .tuple #[.int .i64 t.length, .nilIface] ∧ Bld w0 b (s ++ t) w' ∧ Below w0.heap.size w0 w' ∧ Lib.OthersKept 5 (some b) w w') := by
  obtain ⟨i0, hi0, hz0, hz1, hz2⟩ := info_parts infoB
  refine callR_of (n := 19) [(0, .pointer (some ⟨b, 0, none⟩)), (1, .slice (some ⟨c, 0, none⟩) t.length t.length)] Try.func46 rfl rfl (Nat.le_of_ble_eq_true rfl) rfl ?_
  refine sc_seq ?_
  refine sc_reg ?_
  refine Go.XK.s (v := .int .i64 0) (e_assign rfl) ?_
  refine Go.XK.s (v := .nilIface) (e_assign rfl) ?_
  refine sl_nil (nrm_k ?_)
  refine sc_seq ?_
  refine sc_reg ?_
  refine Go.XK.s (v := .pointer (some ⟨b, 0, none⟩)) (e_move rfl) ?_
  refine sl_call ent62 rfl rfl (cpc_c w0 b s w HB) (by decide) ?_
  rintro _ w1 ⟨rfl, ⟨lv, hbw, hrow, hne⟩, hBb, hmC, hsC⟩
  replace hsrc := hsrc.mut hmC hcb
  have xq1 : Below w0.heap.size w0 w1 := below_mut hx (Below.size hx) hmC hBb
  refine sl_nil (nrm_k ?_)
  refine sc_seq ?_
  refine sc_reg ?_
  refine Go.XK.s (v := .pointer (some ⟨b, 0, none⟩)) (e_move rfl) ?_
  refine Go.XK.s (v := .pointer (some ⟨b, 0, none⟩)) (e_move rfl) ?_
  refine Go.XK.s (v := .pointer (some ⟨b, 0, none⟩)) (e_nilCheck rfl) ?_
  refine Go.XK.s (v := .pointer (some ⟨b, 1, none⟩)) (e_fieldB (sz := 1) Try.underlying72 rfl Try.sizeOf70 (by decide) rfl rfl) ?_
  refine Go.XK.s (v := lv) (e_load rfl (load1 Try.isAgg70 (hbw.cell (j := 1) rfl))) ?_
  refine Go.XK.s (v := .slice (some ⟨c, 0, none⟩) t.length t.length) (e_move rfl) ?_
  obtain ⟨v2, w2, hr2, hrow2, hg2, _⟩ := run_append_ownF (P := Try.prog) w1 w0.heap.size 70 70 5 i0 (.int .u8 0) 1 1 Try.underlying70 hi0 hz0 hz1 hz2 rfl (by decide) lv s.length (Lib.byteCells s) hrow ⟨c, 0, none⟩ t.length t.length (t.map u8V) (by simp) (fun j u hj => by rw [add0, Nat.zero_add]; exact hsrc.cell hj) (fun u hu => by obtain ⟨q, _, rfl⟩ := List.mem_map.1 hu; rfl) (by simp only [maxLen]; omega) (by omega) (Below.size xq1)
  refine Go.XK.s (e_append rfl rfl hr2) ?_
  have hbw2 := hbw.grown hg2 hne
  have xq2 : Below w0.heap.size w0 w2 := Below.grown xq1 hg2 (Below.size xq1) (fun k e => (hrow.lt k e).1)
  have hne2 := Lib.ownBlock_neF hrow2 hbw2 (by decide)
  obtain ⟨ao, n2, cap2, e2⟩ : ∃ ao n2 cap2, v2 = Value.slice ao n2 cap2 := by
    rcases hrow2.2 with ⟨hv, _⟩ | ⟨g, cap, cur, fz, hv, _⟩
    · exact ⟨_, _, _, hv⟩
    · exact ⟨_, _, _, hv⟩
  subst e2
  clear hsrc
  have hbw1 := hbw
  clear hbw
  have hbw := hbw2
  refine Go.XK.s (v := .pointer (some ⟨b, 0, none⟩)) (e_nilCheck rfl) ?_
  refine Go.XK.s (v := .pointer (some ⟨b, 1, none⟩)) (e_fieldB (sz := 1) Try.underlying72 rfl Try.sizeOf70 (by decide) rfl rfl) ?_
  refine su_blkV [.slice ao n2 cap2] [.pointer (some ⟨b, 0, none⟩), .slice ao n2 cap2] rfl rfl hbw rfl Try.sizeOf70 (Nat.le_of_ble_eq_true rfl) rfl rfl ?_
  intro w2 hn_ hm_w2 hs_w2
  have ho_ := hbw
  replace hbw := hn_
  clear hn_
  refine sl_nil (nrm_k ?_)
  refine sc_seq ?_
  refine sc_reg ?_
  refine Go.XK.s (v := .slice (some ⟨c, 0, none⟩) t.length t.length) (e_move rfl) ?_
  refine Go.XK.s (v := .int .i64 (t.length : Int)) (e_len Try.underlying70 rfl) ?_
  refine Go.XK.s (v := .int .i64 (t.length : Int)) (e_assign rfl) ?_
  refine Go.XK.s (v := .nilIface) (e_assign rfl) ?_
  refine sl_nil (nrm_k ?_)
  refine sc_retf rfl (ret2 Try.results46 (rvt rfl) (rvt rfl) ?_)
  have hrow3 := hrow2.kept hm_w2 (.inr hne2)
  have hl3 : s.length + t.length = (s ++ t).length := by simp
  rw [byteCells_map, byteCells_cat, hl3, show (s ++ t).length = (Lib.byteCells (s ++ t)).length from by simp [Lib.byteCells]] at hrow3
  exact ⟨rfl, .inr ⟨hBb, _, hbw, hrow3, hne2⟩, below_mut xq2 (Below.size xq2) hm_w2 hBb, fun k o hk hkb hno => hm_w2.blk (grown_blk hg2 (hmC.blk hk (by simpa using hkb)) (fun e => by
    obtain ⟨c', fz, hc⟩ := Lib.ownsRowF_kind hrow k e
    rw [hmC.blk hk (by simpa using hkb)] at hc
    exact hno c' fz (Option.some.inj hc))) (by simpa using hkb)⟩

end Go.Proofs.Ytnbclhbpjlpcoaa
