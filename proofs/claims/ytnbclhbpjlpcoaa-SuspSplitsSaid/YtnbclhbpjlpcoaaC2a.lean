/- Chapter 24: what the library's functions do, in the calculus' words. My own text. -/
import Derived.Test.YtnbclhbpjlpcoaaMath
import Derived.Test.YtnbclhbpjlpcoaaShelf
import Derived.Shelf.Strings.BuilderK
import Derived.Lib.FrozenHead2
set_option linter.unusedVariables false
set_option maxRecDepth 4000
namespace Go.Proofs.Ytnbclhbpjlpcoaa
open Go.XK Go.RowKit
theorem repL_length : ∀ (s : List UInt8) (c : Nat), (Lib.repeatL s c).length = c * s.length
  | s, 0 => by simp [Lib.repeatL]
  | s, c + 1 => by rw [Lib.repeatL, List.length_append, repL_length s c, Nat.add_mul]; omega
theorem rep_c (s : List UInt8) (c : Nat) (w : World) (hc : c ≤ 9223372036854775807) (hs : s.length * c ≤ 140737488355328) : CallR Try.prog 34 [.string (B s), .int .i64 c] w (fun v w' => v = .string (B (Lib.repeatL s c)) ∧ Ext w w') := by
  have h := Try.strings_Repeat (B s) c w hc (by rw [B_size]; exact hs)
  exact Calls.mono h fun e w' he => ⟨_, he.1, rfl, he.2⟩
/-- A builder of one's own. -/
def Bld (w0 : World) (b : Nat) (s : List UInt8) (w : World) : Prop := Lib.IsBuilderF 72 5 w0.heap.size b (Lib.byteCells s) w
theorem rowF_kept {w w' : World} {base k n : Nat} {e : TypeId} {v : Value} {xs : List Value} (h : w.ownsRowF base e k v n xs) (hk : ∀ (g : Nat) (cs : Array Value) (fz : Nat × Nat), v.ownBlock = some g → w.heap[g]? = some (Obj.cells cs e fz) → w'.heap[g]? = w.heap[g]?) : w'.ownsRowF base e k v n xs := by
  refine ⟨h.1, ?_⟩
  rcases h.2 with hn | ⟨g, cap, cur, fz, rfl, hb, hh, r⟩
  · exact .inl hn
  · exact .inr ⟨g, cap, cur, fz, rfl, hb, (hk g cur fz rfl hh).trans hh, r⟩
theorem Bld.keep {w0 w w' : World} {b : Nat} {s : List UInt8} (h : Bld w0 b s w) (hb : ∀ o : Obj, w.heap[b]? = some o → w'.heap[b]? = some o) (hr : ∀ (g : Nat) (cs : Array Value) (fz : Nat × Nat), w.heap[g]? = some (Obj.cells cs 5 fz) → w'.heap[g]? = w.heap[g]?) : Bld w0 b s w' := by
  have key : ∀ p, Lib.BuilderAtF 72 5 w0.heap.size b p (Lib.byteCells s) w → Lib.BuilderAtF 72 5 w0.heap.size b p (Lib.byteCells s) w' := by
    rintro p ⟨hB, v, hbb, hown, hno⟩
    exact ⟨hB, v, hb _ hbb, rowF_kept hown (fun g cs fz _ hh => hr g cs fz hh), hno⟩
  rcases h with h | h
  · exact .inl (key _ h)
  · exact .inr (key _ h)
theorem Bld.ext {w0 w w' : World} {b : Nat} {s : List UInt8} (h : Bld w0 b s w) (he : Ext w w') : Bld w0 b s w' :=
  h.keep (fun o ho => he.blk ho) (fun g cs fz hg => (he.blk hg).trans hg.symm)
theorem Bld.new {w0 w : World} {b : Nat} (hb : Blk w b 72 [.pointer none, .slice none 0 0]) (h0 : w0.heap.size ≤ b) : Bld w0 b [] w :=
  .inl ⟨h0, .slice none 0 0, hb, ⟨by simp [Lib.byteCells], .inl ⟨rfl, rfl⟩⟩, by simp [Value.ownBlock]⟩
theorem Bld.lt {w0 w : World} {b : Nat} {s : List UInt8} (h : Bld w0 b s w) : b < w.heap.size := by
  rcases h with ⟨_, v, hb, _⟩ | ⟨_, v, hb, _⟩ <;> exact (Array.getElem?_eq_some_iff.1 hb).1
theorem Bld.mut {w0 w w' : World} {b c : Nat} {s : List UInt8} {t : TypeId} {cs : List Value} (h : Bld w0 b s w) (hm : Mut w w' c) (hb : Blk w c t cs) (hne : c ≠ b) (ht : (5 : TypeId) ≠ t) : Bld w0 b s w' :=
  h.keep (fun o ho => hm.blk ho (Ne.symm hne)) (fun g cs' fz hg => (hm.blk hg (by
    rintro rfl
    unfold Blk at hb
    rw [hb] at hg
    injection hg with hg
    injection hg with _ h2 _
    exact ht h2.symm)).trans hg.symm)
theorem Blk.others {w w' : World} {b c : Nat} {t : TypeId} {cs : List Value} (h : Blk w c t cs) (hk : Lib.OthersKept 5 (some b) w w') (hne : c ≠ b) (ht : t ≠ 5) : Blk w' c t cs :=
  hk c _ h (by simpa using hne) (fun c' fz he => by injection he with _ h2 _; exact ht h2)
theorem byteCells_app (s t : List UInt8) : Lib.byteCells s ++ Lib.strCells (B t) = Lib.byteCells (s ++ t) := by simp [Lib.byteCells, Lib.strCells, B]
theorem wstr_c (w0 : World) (b : Nat) (s t : List UInt8) (w : World) (h : Bld w0 b s w) (hx : Below w0.heap.size w0 w) (hl : s.length + t.length ≤ 1099511627776) :
    CallR Try.prog 45 [.pointer (some ⟨b, 0, none⟩), .string (B t)] w (fun v w' => v = .tuple #[.int .i64 t.length, .nilIface] ∧ Bld w0 b (s ++ t) w' ∧ Below w0.heap.size w0 w' ∧ Lib.OthersKept 5 (some b) w w') := by
  have hr := Any.Builder_WriteString_k ({ Try.lays105 with } : Go.Proofs.Lays.n166 Try.prog Try.lays105_ren) Try.Builder_Extra_105 w0.heap.size b (Lib.byteCells s) (B t) w h (by rw [B_size]; simp [Lib.byteCells]; omega) (Below.size hx)
  rw [byteCells_app, B_size] at hr
  exact Calls.mono hr fun e w' he => ⟨_, he.1, rfl, .inr he.2.1, Below.trans hx he.2.2.1, he.2.2.2⟩
theorem bstr_c (w0 : World) (b : Nat) (s : List UInt8) (w : World) (h : Bld w0 b s w) (hx : Below w0.heap.size w0 w) : CallR Try.prog 47 [.pointer (some ⟨b, 0, none⟩)] w (fun v w' => v = .string (B s) ∧ Below w0.heap.size w0 w') := by
  have hr := Try.Builder_String_any_f w0.heap.size b s w h (Below.size hx)
  exact Calls.mono hr fun e w' he => ⟨_, he.1, rfl, Below.trans hx he.2.2⟩
/-- copyCheck: the builder's block alone turns. -/
theorem cpc_c (w0 : World) (b : Nat) (s : List UInt8) (w : World) (h : Bld w0 b s w) : CallR Try.prog 62 [.pointer (some ⟨b, 0, none⟩)] w (fun v w' => v = .tuple #[] ∧ (∃ lv, Blk w' b 72 [.pointer (some ⟨b, 0, none⟩), lv] ∧ w'.ownsRowF w0.heap.size 5 1 lv s.length (Lib.byteCells s) ∧ lv.ownBlock ≠ some b) ∧ w0.heap.size ≤ b ∧ Mut w w' b ∧ w'.heap.size = w.heap.size) := by
  have L : Go.Proofs.Lays.n240 Try.prog Try.lays105_ren := { Try.lays105 with }
  have hl : (Lib.byteCells s).length = s.length := by simp [Lib.byteCells]
  rcases h with h | h
  · have hr := Any.Builder_copyCheck_fresh L Try.Builder_Extra_105.toX72 b w h.cell0 h.shape h.frozen0
    refine Calls.mono hr fun e w' he => ⟨_, he.1, rfl, ?_⟩
    obtain ⟨_, rfl⟩ := he
    have h1 := h.used (.pointer (some ⟨b, 0, none⟩))
    obtain ⟨hB, lv, hb, ho, hne⟩ := h1
    rw [hl] at ho
    exact ⟨⟨lv, hb, ho, hne⟩, hB, Mut.set w ⟨b, 0, none⟩ _, by simp [World.setCell]⟩
  · have hr := Any.Builder_copyCheck_used L Try.Builder_Extra_105.toX72 b w h.cell0
    refine Calls.mono hr fun e w' he => ⟨_, he.1, rfl, ?_⟩
    obtain ⟨_, rfl⟩ := he
    obtain ⟨hB, lv, hb, ho, hne⟩ := h
    rw [hl] at ho
    exact ⟨⟨lv, hb, ho, hne⟩, hB, Mut.ofExt (Ext.rfl' _) b, rfl⟩
end Go.Proofs.Ytnbclhbpjlpcoaa
