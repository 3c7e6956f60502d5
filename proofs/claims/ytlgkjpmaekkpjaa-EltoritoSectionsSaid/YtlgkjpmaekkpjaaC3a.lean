/- Chapter 27: what the library's functions do, in the calculus' words. My own text. -/
import Derived.Test.YtlgkjpmaekkpjaaMath
import Derived.Test.YtlgkjpmaekkpjaaShelf
import Derived.Shelf.Strings.BuilderK
set_option linter.unusedVariables false
namespace Go.Proofs.Ytlgkjpmaekkpjaa
open Go.XK Go.RowKit
theorem join_flat : ∀ xs : List (List UInt8), Lib.join xs [] = xs.flatten
  | [] => rfl
  | x :: r => by
    rw [Lib.join_cons]
    simp [Lib.joinTail]
theorem join_c (b m : Nat) (xs : List (List UInt8)) (w : World) (hb : Blk w b 9 (xs.flatMap encS)) (hm : xs.length = m) (hl : xs.flatten.length ≤ 1099511627776) (hn : m ≤ 1099511627776) :
    CallR Try.prog 46 [.slice (some ⟨b, 0, none⟩) m m, .string (B [])] w (fun v w' => v = .string (B xs.flatten) ∧ Ext w w') := by
  subst hm
  have hj : Lib.join ((xs.map B).map (·.data.toList)) (B []).data.toList = xs.flatten := by
    rw [show (B []).data.toList = [] from rfl, join_flat, List.map_map, show ((fun x : ByteArray => x.data.toList) ∘ B) = id from by funext s; simp [B]]
    simp
  have h := Try.strings_Join b 0 xs.length (xs.map B) (B []) w (fun j x hj => by
    rw [List.getElem?_map] at hj
    obtain ⟨s, hs, rfl⟩ := Option.map_eq_some_iff.1 hj
    rw [Nat.zero_add]
    have := flat_get (enc := encS) (k := 1) (fun _ => rfl) xs j 0 s (.string (B s)) hs rfl
    rw [Nat.mul_one, Nat.add_zero] at this
    exact hb.cell this) hb.lt (by simp; omega) (by simp) (by rw [hj]; omega)
  rw [hj, List.length_map] at h
  exact Calls.mono h fun e w' he => ⟨_, he.1, rfl, he.2⟩
theorem repeat0 : ∀ c, Lib.repeatL [0] c = zeros c
  | 0 => rfl
  | c + 1 => by rw [Lib.repeatL, repeat0 c]; rfl
theorem rep0_c (c : Int) (w : World) (h0 : 0 ≤ c) (hc : c ≤ 1099511627776) : CallR Try.prog 18 [.string (B [0]), .int .i64 c] w (fun v w' => v = .string (B (zeros c.toNat)) ∧ Ext w w') := by
  have h := Try.strings_Repeat (B [0]) c.toNat w (by omega) (by rw [B_size]; simp; omega)
  rw [show (B [0]).data.toList = [0] from rfl, repeat0, show ((c.toNat : Nat) : Int) = c from by omega] at h
  exact Calls.mono h fun e w' he => ⟨_, he.1, rfl, he.2⟩
/-- A builder of one's own. -/
def Bld (w0 : World) (b : Nat) (s : List UInt8) (w : World) : Prop := Lib.IsBuilderF 46 5 w0.heap.size b (Lib.byteCells s) w
theorem rowF_kept {w w' : World} {base k n : Nat} {e : TypeId} {v : Value} {xs : List Value} (h : w.ownsRowF base e k v n xs) (hk : ∀ (g : Nat) (cs : Array Value) (fz : Nat × Nat), v.ownBlock = some g → w.heap[g]? = some (Obj.cells cs e fz) → w'.heap[g]? = w.heap[g]?) : w'.ownsRowF base e k v n xs := by
  refine ⟨h.1, ?_⟩
  rcases h.2 with hn | ⟨g, cap, cur, fz, rfl, hb, hh, r⟩
  · exact .inl hn
  · exact .inr ⟨g, cap, cur, fz, rfl, hb, (hk g cur fz rfl hh).trans hh, r⟩
theorem Bld.keep {w0 w w' : World} {b : Nat} {s : List UInt8} (h : Bld w0 b s w) (hb : ∀ o : Obj, w.heap[b]? = some o → w'.heap[b]? = some o) (hr : ∀ (g : Nat) (cs : Array Value) (fz : Nat × Nat), w.heap[g]? = some (Obj.cells cs 5 fz) → w'.heap[g]? = w.heap[g]?) : Bld w0 b s w' := by
  have key : ∀ p, Lib.BuilderAtF 46 5 w0.heap.size b p (Lib.byteCells s) w → Lib.BuilderAtF 46 5 w0.heap.size b p (Lib.byteCells s) w' := by
    rintro p ⟨hB, v, hbb, hown, hno⟩
    exact ⟨hB, v, hb _ hbb, rowF_kept hown (fun g cs fz _ hh => hr g cs fz hh), hno⟩
  rcases h with h | h
  · exact .inl (key _ h)
  · exact .inr (key _ h)
theorem Bld.ext {w0 w w' : World} {b : Nat} {s : List UInt8} (h : Bld w0 b s w) (he : Ext w w') : Bld w0 b s w' :=
  h.keep (fun o ho => he.blk ho) (fun g cs fz hg => (he.blk hg).trans hg.symm)
theorem Bld.new {w0 w : World} {b : Nat} (hb : Blk w b 46 [.pointer none, .slice none 0 0]) (h0 : w0.heap.size ≤ b) : Bld w0 b [] w :=
  .inl ⟨h0, .slice none 0 0, hb, ⟨by simp [Lib.byteCells], .inl ⟨rfl, rfl⟩⟩, by simp [Value.ownBlock]⟩
theorem Bld.lt {w0 w : World} {b : Nat} {s : List UInt8} (h : Bld w0 b s w) : b < w.heap.size := by
  rcases h with ⟨_, v, hb, _⟩ | ⟨_, v, hb, _⟩ <;> exact (Array.getElem?_eq_some_iff.1 hb).1
theorem Bld.mut {w0 w w' : World} {b c : Nat} {s : List UInt8} {t : TypeId} {cs : List Value} (h : Bld w0 b s w) (hm : Mut w w' c) (hb : Blk w c t cs) (hne : c ≠ b) (ht : (5 : TypeId) ≠ t) : Bld w0 b s w' :=
  h.keep (fun o ho => hm.blk ho (Ne.symm hne)) (fun g cs' fz hg => (hm.blk hg (by
    rintro rfl
    unfold Blk at hb
    rw [hb] at hg
    injection hg with hg
    injection hg with _ h2 _
    exact ht h2.symm)).trans hg.symm)
theorem Blk.others {w w' : World} {b c : Nat} {t : TypeId} {cs : List Value} (h : Blk w c t cs) (hk : Lib.OthersKept 5 (some b) w w') (hne : c ≠ b) (ht : t ≠ 5) : Blk w' c t cs :=
  hk c _ h (by simpa using hne) (fun c' fz he => by injection he with _ h2 _; exact ht h2)
theorem byteCells_app (s t : List UInt8) : Lib.byteCells s ++ Lib.strCells (B t) = Lib.byteCells (s ++ t) := by simp [Lib.byteCells, Lib.strCells, B]
theorem wstr_c (w0 : World) (b : Nat) (s t : List UInt8) (w : World) (h : Bld w0 b s w) (hx : Below w0.heap.size w0 w) (hl : s.length + t.length ≤ 1099511627776) :
    CallR Try.prog 22 [.pointer (some ⟨b, 0, none⟩), .string (B t)] w (fun v w' => v = .tuple #[.int .i64 t.length, .nilIface] ∧ Bld w0 b (s ++ t) w' ∧ Below w0.heap.size w0 w' ∧ Lib.OthersKept 5 (some b) w w') := by
  have hr := Any.Builder_WriteString_k ({ Try.lays156 with } : Go.Proofs.Lays.n166 Try.prog Try.lays156_ren) Try.Builder_Extra_156 w0.heap.size b (Lib.byteCells s) (B t) w h (by rw [B_size]; simp [Lib.byteCells]; omega) (Below.size hx)
  rw [byteCells_app, B_size] at hr
  exact Calls.mono hr fun e w' he => ⟨_, he.1, rfl, .inr he.2.1, Below.trans hx he.2.2.1, he.2.2.2⟩
theorem blen_c (w0 : World) (b : Nat) (s : List UInt8) (w : World) (h : Bld w0 b s w) : CallR Try.prog 27 [.pointer (some ⟨b, 0, none⟩)] w (fun v w' => v = .int .i64 s.length ∧ Ext w w') := by
  have hr := Try.Builder_Len_f w0.heap.size b (Lib.byteCells s) w h
  rw [show (Lib.byteCells s).length = s.length from by simp [Lib.byteCells]] at hr
  exact Calls.mono hr fun e w' he => ⟨_, he.1, rfl, by rw [he.2]; exact Ext.rfl' _⟩
theorem bstr_c (w0 : World) (b : Nat) (s : List UInt8) (w : World) (h : Bld w0 b s w) (hx : Below w0.heap.size w0 w) : CallR Try.prog 28 [.pointer (some ⟨b, 0, none⟩)] w (fun v w' => v = .string (B s) ∧ Below w0.heap.size w0 w') := by
  have hr := Try.Builder_String_any_f w0.heap.size b s w h (Below.size hx)
  exact Calls.mono hr fun e w' he => ⟨_, he.1, rfl, Below.trans hx he.2.2⟩
end Go.Proofs.Ytlgkjpmaekkpjaa
