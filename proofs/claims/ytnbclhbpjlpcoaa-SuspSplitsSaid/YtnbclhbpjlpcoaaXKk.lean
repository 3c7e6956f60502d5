/- The calculus of the walks, part 11: the bytes of a string in a block of their own. My own text. -/
import Derived.Test.YtnbclhbpjlpcoaaXKj
import Derived.Lib.ConvBytes
set_option linter.unusedVariables false
set_option linter.unusedSimpArgs false
namespace Go.XK
open Go.RowKit
/-- Block b begins with the bytes s; they are not frozen. -/
def BB (w : World) (b : Nat) (e : TypeId) (s : List UInt8) : Prop := ∃ (ex : List Value) (f : Nat × Nat), w.heap[b]? = some (.cells ((s.map fun c => Value.int .u8 (c.toNat : Int)) ++ ex).toArray e f) ∧ s.length ≤ f.1
section
variable {r : Option Nat} {P : Program} {n : Nat} {ds : List Deferred} {ops : Array Oper} {q : QQ} {l : Env} {w w' w1 : World} {rest : List Oper} {ty t t1 t2 e : TypeId} {pos : String} {aft : Array Edge} {d b : Nat} {v : Value} {x y : Operand} {k : IntKind} {i : Int} {s : List UInt8} {c : UInt8} {m cap o : Nat}
theorem BB.ext (h : BB w b e s) (he : Ext w w') : BB w' b e s := by
  obtain ⟨ex, f, hb, hf⟩ := h
  exact ⟨ex, f, he.blk hb, hf⟩
theorem BB.mut {b' : Nat} (h : BB w b e s) (he : Mut w w' b') (hne : b ≠ b') : BB w' b e s := by
  obtain ⟨ex, f, hb, hf⟩ := h
  exact ⟨ex, f, he.blk hb hne, hf⟩
theorem BB.lt (h : BB w b e s) : b < w.heap.size := by
  obtain ⟨ex, f, hb, hf⟩ := h
  exact (Array.getElem?_eq_some_iff.1 hb).1
theorem BB.cell (h : BB w b e s) {j : Nat} (hj : s[j]? = some c) : w.cell? ⟨b, j, none⟩ = some (.int .u8 (c.toNat : Int)) := by
  obtain ⟨ex, f, hb, hf⟩ := h
  have hlt := (List.getElem?_eq_some_iff.1 hj).1
  simp only [World.cell?, hb]
  simp only [List.getElem?_toArray]
  rw [List.getElem?_append_left (by simpa using hlt), List.getElem?_map, hj]
  rfl
theorem BB.free (h : BB w b e s) {j : Nat} (hj : j < s.length) : w.frozen? ⟨b, j, none⟩ = false := by
  obtain ⟨ex, f, hb, hf⟩ := h
  simp only [World.frozen?, hb]
  simp
  omega
theorem BB.set (h : BB w b e s) {j : Nat} (hj : j < s.length) (c : UInt8) : BB (w.setCell ⟨b, j, none⟩ (.int .u8 (c.toNat : Int))) b e (s.set j c) := by
  obtain ⟨ex, f, hb, hf⟩ := h
  refine ⟨ex, f, ?_, by simpa using hf⟩
  simp only [World.setCell, Array.getElem?_modify, if_true, hb]
  simp [List.set_append, hj, List.map_set]
/-- []byte(s) -/
theorem s_bytes (hx : val l x = some (.string (B s))) (hs : P.underlying t1 = some .string) (hd' : P.underlying t2 = some (.slice e)) (he : P.underlying e = some (.int .u8))
    (h : ∀ b cp w1, BB w1 b e s → b = w.heap.size → Ext w w1 → SL r P n ds ops q rest ((d, .slice (some ⟨b, 0, none⟩) s.length cp) :: l) w1) (hd : d < n := by decide) :
    SL r P n ds ops q (⟨some d, .convert t1 t2 x, ty, pos, aft, none⟩ :: rest) l w := by
  have hr := Lib.run_convert_string_bytes (P := P) w t1 t2 e (B s) hs hd' he
  rw [B_size] at hr
  refine Go.XK.s (e_convr hx hr) (h _ _ _ ?_ rfl ?_) rfl hd
  · refine ⟨List.replicate (grownCap w (B s).size 0 e - (B s).size) (.int .u8 0), ((Lib.bytesCells w e (B s)).size, (Lib.bytesCells w e (B s)).size + 1), ?_, ?_⟩
    · rw [Lib.bytesWorld_at_new]
      simp [Lib.bytesCells, B]
    · simp [Lib.bytesCells, B]
  · refine ⟨rfl, rfl, rfl, by rw [Lib.bytesWorld_size]; omega, fun j hj => Lib.bytesWorld_at_old w e (B s) j hj⟩
/-- b[i] = c -/
theorem su_byte (o : Nat) (c : UInt8) (hx : val l x = some (.pointer (some ⟨b, o, none⟩))) (hy : val l y = some (.int .u8 (c.toNat : Int))) (hb : BB w b e s) (ho : o < s.length) (hsz : ∀ w, (sizeOf t).run P w = .ok 1 w)
    (h : ∀ w1, BB w1 b e (s.set o c) → Mut w w1 b → w1.heap.size = w.heap.size → SL r P n ds ops q rest l w1) : SL r P n ds ops q (⟨none, .store t x y, ty, pos, aft, none⟩ :: rest) l w :=
  su (u_store hx hy (store1 hsz rfl rfl (hb.cell (List.getElem?_eq_getElem ho)) (hb.free ho))) (h _ (hb.set ho c) (Mut.set w ⟨b, o, none⟩ _) (by simp [World.setCell])) rfl
theorem e_ldByte (o : Nat) (c : UInt8) (hx : val l x = some (.pointer (some ⟨b, o, none⟩))) (hb : BB w b e s) (hc : s[o]? = some c) (hagg : ∀ w, (isAgg t).run P w = .ok false w) : Ev P n ds l w (.load t x) ty (.int .u8 (c.toNat : Int)) w := e_load hx (load1 hagg (hb.cell hc))
theorem e_convBB (hx : val l x = some (.slice (some ⟨b, 0, none⟩) m cap)) {t' : TypeId} (hb : BB w b t' s) (hm : s.length = m) (hs : P.underlying t1 = some (.slice e)) (he : P.underlying e = some (.int .u8)) (hd : P.underlying t2 = some .string) : Ev P n ds l w (.convert t1 t2 x) ty (.string (B s)) w := by
  subst hm
  exact e_convr hx (conv_bytes hs he hd fun j c hj => by rw [Nat.zero_add]; exact hb.cell hj)
end
end Go.XK
