/- The calculus of the walks, part 5: operations that make or write memory, with the new world under a name. My own text. -/
import Derived.Test.YtnbclhbpjlpcoaaXKd
set_option linter.unusedVariables false
set_option linter.unusedSimpArgs false
namespace Go.XK
open Go.RowKit
section
variable {r : Option Nat} {P : Program} {n : Nat} {ds : List Deferred} {ops : Array Oper} {q : QQ} {l : Env} {w w1 : World} {rest : List Oper} {ty t t' : TypeId} {pos : String} {aft : Array Edge} {d : Nat} {v u : Value} {x y : Operand} {cs : List Value} {b o j : Nat} {dst : Option Nat}
theorem s_box (hx : val l x = some u) (hu : u.cells = cs.toArray) (h : ∀ b w1, Blk w1 b t cs → b = w.heap.size → w1.heap.size = w.heap.size + 1 → Ext w w1 → SL r P n ds ops q rest ((d, .pointer (some ⟨b, 0, none⟩)) :: l) w1) (hd : d < n := by decide) :
    SL r P n ds ops q (⟨some d, .box t x, ty, pos, aft, none⟩ :: rest) l w := by
  refine s (e_box hx) ?_ rfl hd
  rw [hu]
  exact h _ _ (Blk.new _ _ _) rfl (by simp) (Ext.alloc _ _)
theorem s_alloc (hz : ∀ w, (zeroValue t).run P w = .ok u w) (hu : u.cells = cs.toArray) (h : ∀ b w1, Blk w1 b t cs → b = w.heap.size → w1.heap.size = w.heap.size + 1 → Ext w w1 → SL r P n ds ops q rest ((d, .pointer (some ⟨b, 0, none⟩)) :: l) w1) (hd : d < n := by decide) :
    SL r P n ds ops q (⟨some d, .alloc t, ty, pos, aft, none⟩ :: rest) l w := by
  refine s (e_alloc hz) ?_ rfl hd
  rw [hu]
  exact h _ _ (Blk.new _ _ _) rfl (by simp) (Ext.alloc _ _)
/-- A slice literal. -/
theorem s_bslice {e : TypeId} {m : Nat} {xs : List (Nat × Operand)} {vs : List (Nat × Value)} (hx : pvals l xs = some vs) (cs : List Value) (hr : (Instr.buildSlice t m vs.toArray).run P w = .ok (.slice (some ⟨w.heap.size, 0, none⟩) m m) (w.alloc (.cells cs.toArray e)))
    (h : ∀ b w1, Blk w1 b e cs → b = w.heap.size → w1.heap.size = w.heap.size + 1 → Ext w w1 → SL r P n ds ops q rest ((d, .slice (some ⟨b, 0, none⟩) m m) :: l) w1) (hd : d < n := by decide) :
    SL r P n ds ops q (⟨some d, .buildSlice t m xs.toArray, ty, pos, aft, none⟩ :: rest) l w :=
  s (e_buildSlice hx hr) (h _ _ (Blk.new _ _ _) rfl (by simp) (Ext.alloc _ _)) rfl hd
/-- A store of one cell into a block that is known whole. -/
theorem su_blk (hx : val l x = some (.pointer (some ⟨b, o, none⟩))) (hy : val l y = some v) (hb : Blk w b t' cs) (ho : o < cs.length) (hsz : ∀ w, (sizeOf t).run P w = .ok 1 w) (h1 : v.cells = #[v]) (hone : v.oneCell' = true)
    (h : ∀ w1, Blk w1 b t' (cs.set o v) → Mut w w1 b → w1.heap.size = w.heap.size → SL r P n ds ops q rest l w1) : SL r P n ds ops q (⟨none, .store t x y, ty, pos, aft, none⟩ :: rest) l w := by
  have hc := hb.cell (List.getElem?_eq_getElem ho)
  exact su (u_store hx hy (store1 hsz h1 hone hc (hb.free o))) (h _ (hb.set o v) (Mut.set w ⟨b, o, none⟩ v) (by simp [World.setCell])) rfl
theorem s_makeF {m c : Nat} {e : TypeId} (hx : val l x = some u) (hy : val l y = some v) (cs : List Value) (hr : (Instr.makeSlice t u v).run P w = .ok (.slice (some ⟨w.heap.size, 0, none⟩) m c) (w.alloc (.cells cs.toArray e)))
    (h : ∀ b w1, Blk w1 b e cs → b = w.heap.size → w1.heap.size = w.heap.size + 1 → Ext w w1 → SL r P n ds ops q rest ((d, .slice (some ⟨b, 0, none⟩) m c) :: l) w1) (hd : d < n := by decide) :
    SL r P n ds ops q (⟨some d, .makeSlice t x y, ty, pos, aft, none⟩ :: rest) l w :=
  s (e_makeSlice hx hy hr) (h _ _ (Blk.new _ _ _) rfl (by simp) (Ext.alloc _ _)) rfl hd
/-- append to a row of one's own. -/
theorem s_append {va vb : Value} {Rx : Value → World → Prop} (hx : val l x = some va) (hy : val l y = some vb) (hr : ∃ v' w', (Builtin.append_ #[t, t'] ty #[va, vb]).run P w = .ok v' w' ∧ Rx v' w') (h : ∀ v' w', Rx v' w' → SL r P n ds ops q rest ((d, v') :: l) w') (hd : d < n := by decide) :
    SL r P n ds ops q (⟨some d, .call ⟨.builtin .append, #[x, y], #[t, t']⟩, ty, pos, aft, none⟩ :: rest) l w := by
  obtain ⟨v', w', hrun, hR⟩ := hr
  exact s (e_append hx hy hrun) (h v' w' hR) rfl hd
end
theorem Rd.load {α : Type} {P : Program} {w : World} {t : TypeId} {k : Nat} {enc : α → List Value} {x : α} {j : Nat} {ad : Addr} (hagg : ∀ w, (isAgg t).run P w = .ok true w) (hsz : ∀ w, (sizeOf t).run P w = .ok k w) (hk : (enc x).length = k)
    (hc : ∀ i v, (enc x)[i]? = some v → w.cell? (ad.add (j * k + i)) = some v) : (loadVar t (ad.add (j * k))).run P w = .ok (.agg (enc x).toArray) w :=
  loadA hagg hsz hk fun i v hi => by rw [addadd]; exact hc i v hi
/-- bytes to a string -/
theorem conv_bytes {P : Program} {w : World} {src dst e : TypeId} {b off cap : Nat} {s : List UInt8} (hs : P.underlying src = some (.slice e)) (he : P.underlying e = some (.int .u8)) (hd : P.underlying dst = some .string)
    (hc : ∀ (i : Nat) (c : UInt8), s[i]? = some c → w.cell? ⟨b, off + i, none⟩ = some (.int .u8 (c.toNat : Int))) : (convert src dst (.slice (some ⟨b, off, none⟩) s.length cap)).run P w = .ok (.string (B s)) w := by
  have h := run_convert_bytes_arg (P := P) w src e hs he b off s.length cap (s.map fun c => (c.toNat : Int)) (by simp) (fun i hi => by
    have := hc i s[i] (List.getElem?_eq_getElem hi)
    rw [this]
    simp [List.getElem?_eq_getElem hi]) dst hd
  rw [h]
  congr 2
  simp only [strOfNums, B, List.map_map]
  rw [show ((fun n : Int => UInt8.ofNat n.toNat) ∘ fun c : UInt8 => (c.toNat : Int)) = id from by funext c; simp]
  simp
end Go.XK
