/- The calculus of the walks, part 7: bytes, the elements of a slice that is read. My own text. -/
import Derived.Test.YtnbclhbpjlpcoaaXKf
set_option linter.unusedVariables false
set_option linter.unusedSimpArgs false
namespace Go.XK
open Go.RowKit
section
variable {r : Option Nat} {P : Program} {n : Nat} {ds : List Deferred} {ops : Array Oper} {q : QQ} {l : Env} {w w1 : World} {rest : List Oper} {ty t t1 t2 : TypeId} {pos : String} {aft : Array Edge} {d : Nat} {u v : Value} {x y : Operand} {k : IntKind} {i j : Int} {s s' : List UInt8} {a b c : UInt8}

/-! ### Bytes -/
/-- The byte of a number. -/
def u8of (i : Int) : UInt8 := UInt8.ofNat (i % 256).toNat
theorem u8of_toNat (i : Int) : ((u8of i).toNat : Int) = i % 256 := by
  have h0 : 0 ≤ i % 256 := Int.emod_nonneg i (by decide)
  have h1 : i % 256 < 256 := Int.emod_lt_of_pos i (by decide)
  simp only [u8of, UInt8.toNat_ofNat']
  omega
theorem u8_wrap (i : Int) : IntKind.u8.wrap i = ((u8of i).toNat : Int) := by rw [u8of_toNat, IntKind.wrap_u8]
theorem u8_lt (c : UInt8) : (c.toNat : Int) < 256 := by have := c.toNat_lt; omega
theorem u8_eq {a b : UInt8} : ((a.toNat : Int) = b.toNat) ↔ a = b := ⟨fun h => UInt8.toNat_inj.1 (by omega), fun h => by rw [h]⟩
theorem u8of_u8 (c : UInt8) : u8of (c.toNat : Int) = c := by
  rw [← u8_eq, u8of_toNat]
  have := u8_lt c
  omega
theorem e_intu8 {u : TypeDesc} (hs : P.underlying t1 = some u) (hd : P.underlying t2 = some (.int .u8)) (hx : val l x = some (.int k i)) : Ev P n ds l w (.convert t1 t2 x) ty (.int .u8 ((u8of i).toNat : Int)) w := e_conv hs hd hx (u8_wrap i)
theorem u8_in (k : IntKind) (hk : k ≠ .i8) (c : UInt8) : k.wrap (c.toNat : Int) = c.toNat := by
  have h := u8_lt c
  cases k with
  | i8 => exact absurd rfl hk
  | i16 => exact IntWalk.i16_in _ ⟨by omega, by omega⟩
  | i32 => exact IntWalk.i32_in _ ⟨by omega, by omega⟩
  | i64 => exact IntWalk.i64_in _ ⟨by omega, by omega⟩
  | u8 => exact IntWalk.u8_in _ ⟨by omega, by omega⟩
  | u16 => exact IntWalk.u16_in _ ⟨by omega, by omega⟩
  | u32 => exact IntWalk.u32_in _ ⟨by omega, by omega⟩
  | u64 => exact IntWalk.u64_in _ ⟨by omega, by omega⟩
theorem e_u8int {k2 : IntKind} {u : TypeDesc} (hs : P.underlying t1 = some u) (hd : P.underlying t2 = some (.int k2)) (hk : k2 ≠ .i8) (hx : val l x = some (.int .u8 (c.toNat : Int))) : Ev P n ds l w (.convert t1 t2 x) ty (.int k2 (c.toNat : Int)) w := e_conv hs hd hx (u8_in k2 hk c)
theorem e_beq (hx : val l x = some (.int .u8 (a.toNat : Int))) (hy : val l y = some (.int .u8 (b.toNat : Int))) : Ev P n ds l w (.binOp .eql t x y t2) ty (.bool (decide (a = b))) w := by
  have h := e_eq (P := P) (n := n) (ds := ds) (w := w) (t := t) (t2 := t2) (ty := ty) hx hy
  rwa [show decide ((a.toNat : Int) = b.toNat) = decide (a = b) from by simp [u8_eq]] at h
theorem e_bne (hx : val l x = some (.int .u8 (a.toNat : Int))) (hy : val l y = some (.int .u8 (b.toNat : Int))) : Ev P n ds l w (.binOp .neq t x y t2) ty (.bool (decide (a ≠ b))) w := by
  have h := e_ne (P := P) (n := n) (ds := ds) (w := w) (t := t) (t2 := t2) (ty := ty) hx hy
  rwa [show decide ((a.toNat : Int) ≠ b.toNat) = decide (a ≠ b) from by simp [u8_eq]] at h
theorem e_bgt (hx : val l x = some (.int .u8 (a.toNat : Int))) (hy : val l y = some (.int .u8 (b.toNat : Int))) : Ev P n ds l w (.binOp .gtr t x y t2) ty (.bool (decide (b < a))) w := by
  have h := e_gt (P := P) (n := n) (ds := ds) (w := w) (t := t) (t2 := t2) (ty := ty) hx hy
  rwa [show decide ((b.toNat : Int) < a.toNat) = decide (b < a) from by simp [UInt8.lt_iff_toNat_lt]] at h
theorem e_brem (hx : val l x = some (.int .u8 (a.toNat : Int))) (hy : val l y = some (.int .u8 (b.toNat : Int))) (h0 : b ≠ 0) : Ev P n ds l w (.binOp .rem t x y t2) ty (.int .u8 ((a % b).toNat : Int)) w := by
  have hb : 0 < b.toNat := by
    rcases Nat.eq_zero_or_pos b.toNat with h | h
    · exact absurd (UInt8.toNat_inj.1 (by simpa using h)) h0
    · exact h
  have h := e_rem (P := P) (n := n) (ds := ds) (w := w) (t := t) (t2 := t2) (ty := ty) hx hy (by omega) (by omega)
  rwa [show (a.toNat : Int) % b.toNat = ((a % b).toNat : Int) from by rw [UInt8.toNat_mod]; simp] at h
theorem e_bxor (hx : val l x = some (.int .u8 (a.toNat : Int))) (hy : val l y = some (.int .u8 (b.toNat : Int))) : Ev P n ds l w (.binOp .xor t x y t2) ty (.int .u8 ((a ^^^ b).toNat : Int)) w :=
  e_bin hx hy (by
    have hm : ∀ c : UInt8, c.toNat % 2 ^ IntKind.u8.bits = c.toNat := fun c => Nat.mod_eq_of_lt (by have := c.toNat_lt; simpa [IntKind.bits] using this)
    have h2 : ((a.toNat ^^^ b.toNat : Nat) : Int) = ((a ^^^ b).toNat : Int) := by rw [UInt8.toNat_xor]
    simp [eqGuard, binOp, Op.intBits]
    rw [hm, hm, h2, u8_in _ (by decide)])
/-- The byte at a place. -/
def at_ (s : List UInt8) (i : Int) : UInt8 := s.getD i.toNat 0
theorem e_sat (ht : P.underlying t = some .string) (hx : val l x = some (.string (B s))) (hy : val l y = some (.int k i)) (h0 : 0 ≤ i) (h1 : i < s.length) : Ev P n ds l w (.index t x y) ty (.int .u8 ((at_ s i).toNat : Int)) w :=
  e_sidx ht hx hy h0 (by
    have : i.toNat < s.length := by omega
    rw [List.getElem?_eq_getElem this, at_, List.getD_eq_getElem?_getD, List.getElem?_eq_getElem this]; rfl)
theorem conv_blk {e : TypeId} {b : Nat} {s : List UInt8} (hs : P.underlying t1 = some (.slice e)) (he : P.underlying e = some (.int .u8)) (hd : P.underlying t2 = some .string) {m cap : Nat} {t' : TypeId}
    (hb : Blk w b t' (s.map fun c => .int .u8 (c.toNat : Int))) (hm : s.length = m) : (convert t1 t2 (.slice (some ⟨b, 0, none⟩) m cap)).run P w = .ok (.string (B s)) w := by
  subst hm
  exact conv_bytes hs he hd fun i c h => by rw [Nat.zero_add]; exact hb.cell (by rw [List.getElem?_map, h]; rfl)

/-! ### Elements -/
/-- Cell o of element i of the slice at A, whose elements have k cells. -/
def el (A : Option Addr) (k : Nat) (i : Int) (o : Nat) : Addr := (A.getD ⟨0, 0, none⟩).add (i.toNat * k + o)
variable {α : Type} {A : Option Addr} {kk m cp : Nat} {enc : α → List Value} {xs : List α} {e : α} {o sz : Nat}
theorem Rd.el {e : α} (h : Rd w A kk enc xs) (hi : xs[i.toNat]? = some e) : A = some (A.getD ⟨0, 0, none⟩) ∧ ∀ o v, (enc e)[o]? = some v → w.cell? (el A kk i o) = some v := by
  obtain ⟨ad, rfl, hc⟩ := h.at_ hi
  exact ⟨rfl, fun o v hv => hc o v hv⟩
theorem e_idxEl {et : TypeId} (ht : P.underlying t = some (.slice et)) (hsz : ∀ w, (sizeOf et).run P w = .ok kk w) (hx : val l x = some (.slice A m cp)) (hy : val l y = some (.int k i)) (hR : Rd w A kk enc xs) (hi : xs[i.toNat]? = some e) (h0 : 0 ≤ i) (hm : m = xs.length) :
    Ev P n ds l w (.indexAddr t x y) ty (.pointer (some (el A kk i 0))) w := by
  have hlt : i.toNat < xs.length := by
    rcases Nat.lt_or_ge i.toNat xs.length with h | h
    · exact h
    · rw [List.getElem?_eq_none h] at hi; cases hi
  have hA := (hR.el hi).1
  rw [hA] at hx
  have h := e_idxAddr (P := P) (n := n) (ds := ds) (w := w) (ty := ty) ht hsz hx hy h0 (by omega)
  exact h
theorem e_fieldEl {fs : Array Field} {f : Field} {fi fsz : Nat} (ht : P.underlying t = some (.struct fs)) (hf : fs[fi]? = some f) (hsz : ∀ w, (sizeOf f.type).run P w = .ok fsz w) (h0 : fsz ≠ 0) (ho : f.offset = o) (hx : val l x = some (.pointer (some (el A kk i 0)))) :
    Ev P n ds l w (.fieldAddr t x fi) ty (.pointer (some (el A kk i o))) w := by
  have h := e_field (P := P) (n := n) (ds := ds) (w := w) (ty := ty) ht hf hsz h0 hx
  rw [ho, el, addadd] at h
  exact h
theorem e_ldEl (hx : val l x = some (.pointer (some (el A kk i o)))) (hR : Rd w A kk enc xs) (hi : xs[i.toNat]? = some e) (hagg : ∀ w, (isAgg t).run P w = .ok false w) (hv : (enc e)[o]? = some v) : Ev P n ds l w (.load t x) ty v w :=
  e_load hx (load1 hagg ((hR.el hi).2 o v hv))
theorem e_ldElA (hx : val l x = some (.pointer (some (el A kk i 0)))) (hR : Rd w A kk enc xs) (hi : xs[i.toNat]? = some e) (hagg : ∀ w, (isAgg t).run P w = .ok true w) (hsz : ∀ w, (sizeOf t).run P w = .ok kk w) (hk : (enc e).length = kk) : Ev P n ds l w (.load t x) ty (.agg (enc e).toArray) w :=
  e_load hx (by
    have := Rd.load (P := P) (w := w) (t := t) (k := kk) (enc := enc) (x := e) (j := i.toNat) (ad := A.getD ⟨0, 0, none⟩) hagg hsz hk (fun o v hv => (hR.el hi).2 o v hv)
    exact this)
end

/-! ### Stores into a block that is known whole -/
section
variable {r : Option Nat} {P : Program} {n : Nat} {ds : List Deferred} {ops : Array Oper} {q : QQ} {l : Env} {w w1 : World} {rest : List Oper} {ty t t' : TypeId} {pos : String} {aft : Array Edge} {d : Nat} {v u : Value} {x y : Operand} {cs vs : List Value} {b o i : Nat} {tail : List Nat}
theorem Mut.setRow (w : World) (b : Nat) (cs : Array Value) : Mut w (w.setRow b cs) b := ⟨rfl, rfl, rfl, by simp [World.setRow], fun k _ hne => setRow_other _ _ _ _ (by simpa using hne)⟩
theorem blk_store (hb : Blk w b t' cs) (hu : u.cells = vs.toArray) (hsz : ∀ w, (sizeOf t).run P w = .ok vs.length w) (ho : o + vs.length ≤ cs.length) (h1 : vs.all (·.oneCell') = true) :
    ∃ w1, (storeVar t ⟨b, o, none⟩ u).run P w = .ok () w1 ∧ Blk w1 b t' (cs.take o ++ vs ++ cs.drop (o + vs.length)) ∧ Mut w w1 b ∧ w1.heap.size = w.heap.size := by
  refine ⟨_, ?_, setRow_heap w b _ _ _ _ hb, Mut.setRow w b _, by simp [World.setRow]⟩
  have h := run_storeCells_at (P := P) b o t' vs 0 cs.toArray w hb (by simpa using ho) (fun v hv => List.all_eq_true.1 h1 v hv)
  simp only [storeVar, Sem.run_bind, hsz, Result.andThen_ok, hu]
  rw [if_neg (by simp)]
  simpa using h
theorem su_blkV (vs : List Value) (cs' : List Value) (hx : val l x = some (.pointer (some ⟨b, o, none⟩))) (hy : val l y = some u) (hb : Blk w b t' cs) (hu : u.cells = vs.toArray) (hsz : ∀ w, (sizeOf t).run P w = .ok vs.length w) (ho : o + vs.length ≤ cs.length) (h1 : vs.all (·.oneCell') = true) (hcs : cs.take o ++ vs ++ cs.drop (o + vs.length) = cs')
    (h : ∀ w1, Blk w1 b t' cs' → Mut w w1 b → w1.heap.size = w.heap.size → SL r P n ds ops q rest l w1) : SL r P n ds ops q (⟨none, .store t x y, ty, pos, aft, none⟩ :: rest) l w := by
  obtain ⟨w1, hr, hb', hm, hs⟩ := blk_store (P := P) (t := t) hb hu hsz ho h1
  subst hcs
  exact su (u_store hx hy hr) (h w1 hb' hm hs)
theorem st_blkV (vs : List Value) (cs' : List Value) (hop : ops[i]? = some ⟨none, .store t x y, ty, pos, aft, none⟩) (hx : val l x = some (.pointer (some ⟨b, o, none⟩))) (hy : val l y = some u) (hb : Blk w b t' cs) (hu : u.cells = vs.toArray) (hsz : ∀ w, (sizeOf t).run P w = .ok vs.length w) (ho : o + vs.length ≤ cs.length) (h1 : vs.all (·.oneCell') = true) (hcs : cs.take o ++ vs ++ cs.drop (o + vs.length) = cs')
    (h : ∀ w1, Blk w1 b t' cs' → Mut w w1 b → w1.heap.size = w.heap.size → ST r P n ds ops q tail l w1) : ST r P n ds ops q (i :: tail) l w := by
  obtain ⟨w1, hr, hb', hm, hs⟩ := blk_store (P := P) (t := t) hb hu hsz ho h1
  subst hcs
  exact st_un hop (u_store hx hy hr) (h w1 hb' hm hs)
/-- A new block in a region whose order is drawn. -/
theorem alloc_box (w : World) (t : TypeId) (cs : List Value) : ∃ b, w.heap.size = b ∧ Blk (w.alloc (.cells cs.toArray t)) b t cs := ⟨_, rfl, Blk.new w t cs⟩
theorem below_mut {B : Nat} {w0 : World} (h : Below B w0 w) (hB : B ≤ w.heap.size) (hm : Mut w w1 b) (hb : B ≤ b) : Below B w0 w1 := hm.below h hB hb
end
section
variable {r : Option Nat} {P : Program} {n : Nat} {ds : List Deferred} {ops : Array Oper} {q : QQ} {l l' : Env} {w : World} {rest : List Oper} {ty : TypeId} {pos : String} {aft : Array Edge} {d j t : Nat} {o : Op} {want : Bool} {J : Nat → Env → World → Prop} {m : Nat}
/-- A guard on an operation that was left out. -/
theorem Ok.unwanted {a : Act} {o : Oper} (ha : Ok n ds l a) (hg : o.guard = some (j, want)) (hs : guardSlot ops j = some t) (hb : l.lookup t = some undef) : Region.wanted o (Go.yielded ops a.tmps) = false := by
  have h1 := ha.get t _ hb
  unfold Region.wanted
  rw [hg]
  have : Go.yielded ops a.tmps j = none := by
    unfold Go.yielded
    unfold guardSlot at hs
    rw [hs]
    simp only [Option.bind_some]
    rw [Array.getD_eq_getD_getElem?] at h1
    cases ht : a.tmps[t]? with
    | none => rfl
    | some u => rw [ht] at h1; simp at h1; subst h1; rfl
  simp only [this]
  rfl
theorem sl_gskipU (hs : guardSlot ops j = some t) (hb : l.lookup t = some undef) (hd : d < n) (h : SL r P n ds ops q rest ((d, undef) :: l) w) : SL r P n ds ops q (⟨some d, o, ty, pos, aft, some (j, want)⟩ :: rest) l w := fun a ha => by
  refine wpListIn_step fun K hK => ?_
  rw [ha.unwanted (o := ⟨some d, o, ty, pos, aft, some (j, want)⟩) rfl hs hb]
  rw [if_neg (by simp)]
  exact ⟨fun _ _ => trivial, hK _ _ (h _ (ha.put d undef hd))⟩
theorem h_gskipU {l0 : Env} {dsts : List Nat} {Ds : List Pred} {Q : Exit → Act → World → Prop} {a : Act} {i : Nat} (ho : ops[i]? = some ⟨some d, o, ty, pos, aft, some (j, want)⟩) (hs : guardSlot ops j = some t) (hb : l.lookup t = some undef) (ha : Ok n ds l a) (hdi : dsts.getD i 0 = d) (hD : Ds.getD i (fun _ _ => True) undef w) :
    opOne r P ops Q i (fun a' w' => ∃ v, a' = a.put (some (dsts.getD i 0)) v ∧ Ds.getD i (fun _ _ => True) v w' ∧ Ext w w') a w := by
  unfold opOne wpOpIn
  rw [ho]
  dsimp only
  rw [if_neg (by rw [ha.unwanted rfl hs hb]; simp)]
  exact ⟨fun _ _ => trivial, undef, by rw [hdi], hD, Ext.rfl' _⟩
theorem nrm_loopq (hq : q.nrm = LoopEnd n ds J m) (m' : Nat) (l' : Env) (hlt : m' < m) (hJ : J m' l' w) (hs : Sub l' l) : ∀ a, Ok n ds l a → q.nrm a w := by
  rw [hq]
  exact nrm_loop m' l' hlt hJ hs
end
end Go.XK
