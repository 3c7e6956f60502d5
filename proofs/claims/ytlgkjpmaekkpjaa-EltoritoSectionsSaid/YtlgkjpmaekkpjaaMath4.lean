/- Chapter 27 in plain Lean: the state of the decoder within its loop. My own text. -/
import Derived.Test.YtlgkjpmaekkpjaaMath3
import Derived.Test.YtlgkjpmaekkpjaaXKj
set_option linter.unusedVariables false
namespace Go.Proofs.Ytlgkjpmaekkpjaa
open Go.XK Go.RowKit
/-- An entry. -/
abbrev Ent32 := { x : List UInt8 // x.length = 32 }
def raw (pre : List Ent32) : List (List UInt8) := pre.map (·.1)
theorem raw_snoc (pre : List Ent32) (x : Ent32) (rest : List (List UInt8)) : raw (pre ++ [x]) ++ rest = raw pre ++ (x.1 :: rest) := by simp [raw]
theorem E_length (s : List UInt8) : ∀ k, k ≤ 64 → (E s (64 - k)).length = k
  | 0, _ => rfl
  | k + 1, h => by
    rw [E_cons (by omega), List.length_cons, show 64 - (k + 1) + 1 = 64 - k from by omega, E_length s k (by omega)]
theorem E_drop (s : List UInt8) : ∀ k, k ≤ 64 → (E s 0).drop k = E s k
  | 0, _ => rfl
  | k + 1, h => by
    have := E_drop s k (by omega)
    rw [← List.drop_drop, this, E_cons (by omega)]
    rfl
theorem E_get {s : List UInt8} {k : Nat} (h : k < 64) : (E s 0)[k]? = some (sub s (32 * (k : Int)) 32) := by
  have h1 : ((E s 0).drop k)[0]? = some (sub s (32 * (k : Int)) 32) := by rw [E_drop s k (by omega), E_cons h]; rfl
  rwa [List.getElem?_drop, Nat.add_zero] at h1
/-- What holds ahead of each round. -/
def DI (w0 : World) (s : List UInt8) (b2 b3 b4 b5 b6 b7 b8 b9 b15 : Nat) (pre : List Ent32) (W : World) : Prop :=
  ∃ (t : St) (v : Value), (∀ rest, runS init (raw pre ++ rest) = runS t rest) ∧ t.out.length ≤ pre.length ∧ (0 ≤ t.left ∧ t.left ≤ 65535) ∧ (0 ≤ t.hd ∧ t.hd ≤ pre.length) ∧ Ext w0 W ∧ Go.XK.Own W w0.heap.size 34 6 Img.enc v t.out ∧
    Blk W b2 22 [.slice none 0 0] ∧ Blk W b3 24 [.int .i64 0] ∧ Blk W b4 22 [v] ∧ Blk W b5 3 [.int .i64 t.p] ∧ Blk W b6 3 [.int .i64 t.left] ∧ Blk W b7 4 [.bool t.more] ∧ Blk W b8 4 [.bool t.first] ∧ Blk W b9 3 [.int .i64 t.hd] ∧ Blk W b15 9 [.string (B s)]
/-- What holds where the function returns out of a round. -/
def DX (w0 : World) (b2 b3 : Nat) (pre : List Ent32) (W : World) : Prop :=
  ∃ (vs : Value) (e : Int) (o : List Img), (∀ rest, runS init (raw pre ++ rest) = (o, e)) ∧ Ext w0 W ∧ Go.XK.Own W w0.heap.size 34 6 Img.enc vs o ∧ Blk W b2 22 [vs] ∧ Blk W b3 24 [.int .i64 e]
theorem DI.own {w0 : World} {s : List UInt8} {b2 b3 b4 b5 b6 b7 b8 b9 b15 D : Nat} (hD : w0.heap.size ≤ D) : OwnFrom D (DI w0 s b2 b3 b4 b5 b6 b7 b8 b9 b15) := fun pre A C row ⟨t, v, h1, h2, h3, h4, hx, ho, k2, k3, k4, k5, k6, k7, k8, k9, k15⟩ hg hr =>
  ⟨t, v, h1, h2, h3, h4, ext_rowed hx hg hr hD, Own.rowed ho hg hr, k2.rowed hg hr, k3.rowed hg hr, k4.rowed hg hr, k5.rowed hg hr, k6.rowed hg hr, k7.rowed hg hr, k8.rowed hg hr, k9.rowed hg hr, k15.rowed hg hr⟩
theorem DX.own {w0 : World} {b2 b3 D : Nat} (hD : w0.heap.size ≤ D) : OwnFrom D (DX w0 b2 b3) := fun pre A C row ⟨vs, e, o, h1, hx, ho, k2, k3⟩ hg hr =>
  ⟨vs, e, o, h1, ext_rowed hx hg hr hD, Own.rowed ho hg hr, k2.rowed hg hr, k3.rowed hg hr⟩
theorem i64_rdle2 (x : List UInt8) (p : Int) (h : 0 ≤ p) (hl : p + 2 ≤ x.length) : 0 ≤ rdle (sub x p 2) ∧ rdle (sub x p 2) ≤ 65535 := by
  have h1 := rdle_bound (sub x p 2)
  rw [sub_length h (by omega)] at h1
  omega
/-! ### One round -/
section
variable {pre : List Ent32} {x : Ent32} {t : St}
theorem round_inr {r : List Img × Int} (h : ∀ rest, runS init (raw pre ++ rest) = runS t rest) (hs : stepR t x.1 = .inr r) : ∀ rest, runS init (raw (pre ++ [x]) ++ rest) = r := fun rest => by
  rw [raw_snoc, h, runS_inr hs]
theorem round_inl {t' : St} (h : ∀ rest, runS init (raw pre ++ rest) = runS t rest) (hs : stepR t x.1 = .inl t') : ∀ rest, runS init (raw (pre ++ [x]) ++ rest) = runF t' rest := fun rest => by
  rw [raw_snoc, h, runS_inl hs]
theorem keyX {y : List UInt8} (hy : y.length = 32) : ((decide (at_ y 0 ≠ 1) || decide ((y.take y.length).drop 30 ≠ [85, 170])) || decide (wsum 0 y ≠ 0)) = true ↔ (at_ y 0 ≠ 1 ∨ y.drop 30 ≠ [85, 170] ∨ wsum 0 y ≠ 0) := by
  rw [List.take_length]
  simp [or_assoc]
end
end Go.Proofs.Ytlgkjpmaekkpjaa
