/- The calculus of the walks, part 13: objects that a method turns. My own text. -/
import Derived.Test.YtnbclhbpjlpcoaaXKl
set_option linter.unusedVariables false
set_option linter.unusedSimpArgs false
namespace Go.XK
open Go.RowKit
/-- A step that turns block b and the own row v (which is v' then) alone, or makes new ones. -/
def Fr2 (w w' : World) (b : Nat) (v v' : Value) : Prop := w.heap.size ≤ w'.heap.size ∧ (∀ (k : Nat) (o : Obj), w.heap[k]? = some o → k ≠ b → v.ownBlock ≠ some k → w'.heap[k]? = some o) ∧ ∀ g, v'.ownBlock = some g → v.ownBlock = some g ∨ w.heap.size ≤ g
section
variable {w w1 w2 : World} {b b' : Nat} {v v1 v2 u : Value} {α β : Type} {enc : α → List Value} {enc2 : β → List Value} {xs : List α} {zs : List β} {e e2 t : TypeId} {kk k2 b0 b2 c : Nat} {cs : List Value}
theorem Fr2.rfl' (w : World) (b : Nat) (v : Value) : Fr2 w w b v v := ⟨Nat.le_refl _, fun _ _ h _ _ => h, fun _ h => .inl h⟩
theorem Fr2.ext (h : Fr2 w w1 b v v1) (he : Ext w1 w2) : Fr2 w w2 b v v1 := ⟨Nat.le_trans h.1 he.size, fun k o hk h1 h2 => he.blk (h.2.1 k o hk h1 h2), h.2.2⟩
theorem Fr2.mut (h : Fr2 w w1 b v v1) (hm : Mut w1 w2 b') (hb : b' = b ∨ w.heap.size ≤ b') : Fr2 w w2 b v v1 := ⟨Nat.le_trans h.1 hm.size, fun k o hk h1 h2 => hm.blk (h.2.1 k o hk h1 h2) (fun e => by
  have := (Array.getElem?_eq_some_iff.1 hk).1
  rcases hb with hb | hb
  · exact h1 (e.trans hb)
  · omega), h.2.2⟩
theorem grown_blk (hg : w1.grownBy w2 u.ownBlock) {k : Nat} {o : Obj} (hk : w1.heap[k]? = some o) (hne : u.ownBlock ≠ some k) : w2.heap[k]? = some o := (hg.block k (Array.getElem?_eq_some_iff.1 hk).1 (fun e => hne e.symm)).trans hk
theorem Fr2.grow (h : Fr2 w w1 b v v1) (hg : w1.grownBy w2 v1.ownBlock) (hat : v2.ownBlock = v1.ownBlock ∨ v2.ownBlock = some w1.heap.size) : Fr2 w w2 b v v2 := by
  refine ⟨Nat.le_trans h.1 hg.size, fun k o hk h1 h2 => grown_blk hg (h.2.1 k o hk h1 h2) (fun e => ?_), fun g hgg => ?_⟩
  · rcases h.2.2 k e with h3 | h3
    · exact h2 h3
    · have := (Array.getElem?_eq_some_iff.1 hk).1
      omega
  · rcases hat with hat | hat
    · rw [hat] at hgg; exact h.2.2 g hgg
    · rw [hat] at hgg; injection hgg with hgg
      exact .inr (by rw [← hgg]; exact h.1)
theorem Fr2.own (h : Fr2 w w1 b v v1) (ho : Own w1 w.heap.size e kk enc u xs) (hg : w1.grownBy w2 u.ownBlock) : Fr2 w w2 b v v1 := ⟨Nat.le_trans h.1 hg.size, fun k o hk h1 h2 => grown_blk hg (h.2.1 k o hk h1 h2) (fun e => by
  have := (Own.lt ho k e).1
  have := (Array.getElem?_eq_some_iff.1 hk).1
  omega), h.2.2⟩
theorem Fr2.tr (h : Fr2 w w1 b v v1) (k : Fr2 w1 w2 b v1 v2) : Fr2 w w2 b v v2 := ⟨Nat.le_trans h.1 k.1, fun i o hi h1 h2 => k.2.1 i o (h.2.1 i o hi h1 h2) h1 (fun e => by
  rcases h.2.2 i e with h3 | h3
  · exact h2 h3
  · have := (Array.getElem?_eq_some_iff.1 hi).1
    omega), fun g hg => by
  rcases k.2.2 g hg with h3 | h3
  · exact h.2.2 g h3
  · exact .inr (Nat.le_trans h.1 h3)⟩
theorem Fr2.nil (h : Fr2 w w1 b v v1) : Fr2 w w1 b v (.slice none 0 0) := ⟨h.1, h.2.1, fun g hg => by cases hg⟩
theorem Blk.fr2 (h : Blk w c t cs) (hf : Fr2 w w1 b v v1) (h1 : c ≠ b) (h2 : v.ownBlock ≠ some c) : Blk w1 c t cs := hf.2.1 _ _ h h1 h2
theorem Own.fr2 {t' : TypeId} {cs' : List Value} (h2 : Own w b2 e2 k2 enc2 v2 zs) (hf : Fr2 w w1 b v v1) (hb : Blk w b t' cs') (ho : Own w b0 e kk enc v xs) (hne : e2 ≠ t') (hne2 : e ≠ e2) : Own w1 b2 e2 k2 enc2 v2 zs := by
  refine ⟨h2.1, ?_⟩
  rcases h2.2 with h | ⟨g, cap, cur, hv, hg, hh, r⟩
  · exact .inl h
  · refine .inr ⟨g, cap, cur, hv, hg, hf.2.1 _ _ hh (fun e_ => ?_) (Own.ne ho hh hne2), r⟩
    subst e_
    unfold Blk at hb
    rw [hb] at hh
    injection hh with hh
    injection hh with _ h3 _
    exact hne h3.symm
theorem Rd.fr2 {A : Option Addr} (h : Rd w A kk enc xs) (hf : Fr2 w w1 b v v1) (hne : xs = [] ∨ ∀ ad, A = some ad → ad.block ≠ b ∧ v.ownBlock ≠ some ad.block) : Rd w1 A kk enc xs := by
  rcases hne with hne | hne
  · exact .inl hne
  rcases h with h | ⟨ad, hA, h⟩
  · exact .inl h
  · refine .inr ⟨ad, hA, fun j x hj i u hu => ?_⟩
    have hc := h j x hj i u hu
    have hb : (ad.add (j * kk + i)).block = ad.block := by unfold Addr.add; split <;> rfl
    unfold World.cell? at hc ⊢
    rw [hb] at hc ⊢
    cases ho : w.heap[ad.block]? with
    | none => simp [ho] at hc
    | some o =>
      rw [hf.2.1 _ _ ho (hne ad hA).1 (hne ad hA).2]
      rw [ho] at hc
      have hadd : (ad.add (j * kk + i)) = (ad.add (j * kk + i)) := rfl
      exact hc
/-- A row of one's own lies in a block of its element type: where a row of another type and a box lie elsewhere. -/
theorem Own.apart {t' : TypeId} {cs' : List Value} (h2 : Own w b2 e2 k2 enc2 v2 zs) (hb : Blk w b t' cs') (ho : Own w b0 e kk enc v xs) (hne : e2 ≠ t') (hne2 : e ≠ e2) : zs = [] ∨ ∀ ad, ownA v2 = some ad → ad.block ≠ b ∧ v.ownBlock ≠ some ad.block := by
  rcases h2.2 with ⟨rfl, h0⟩ | ⟨g, cap, cur, rfl, _, hh, _⟩
  · exact .inl (List.eq_nil_of_length_eq_zero h0)
  · refine .inr fun ad had => ?_
    have had : (some ⟨g, 0, none⟩ : Option Addr) = some ad := had
    obtain rfl := Option.some.inj had
    refine ⟨fun e_ => ?_, Own.ne ho hh hne2⟩
    have e_ : g = b := e_
    subst e_
    unfold Blk at hb
    rw [hb] at hh
    injection hh with hh
    injection hh with _ h3 _
    exact hne h3.symm
theorem Rd.below {A : Option Addr} (h : Rd w A kk enc xs) (hk : ∀ x, (enc x).length = kk) (hk0 : 0 < kk) : xs = [] ∨ ∀ ad, A = some ad → ad.block < w.heap.size := by
  rcases h with h | ⟨ad, hA, h⟩
  · exact .inl h
  · cases xs with
    | nil => exact .inl rfl
    | cons x xs =>
      refine .inr fun ad' hA' => ?_
      rw [hA] at hA'
      obtain rfl := Option.some.inj hA'
      obtain ⟨u, hu⟩ : ∃ u, (enc x)[0]? = some u := ⟨_, List.getElem?_eq_getElem (by rw [hk]; exact hk0)⟩
      have hc := h 0 x rfl 0 u hu
      have hb : (ad.add (0 * kk + 0)).block = ad.block := by unfold Addr.add; split <;> rfl
      unfold World.cell? at hc
      rw [hb] at hc
      cases ho : w.heap[ad.block]? with
      | none => simp [ho] at hc
      | some o => exact (Array.getElem?_eq_some_iff.1 ho).1
end
section
variable {r : Option Nat} {P : Program} {n : Nat} {ds : List Deferred} {ops : Array Oper} {q : QQ} {l : Env} {w w0 w1 : World} {rest : List Oper} {ty t e : TypeId} {pos : String} {aft : Array Edge} {d i kk : Nat} {v : Value} {x y : Operand} {α : Type} {enc : α → List Value} {xs : List α} {tail : List Nat}
theorem st_appendLit2 {w0 : World} {z : Value} {bytes m b : Nat} {t2 : TypeId} {cs : List Value} (hop : ops[i]? = some ⟨some d, .call ⟨.builtin .append, #[x, y], #[t, t]⟩, ty, pos, aft, none⟩) (hx : val l x = some v) (hy : val l y = some (.slice (some ⟨b, 0, none⟩) m m)) (ht : P.underlying t = some (.slice e)) (hi : (P.info? e).map (fun i => (i.zero, i.size, i.bytes)) = some (some z, kk, bytes)) (hz : z.cells.size = kk) (hk0 : 0 < kk) (hk : ∀ x, (enc x).length = kk) (h1 : ∀ x, ∀ u ∈ enc x, u.oneCell' = true)
    (ys : List α) (ho : Own w w0.heap.size e kk enc v xs) (hext : Ext w0 w) (hb : Blk w b t2 cs) (hcs : ys.flatMap enc = cs) (hm : ys.length = m) (hlen : xs.length + m ≤ maxLen) (hbytes : (xs.length + m) * bytes ≤ 140737488355328)
    (h : ∀ v' w1, Own w1 w0.heap.size e kk enc v' (xs ++ ys) → Ext w0 w1 → w.grownBy w1 v.ownBlock → (v'.ownBlock = v.ownBlock ∨ v'.ownBlock = some w.heap.size) → ST r P n ds ops q tail ((d, v') :: l) w1) (hd : d < n := by decide) : ST r P n ds ops q (i :: tail) l w := by
  subst hcs
  obtain ⟨v', w1, hr, ho', hg, hat, _⟩ := Own.append (P := P) (ty := ty) (A := ⟨b, 0, none⟩) (c := m) ht hi hz hk0 hk h1 ho hm (fun j u hj => by rw [add0, Nat.zero_add]; exact hb.cell hj) (Below.size hext) hlen hbytes
  exact st_ev hop (e_append hx hy hr) (h v' w1 ho' (hext.grown ho hg) hg hat) rfl hd
/-- xs[lo:hi:mx] -/
theorem e_sl3 {y1 y2 y3 : Operand} {k1 k2 k3 : IntKind} {lo hi mx sz len cap : Nat} {A : Option Addr} (ht : P.underlying t = some (.slice e)) (hsz : ∀ w, (sizeOf e).run P w = .ok sz w) (hx : val l x = some (.slice A len cap)) (h1 : val l y1 = some (.int k1 (lo : Int))) (h2 : val l y2 = some (.int k2 (hi : Int))) (h3 : val l y3 = some (.int k3 (mx : Int))) (hl : lo ≤ hi) (hh : hi ≤ mx) (hm : mx ≤ cap) (hlt : lo < mx) :
    Ev P n ds l w (.slice t x (some y1) (some y2) (some y3)) ty (.slice (A.map (·.add (lo * sz))) (hi - lo) (mx - lo)) w :=
  e_run (S := fun a => Instr.sliceAt t (a.eval x) (some (a.eval y1)) (some (a.eval y2)) (some (a.eval y3))) (fun _ _ _ _ _ => rfl) fun a ha => by
    rw [ha.eval hx, ha.eval h1, ha.eval h2, ha.eval h3]
    simp only [Instr.sliceAt, Instr.slice, Instr.sliceBounds, Sem.run_bind, Sem.run_pure, Result.andThen_ok, run_underlying ht, Option.isSome_some, if_true, run_bound hm, run_bound hh, run_bound hl, hsz]
    rw [if_neg (by omega)]
end
end Go.XK
namespace Go.XK
open Go.RowKit
section
variable {r : Option Nat} {P : Program} {n : Nat} {ds : List Deferred} {ops : Array Oper} {q : QQ} {l : Env} {w w1 : World} {rest : List Oper} {ty t e dT sT : TypeId} {pos : String} {aft : Array Edge} {d b o dl dc sl sc i m lo hi : Nat} {x y : Operand} {k : IntKind} {a : Addr} {cs ns : List Value} {tail : List Nat}
theorem s_copyX (ns : List Value) (m : Nat) (cs' : List Value) (hx : val l x = some (.slice (some ⟨b, o, none⟩) dl dc)) (hy : val l y = some (.slice (some a) sl sc)) (hb : Blk w b t cs) (hu : P.underlying dT = some (.slice e)) (hs : (P.info? e).map (·.size) = some 1) (hl : ns.length = m) (hn : m = Nat.min sl dl) (hsrc : ∀ j v, ns[j]? = some v → w.cell? (a.add j) = some v) (hfit : o + m ≤ cs.length) (h1 : ∀ v ∈ ns, v.oneCell' = true) (hcs : cs.take o ++ ns ++ cs.drop (o + m) = cs')
    (h : ∀ w1, Blk w1 b t cs' → Mut w w1 b → w1.heap.size = w.heap.size → SL r P n ds ops q rest ((d, .int .i64 (m : Int)) :: l) w1) (hd : d < n := by decide) : SL r P n ds ops q (⟨some d, .call ⟨.builtin .copy, #[x, y], #[dT, sT]⟩, ty, pos, aft, none⟩ :: rest) l w := by
  subst hl
  subst hcs
  exact s_copyB ns hx hy hb hu hs hn hsrc hfit h1 h hd
theorem st_copyX (ns : List Value) (m : Nat) (cs' : List Value) (hop : ops[i]? = some ⟨some d, .call ⟨.builtin .copy, #[x, y], #[dT, sT]⟩, ty, pos, aft, none⟩) (hx : val l x = some (.slice (some ⟨b, o, none⟩) dl dc)) (hy : val l y = some (.slice (some a) sl sc)) (hb : Blk w b t cs) (hu : P.underlying dT = some (.slice e)) (hs : (P.info? e).map (·.size) = some 1) (hl : ns.length = m) (hn : m = Nat.min sl dl) (hsrc : ∀ j v, ns[j]? = some v → w.cell? (a.add j) = some v) (hfit : o + m ≤ cs.length) (h1 : ∀ v ∈ ns, v.oneCell' = true) (hcs : cs.take o ++ ns ++ cs.drop (o + m) = cs')
    (h : ∀ w1, Blk w1 b t cs' → Mut w w1 b → w1.heap.size = w.heap.size → ST r P n ds ops q tail ((d, .int .i64 (m : Int)) :: l) w1) (hd : d < n := by decide) : ST r P n ds ops q (i :: tail) l w := by
  subst hl
  subst hcs
  exact st_copyB ns hop hx hy hb hu hs hn hsrc hfit h1 h hd
theorem e_slLo (lo : Nat) (ht : P.underlying t = some (.slice e)) (hsz : ∀ w, (sizeOf e).run P w = .ok 1 w) (hx : val l x = some (.slice (some ⟨b, 0, none⟩) m m)) (hy : val l y = some (.int k (lo : Int))) (hlo : lo < m) : Ev P n ds l w (.slice t x (some y) none none) ty (.slice (some ⟨b, lo, none⟩) (m - lo) (m - lo)) w := by
  have h := e_slslice (P := P) (n := n) (ds := ds) (w := w) (ty := ty) (lo := lo) (hi := m) (z := none) ht hsz hx (Bd.at_ hy rfl) Bd.no (Nat.le_of_lt hlo) (Nat.le_refl _)
  rw [if_neg (by omega)] at h
  have h2 : (some (⟨b, 0, none⟩ : Addr)).map (·.add (lo * 1)) = some ⟨b, lo, none⟩ := by
    show some (Addr.add ⟨b, 0, none⟩ (lo * 1)) = some _
    rw [Addr.add_lit, Nat.zero_add, Nat.mul_one]
  rw [h2] at h
  exact h
theorem e_slHi (hi : Nat) (ht : P.underlying t = some (.slice e)) (hsz : ∀ w, (sizeOf e).run P w = .ok 1 w) (hx : val l x = some (.slice (some ⟨b, 0, none⟩) m m)) (hy : val l y = some (.int k (hi : Int))) (hhi : hi ≤ m) : Ev P n ds l w (.slice t x none (some y) none) ty (.slice (some ⟨b, 0, none⟩) hi m) w := by
  have h := e_slslice (P := P) (n := n) (ds := ds) (w := w) (ty := ty) (lo := 0) (hi := hi) (y := none) ht hsz hx Bd.no (Bd.at_ hy rfl) (Nat.zero_le _) hhi
  have h2 : (if m = 0 then some (⟨b, 0, none⟩ : Addr) else (some (⟨b, 0, none⟩ : Addr)).map (·.add (0 * 1))) = some ⟨b, 0, none⟩ := by
    split
    · rfl
    · show some (Addr.add ⟨b, 0, none⟩ (0 * 1)) = some _
      rw [Addr.add_lit]
  rw [h2, Nat.sub_zero, Nat.sub_zero] at h
  exact h
end
end Go.XK
namespace Go.XK
open Go.RowKit
section
variable {P : Program} {n : Nat} {ds : List Deferred} {l : Env} {w : World} {ty t e : TypeId} {x : Operand}
theorem e_sl3x {y1 y2 y3 : Operand} {k1 k2 k3 : IntKind} {i1 i2 i3 : Int} (lo hi mx m1 m2 : Nat) {sz len cap : Nat} {A : Option Addr} (ht : P.underlying t = some (.slice e)) (hsz : ∀ w, (sizeOf e).run P w = .ok sz w) (hx : val l x = some (.slice A len cap)) (h1 : val l y1 = some (.int k1 i1)) (h2 : val l y2 = some (.int k2 i2)) (h3 : val l y3 = some (.int k3 i3)) (e1 : i1 = lo) (e2 : i2 = hi) (e3 : i3 = mx) (hl : lo ≤ hi) (hh : hi ≤ mx) (hm : mx ≤ cap) (hlt : lo < mx) (hm1 : hi - lo = m1) (hm2 : mx - lo = m2) :
    Ev P n ds l w (.slice t x (some y1) (some y2) (some y3)) ty (.slice (A.map (·.add (lo * sz))) m1 m2) w := by
  subst e1 e2 e3 hm1 hm2
  exact e_sl3 ht hsz hx h1 h2 h3 hl hh hm hlt
end
end Go.XK
