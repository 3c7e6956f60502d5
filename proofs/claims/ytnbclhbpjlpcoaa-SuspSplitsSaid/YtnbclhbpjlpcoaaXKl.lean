/- The calculus of the walks, part 12: rows that are copied and written, loops over a function with jumps, nil. My own text. -/
import Derived.Test.YtnbclhbpjlpcoaaXKr
import Derived.Lib.SliceRun
import Derived.Laws.OwnMore
import Derived.Laws.CopyRow
import Derived.Laws.Runes
set_option linter.unusedVariables false
set_option linter.unusedSimpArgs false
namespace Go.XK
open Go.RowKit
/-- A slice that is read, as an argument: at A, of capacity c, the elements xs. -/
def SlR {α : Type} (w : World) (A : Option Addr) (c k : Nat) (enc : α → List Value) (xs : List α) : Prop := Rd w A k enc xs ∧ xs.length ≤ c ∧ c ≤ maxLen ∧ (A = none → c = 0)
section
variable {α : Type} {enc : α → List Value} {w w' : World} {A : Option Addr} {c k : Nat} {xs : List α}
theorem SlR.ext (h : SlR w A c k enc xs) (he : Ext w w') : SlR w' A c k enc xs := ⟨h.1.ext he, h.2⟩
theorem SlR.nil (w : World) : SlR w none 0 k enc ([] : List α) := ⟨Rd.nil _ _ _ _, Nat.le_refl _, Nat.zero_le _, fun _ => rfl⟩
theorem SlR.none_ (h : SlR w A c k enc xs) (hA : A = none) : c = 0 ∧ xs = [] := ⟨h.2.2.2 hA, List.eq_nil_of_length_eq_zero (by have := h.2.1; have := h.2.2.2 hA; omega)⟩
theorem SlR.lenle (h : SlR w A c k enc xs) : xs.length ≤ maxLen := Nat.le_trans h.2.1 h.2.2.1
/-- The address of a slice's value. -/
def ownA : Value → Option Addr
  | .slice A _ _ => A
  | _ => none
def ownC : Value → Nat
  | .slice _ _ c => c
  | _ => 0
variable {base : Nat} {e : TypeId} {v : Value}
theorem Own.val (h : Own w base e k enc v xs) : v = .slice (ownA v) xs.length (ownC v) := by
  rcases h.2 with ⟨rfl, h0⟩ | ⟨g, cap, cur, rfl, hb, hh, h1, h2, h3, h4⟩
  · rw [h0]; rfl
  · rfl
theorem Own.slr (h : Own w base e k enc v xs) (hk : ∀ x, (enc x).length = k) : SlR w (ownA v) (ownC v) k enc xs := by
  obtain ⟨A, c, rfl, h1, h2, h3⟩ := Own.shape h hk
  refine ⟨h3, h1, h2, fun hA => ?_⟩
  have hA : A = none := hA
  subst hA
  rcases h.2 with ⟨h4, _⟩ | ⟨g, cap, cur, h4, _⟩
  · injection h4
  · injection h4 with h4 _ _; cases h4
theorem Own.rd (h : Own w base e k enc v xs) (hk : ∀ x, (enc x).length = k) : Rd w (ownA v) k enc xs := (h.slr hk).1
end
section
variable {r : Option Nat} {P : Program} {n : Nat} {ds : List Deferred} {ops : Array Oper} {q : QQ} {l : Env} {w w0 w1 w' : World} {rest : List Oper} {ty t t1 t2 e : TypeId} {pos : String} {aft : Array Edge} {d : Nat} {u v : Value} {x y z : Operand} {k : IntKind} {i : Int} {α : Type} {enc : α → List Value} {xs ys : List α} {A : Option Addr} {m c kk base : Nat} {tail : List Nat}
theorem e_sleqnil {n' c' : Nat} (ht : P.underlying t = some (.slice e)) (hx : val l x = some (.slice A m c)) (hy : val l y = some (.slice none n' c')) : Ev P n ds l w (.binOp .eql t x y t2) ty (.bool (decide (A = none))) w :=
  e_bin hx hy (by
    have h := Lib.run_eql_slice_nil (P := P) w t e A m c n' c' ht
    rw [show A.isNone = decide (A = none) from by cases A <;> rfl] at h
    rw [Sem.run_bind, show (eqGuard .eql t x y (.slice A m c) (.slice none n' c')).run P w = .ok () w from by cases A <;> simp [eqGuard, go_sem], Result.andThen_ok, h])
/-- append(v, xs..) where xs is read. -/
theorem own_appendRd {z : Value} {bytes : Nat} (ht : P.underlying t = some (.slice e)) (hi : (P.info? e).map (fun i => (i.zero, i.size, i.bytes)) = some (some z, kk, bytes)) (hz : z.cells.size = kk) (hk0 : 0 < kk) (hk : ∀ x, (enc x).length = kk) (h1 : ∀ x, ∀ u ∈ enc x, u.oneCell' = true)
    (ho : Own w base e kk enc v xs) (hr : SlR w A c kk enc ys) (hbase : base ≤ w.heap.size) (hlen : xs.length + ys.length ≤ maxLen) (hbytes : (xs.length + ys.length) * bytes ≤ 140737488355328) :
    ∃ v' w', (Builtin.append_ #[t, t] ty #[v, .slice A ys.length c]).run P w = .ok v' w' ∧ Own w' base e kk enc v' (xs ++ ys) ∧ w.grownBy w' v.ownBlock ∧ (v'.ownBlock = v.ownBlock ∨ v'.ownBlock = some w.heap.size) := by
  cases A with
  | none =>
    obtain ⟨rfl, rfl⟩ := hr.none_ rfl
    obtain ⟨i0, hi', hzz⟩ := Option.map_eq_some_iff.1 hi
    simp only [Prod.mk.injEq] at hzz
    exact ⟨v, w, run_append_owned_none (P := P) w base t ty e i0 kk ht hi' v xs.length _ ho, by rw [List.append_nil]; exact ho, ⟨rfl, rfl, rfl, Nat.le_refl _, fun _ _ _ => rfl⟩, .inl rfl⟩
  | some ad =>
    obtain ⟨v', w', hr', ho', hg, hat, _⟩ := Own.append (P := P) (ty := ty) (A := ad) (c := c) ht hi hz hk0 hk h1 ho rfl (fun j u hj => by
      have hlt : j < ys.length * kk := by
        have := (List.getElem?_eq_some_iff.1 hj).1
        have hl : (ys.flatMap enc).length = ys.length * kk := by
          clear hj hr hlen hbytes this
          induction ys with
          | nil => simp
          | cons y ys ih => rw [List.flatMap_cons, List.length_append, ih, hk, List.length_cons, Nat.add_mul]; omega
        omega
      have hdm : j / kk < ys.length := (Nat.div_lt_iff_lt_mul hk0).2 hlt
      have hj' := flat_get hk ys (j / kk) (j % kk) ys[j / kk] ((enc ys[j / kk])[j % kk]'(by rw [hk]; exact Nat.mod_lt _ hk0)) (List.getElem?_eq_getElem hdm) (List.getElem?_eq_getElem _)
      rw [Nat.div_add_mod' j kk] at hj'
      rw [hj'] at hj
      obtain rfl := Option.some.inj hj
      rcases hr.1 with h0 | ⟨a, ha, hc⟩
      · rw [h0] at hdm; simp at hdm
      · obtain rfl := Option.some.inj ha
        have := hc (j / kk) ys[j / kk] (List.getElem?_eq_getElem hdm) (j % kk) _ (List.getElem?_eq_getElem (by rw [hk]; exact Nat.mod_lt _ hk0))
        rwa [Nat.div_add_mod' j kk] at this) hbase hlen hbytes
    exact ⟨v', w', hr', ho', hg, hat⟩
theorem s_appendRd {z : Value} {bytes : Nat} (hx : val l x = some v) (hy : val l y = some (.slice A m c)) (ht : P.underlying t = some (.slice e)) (hi : (P.info? e).map (fun i => (i.zero, i.size, i.bytes)) = some (some z, kk, bytes)) (hz : z.cells.size = kk) (hk0 : 0 < kk) (hk : ∀ x, (enc x).length = kk) (h1 : ∀ x, ∀ u ∈ enc x, u.oneCell' = true)
    (ys : List α) (ho : Own w w0.heap.size e kk enc v xs) (hext : Ext w0 w) (hr : SlR w A c kk enc ys) (hm : m = ys.length) (hlen : xs.length + ys.length ≤ maxLen) (hbytes : (xs.length + ys.length) * bytes ≤ 140737488355328)
    (h : ∀ v' w1, Own w1 w0.heap.size e kk enc v' (xs ++ ys) → Ext w0 w1 → w.grownBy w1 v.ownBlock → (v'.ownBlock = v.ownBlock ∨ v'.ownBlock = some w.heap.size) → SL r P n ds ops q rest ((d, v') :: l) w1) (hd : d < n := by decide) :
    SL r P n ds ops q (⟨some d, .call ⟨.builtin .append, #[x, y], #[t, t]⟩, ty, pos, aft, none⟩ :: rest) l w := by
  subst hm
  obtain ⟨v', w1, hr, ho', hg, hat⟩ := own_appendRd (P := P) (ty := ty) ht hi hz hk0 hk h1 ho hr (Below.size hext) hlen hbytes
  exact s (e_append hx hy hr) (h v' w1 ho' (hext.grown ho hg) hg hat) rfl hd
/-- v[i], v a row of one's own. -/
theorem e_idxOwn {et : TypeId} {x0 : α} (ht : P.underlying t = some (.slice et)) (hsz : ∀ w, (sizeOf et).run P w = .ok kk w) (hx : val l x = some v) (hy : val l y = some (.int k i)) (ho : Own w base e kk enc v xs) (hk : ∀ x, (enc x).length = kk) (hi : xs[i.toNat]? = some x0) (h0 : 0 ≤ i) :
    Ev P n ds l w (.indexAddr t x y) ty (.pointer (some (el (ownA v) kk i 0))) w :=
  e_idxEl ht hsz (by rw [hx, ho.val]; rfl) hy (ho.rd hk) hi h0 rfl
theorem Own.ofSome (ho : Own w base e kk enc v xs) (hne : xs ≠ []) : ∃ g cap, v = .slice (some ⟨g, 0, none⟩) xs.length cap ∧ base ≤ g := by
  rcases ho.2 with ⟨rfl, h0⟩ | ⟨g, cap, cur, rfl, hb, hh, h1, h2, h3, h4⟩
  · exact absurd (List.eq_nil_of_length_eq_zero h0) hne
  · exact ⟨g, cap, rfl, hb⟩
/-- A cell of a row of one's own is written. -/
theorem su_ownEl {o : Nat} {x0 : α} (ys : List α) (hx : val l x = some (.pointer (some (el (ownA v) kk i o)))) (hy : val l y = some u) (ho : Own w w0.heap.size e kk enc v xs) (hext : Ext w0 w) (hk : ∀ x, (enc x).length = kk) (hi : xs[i.toNat]? = some x0) (hok : o < kk) (hu : u.oneCell' = true) (hcu : u.cells = #[u]) (hsz : ∀ w, (sizeOf t).run P w = .ok 1 w)
    (hlen : ys.length = xs.length) (hys : ys.flatMap enc = (xs.flatMap enc).set (i.toNat * kk + o) u)
    (h : ∀ w1, Own w1 w0.heap.size e kk enc v ys → Ext w0 w1 → w.grownBy w1 v.ownBlock → SL r P n ds ops q rest l w1) : SL r P n ds ops q (⟨none, .store t x y, ty, pos, aft, none⟩ :: rest) l w := by
  have hne : xs ≠ [] := fun h_ => by rw [h_] at hi; simp at hi
  obtain ⟨g, cap, rfl, hb⟩ := ho.ofSome hne
  have hst := World.ownsRow.stored ho (i.toNat * kk + o) u
  have hel : el (ownA (.slice (some ⟨g, 0, none⟩) xs.length cap)) kk i o = ⟨g, i.toNat * kk + o, none⟩ := by
    show (⟨g, 0, none⟩ : Addr).add _ = _
    rw [Addr.add_lit, Nat.zero_add]
  rw [hel] at hx
  have hlt : i.toNat < xs.length := by
    rcases Nat.lt_or_ge i.toNat xs.length with h' | h'
    · exact h'
    · rw [List.getElem?_eq_none h'] at hi; cases hi
  have hj : i.toNat * kk + o < xs.length * kk := by
    have : (i.toNat + 1) * kk ≤ xs.length * kk := Nat.mul_le_mul_right _ hlt
    rw [Nat.add_mul] at this; omega
  have hcell := World.ownsRow.cellAt ho (i.toNat * kk + o) hj
  have hl : (xs.flatMap enc).length = xs.length * kk := ho.1
  rw [List.getElem?_eq_getElem (by rw [hl]; exact hj)] at hcell
  have hg : w.grownBy (w.setCell ⟨g, i.toNat * kk + o, none⟩ u) (Value.slice (some ⟨g, 0, none⟩) xs.length cap).ownBlock := hst.2
  have ho' : Own (w.setCell ⟨g, i.toNat * kk + o, none⟩ u) w0.heap.size e kk enc (.slice (some ⟨g, 0, none⟩) xs.length cap) ys := by
    unfold Own
    rw [hys, hlen]
    exact hst.1
  exact su (u_store hx hy (store1 hsz hcu hu hcell (World.ownsRow.frozenAt ho _))) (h _ ho' (hext.grown ho hg) hg) rfl
end
end Go.XK
namespace Go.XK
open Go.RowKit
section
variable {r : Option Nat} {P : Program} {n m : Nat} {ds : List Deferred} {ops : Array Oper} {q : QQ} {l : Env} {w w0 w1 w' : World} {rest : List Oper} {ty t t1 t2 e : TypeId} {pos : String} {aft : Array Edge} {d : Nat} {u v : Value} {x y z : Operand} {k : IntKind} {i : Int}
theorem e_nilCheck {ad : Addr} (hx : val l x = some (.pointer (some ad))) : Ev P n ds l w (.nilCheck x) ty (.pointer (some ad)) w := fun a _ _ _ _ ha => by
  simp only [execOp, ha.eval hx, Sem.run_pure]
/-- A range over a function, not within a round; its loop variables may be boxed (b); its body ends normally, by 'ret' or by a jump to xid. -/
theorem sc_rangeFx {α β : Type} {g : Operand} {ps : List Tmp} {assign body : Code} {gf : FuncId} {lb : List Value} (encs : α → List Value) (Kp : World → World → Prop) (S Sp : List α → Prop) (N : Nat) (I : List α → World → Prop) (xid : Nat) (Ir Ie : List α → World → Prop) (l1 : α → β → Env) (Bx : α → β → World → Prop)
    (hg : val l g = some (.func (.func gf) #[] lb.toArray)) (he : Ent P gf) (hseq : Iter P gf lb encs Kp S Sp N w) (hps : ∀ x, (encs x).length = ps.length) (hpn : ∀ p ∈ ps, p < n)
    (hKt : ∀ {A B C : World}, Kp A B → Kp B C → Kp A C) (hKb : ∀ (W : World) (k : Nat) (o o' : Obj), w.heap.size ≤ k → W.heap[k]? = some o → o.isCells = false → Kp W (W.putObj k o'))
    (hI : OwnFrom w.heap.size I) (hIr : OwnFrom w.heap.size Ir) (hIe : OwnFrom w.heap.size Ie) (hBx : ∀ x b, OwnFrom w.heap.size (fun (_ : Unit) W => Bx x b W)) (h0 : I [] w)
    (hassign : ∀ (id : Nat) (pre : List α) (x : α) (W : World), I pre W → SC (some id) P n [] assign ⟨fun a' W' => KeepsFrom w.heap.size W W' ∧ Kp W W' ∧ I pre W' ∧ ∃ b, Bx x b W' ∧ Ok n [] (l1 x b) a', fun _ _ => False, []⟩ ((ps.zip (encs x)).reverse ++ l) W)
    (hbody : ∀ (id : Nat) (pre : List α) (x : α) (b : β) (W : World), I pre W → Bx x b W → pre.length < N → SC (some id) P n [] body ⟨fun _ W' => KeepsFrom w.heap.size W W' ∧ Kp W W' ∧ I (pre ++ [x]) W', fun _ W' => KeepsFrom w.heap.size W W' ∧ Ir (pre ++ [x]) W', [(xid, fun _ W' => KeepsFrom w.heap.size W W' ∧ Ie (pre ++ [x]) W')]⟩ (l1 x b) W)
    (hdone : ∀ (D : Nat) (xs : List α) (W : World), w.heap.size ≤ D → S xs → I xs W → W.heap[D]? = some (.deferred (some [])) → ∀ a, Ok n (mark D :: ds) l a → q.nrm a W)
    (hret : ∀ (D : Nat) (pre : List α) (W : World), w.heap.size ≤ D → Sp pre → Ir pre W → W.heap[D]? = some (.deferred (some [])) → ∀ a, Ok n (mark D :: ds) l a → q.ret a W)
    (hexit : ∀ (D : Nat) (pre : List α) (W : World), w.heap.size ≤ D → Sp pre → Ie pre W → W.heap[D]? = some (.deferred (some [])) → ∀ a, Ok n (mark D :: ds) l a → q.fn (.exit xid) a W) :
    SC none P n ds (.rangeFunc g ps.toArray assign body) q l w := fun a ha => by
  refine wr_n 0 (m := 2) ?_
  refine wpIn_rangeFunc_ownH (F := WR none) (n := 2) (P := P) (α := α) rfl (by omega) (gf := gf) (lb := lb.toArray) (ha.eval hg) trivial he (encs := fun x => (encs x).toArray) (Kp := Kp) (S := S) (Sp := Sp) (N := N) (w0 := w) ?_
    hKt (fun W k o o' hk ho hc _ => hKb W k o o' hk ho hc) (Below.refl _ _) (fun x => by simpa using hps x) I (fun c pre W => (c = .ret ∧ Ir pre W) ∨ (c = .exit xid ∧ Ie pre W)) hI ?_ h0 (fun x a' W => ∃ b, Bx x b W ∧ Ok n [] (l1 x b) a') ?_ ?_ ?_ ?_ ?_
  · intro id J Jx W hW hJ hJx hY hj
    have := hseq id J Jx W hW hJ hJx (fun pre x W1 h1 h2 => by
      obtain ⟨fn, tmps, asg, bd, hy, hR⟩ := hY pre x W1 h1 h2
      exact ⟨fn, tmps, asg, bd, hy, wr_round _ hR⟩) hj
    exact (WR_calls (r := none) (n := 2 - 1)).2 ((WR_calls (r := none) (n := 0)).1 this)
  · rintro c s A B row (⟨hc, hs⟩ | ⟨hc, hs⟩) hg2 hr
    · exact .inl ⟨hc, hIr s A B row hs hg2 hr⟩
    · exact .inr ⟨hc, hIe s A B row hs hg2 hr⟩
  · rintro x a' s A B row ⟨b, hb, hok⟩ hg2 hr
    exact ⟨b, hBx x b () A B row hb hg2 hr, hok⟩
  · intro id pre x W K hi hK
    have hz : ((ps.toArray.zip (encs x).toArray).foldl (fun t (p, v) => t.setIfInBounds p v) a.tmps) = ((ps.zip (encs x)).foldl (fun t (p, v) => t.setIfInBounds p v) a.tmps) := by simp
    have h1 := hassign id pre x W hi _ (Ok.params (ps.zip (encs x)) ha (fun p hp => hpn p.1 (List.of_mem_zip hp).1))
    rw [hz]
    refine wr_n (r := some id) 0 (m := 0) (wpIn_mono h1 ?_)
    intro e a' W' hq
    cases e with
    | normal => obtain ⟨hk, hkp, hi', b, hb, hok⟩ := hq; exact hK a' W' hk hkp hi' ⟨b, hb, hok⟩
    | ret => exact hq.elim
    | exit id => simp [QQ.fn] at hq
    | goto t => exact hq.elim
    | panic c => exact hq.elim
    | outgrown => exact hq.elim
  · rintro id pre x a' W _ _ hi ⟨b, hb, hok⟩ hlt
    refine wr_n (r := some id) 0 (m := 0) (wpIn_mono (hbody id pre x b W hi hb hlt a' hok) ?_)
    intro e a' W' hq
    cases e with
    | normal => exact hq
    | ret => exact ⟨hq.1, .inl ⟨rfl, hq.2⟩⟩
    | exit id =>
      simp only [QQ.fn, List.lookup_cons] at hq
      by_cases e : id = xid
      · subst e
        simp at hq
        exact ⟨hq.1, .inr ⟨rfl, hq.2⟩⟩
      · rw [show (id == xid) = false from by simpa using e] at hq
        simp at hq
    | goto t => exact hq.elim
    | panic c => exact hq.elim
    | outgrown => exact hq.elim
  · intro D xs W hD hS hi hd
    exact hdone D xs W hD hS hi hd _ ⟨by rw [ha.defers]; rfl, ha.size, ha.get⟩
  · rintro D c pre W hD hS (⟨rfl, hx⟩ | ⟨rfl, hx⟩) hd
    · exact wpIn_ret (hret D pre W hD hS hx hd _ ⟨by rw [ha.defers]; rfl, ha.size, ha.get⟩)
    · exact wpIn_exit (hexit D pre W hD hS hx hd _ ⟨by rw [ha.defers]; rfl, ha.size, ha.get⟩)
/-- A step that turns blocks of an own row alone (or makes new ones). -/
def Gr (w w' : World) (v v' : Value) : Prop := w.grownBy w' v.ownBlock ∧ (v'.ownBlock = v.ownBlock ∨ ∃ g, v'.ownBlock = some g ∧ w.heap.size ≤ g)
theorem Gr.rfl' (w : World) (v : Value) : Gr w w v v := ⟨⟨rfl, rfl, rfl, Nat.le_refl _, fun _ _ _ => rfl⟩, .inl rfl⟩
theorem Gr.tr {a b c : World} {v v1 v2 : Value} (h : Gr a b v v1) (k : Gr b c v1 v2) : Gr a c v v2 := by
  refine ⟨⟨k.1.os.trans h.1.os, k.1.tape.trans h.1.tape, k.1.output.trans h.1.output, Nat.le_trans h.1.size k.1.size, fun i hi hne => ?_⟩, ?_⟩
  · refine (k.1.block i (Nat.lt_of_lt_of_le hi h.1.size) ?_).trans (h.1.block i hi hne)
    rcases h.2 with h2 | ⟨g, h2, hg⟩
    · rw [h2]; exact hne
    · rw [h2]; intro e; injection e with e; omega
  · rcases k.2 with k2 | ⟨g, k2, hg⟩
    · rcases h.2 with h2 | ⟨g, h2, hg⟩
      · exact .inl (k2.trans h2)
      · exact .inr ⟨g, k2.trans h2, hg⟩
    · exact .inr ⟨g, k2, Nat.le_trans h.1.size hg⟩
theorem Gr.of {v v' : Value} (hg : w.grownBy w' v.ownBlock) (h : v'.ownBlock = v.ownBlock ∨ v'.ownBlock = some w.heap.size) : Gr w w' v v' := ⟨hg, h.imp_right fun e => ⟨_, e, Nat.le_refl _⟩⟩
theorem Gr.ofExt {v : Value} (h : Ext w w') : Gr w w' v v := ⟨⟨h.os, h.tape, h.output, h.size, fun k hk _ => h.block k hk⟩, .inl rfl⟩
/-- Every block of w lies as it lay. -/
def Ub (w w' : World) : Prop := ∀ (k : Nat) (o : Obj), w.heap[k]? = some o → w'.heap[k]? = some o
theorem Ub.rfl' (w : World) : Ub w w := fun _ _ h => h
theorem Ub.ofExt (h : Ext w w') : Ub w w' := fun _ _ hb => h.blk hb
theorem Ub.ext {a : World} (h : Ub a w) (he : Ext w w') : Ub a w' := fun k o hk => he.blk (h k o hk)
theorem Ub.cell (h : Ub w w') {ad : Addr} {v : Value} (hc : w.cell? ad = some v) : w'.cell? ad = some v := by
  unfold World.cell? at hc ⊢
  cases hb : w.heap[ad.block]? with
  | none => simp [hb] at hc
  | some o => rw [h _ _ hb]; rw [hb] at hc; exact hc
theorem Rd.ub {α : Type} {A : Option Addr} {kk : Nat} {enc : α → List Value} {xs : List α} (h : Rd w A kk enc xs) (hu : Ub w w') : Rd w' A kk enc xs := by
  rcases h with h | ⟨ad, hA, h⟩
  · exact .inl h
  · exact .inr ⟨ad, hA, fun j x hj i v hv => hu.cell (h j x hj i v hv)⟩
/-- What lies below B, and every block of the types ts, lies as it lay. -/
def KpT (ts : List TypeId) (B : Nat) (W W' : World) : Prop := (∀ (k : Nat) (o : Obj), k < B → W.heap[k]? = some o → W'.heap[k]? = some o) ∧ ∀ (k : Nat) (cs : Array Value) (t : TypeId) (fz : Nat × Nat), t ∈ ts → W.heap[k]? = some (.cells cs t fz) → W'.heap[k]? = some (.cells cs t fz)
theorem KpT.tr {ts : List TypeId} {B : Nat} {X Y Z : World} (h : KpT ts B X Y) (k : KpT ts B Y Z) : KpT ts B X Z := ⟨fun i o hi ho => k.1 i o hi (h.1 i o hi ho), fun i cs t fz ht hc => k.2 i cs t fz ht (h.2 i cs t fz ht hc)⟩
theorem KpT.rfl' {ts : List TypeId} {B : Nat} (W : World) : KpT ts B W W := ⟨fun _ _ _ h => h, fun _ _ _ _ _ h => h⟩
theorem KpT.put {ts : List TypeId} {B B' : Nat} (hB : B ≤ B') (W : World) (k : Nat) (o o' : Obj) (hk' : B' ≤ k) (hk : W.heap[k]? = some o) (hc : o.isCells = false) : KpT ts B W (W.putObj k o') :=
  ⟨fun i ob hi h => by rw [World.putObj_heap_other (fun e => by omega)]; exact h, fun i cs t fz _ h => by
    rw [World.putObj_heap_other (fun e => ?_)]
    · exact h
    · subst e; rw [h] at hk; cases hk; cases hc⟩
theorem KpT.ofExt {ts : List TypeId} {B : Nat} (h : Ext w w') : KpT ts B w w' := ⟨fun _ _ _ hb => h.blk hb, fun _ _ _ _ _ hb => h.blk hb⟩
theorem KpT.ofMut {ts : List TypeId} {B b : Nat} {t : TypeId} {cs : List Value} (hm : Mut w w' b) (hb : Blk w b t cs) (hB : B ≤ b) (ht : t ∉ ts) : KpT ts B w w' :=
  ⟨fun i o hi h => hm.blk h (by omega), fun i cs' t' fz ht' h => hm.blk h (fun e => by
    subst e
    unfold Blk at hb
    rw [hb] at h
    injection h with h
    injection h with _ h2 _
    subst h2
    exact ht ht')⟩
theorem KpT.ofGrown {ts : List TypeId} {α : Type} {B kk base : Nat} {enc : α → List Value} {e : TypeId} {v : Value} {xs : List α} (ho : Own w base e kk enc v xs) (hg : w.grownBy w' v.ownBlock) (hB : B ≤ base) (ht : e ∉ ts) : KpT ts B w w' :=
  ⟨fun i o hi h => (hg.block i (Array.getElem?_eq_some_iff.1 h).1 (fun e => by have := (Own.lt ho i e.symm).1; omega)).trans h, fun i cs' t' fz ht' h => (hg.block i (Array.getElem?_eq_some_iff.1 h).1 (fun e_ => by
    rcases ho.2 with ⟨rfl, h0⟩ | ⟨g, cap, cur, rfl, hb, hh, h1, h2, h3, h4⟩
    · cases e_
    · have e2 : i = g := by simpa [Value.ownBlock] using e_
      subst e2
      rw [hh] at h
      injection h with h
      injection h with _ h2 _
      subst h2
      exact ht ht')).trans h⟩
theorem Ub.kp {ts : List TypeId} {a : World} (h : Ub a w) (hk : KpT ts a.heap.size w w') : Ub a w' := fun k o ho => hk.1 k o (Array.getElem?_eq_some_iff.1 ho).1 (h k o ho)
theorem KpT.blk {ts : List TypeId} {B b : Nat} {t : TypeId} {cs : List Value} (h : KpT ts B w w') (hb : Blk w b t cs) (ht : t ∈ ts) : Blk w' b t cs := h.2 _ _ _ _ ht hb
end
end Go.XK
namespace Go.XK
open Go.RowKit
theorem flat_set {α : Type} {enc : α → List Value} {kk o : Nat} {x0 x' : α} {u : Value} (hk : ∀ x, (enc x).length = kk) (ho : o < kk) (he : enc x' = (enc x0).set o u) : ∀ (xs : List α) (i : Nat), xs[i]? = some x0 → (xs.set i x').flatMap enc = (xs.flatMap enc).set (i * kk + o) u
  | [], _, h => by simp at h
  | y :: ys, 0, h => by
    have h : y = x0 := by simpa using h
    subst h
    rw [List.set_cons_zero, List.flatMap_cons, List.flatMap_cons, he, Nat.zero_mul, Nat.zero_add, List.set_append_left _ _ (by rw [hk]; exact ho)]
  | y :: ys, i + 1, h => by
    rw [List.set_cons_succ, List.flatMap_cons, List.flatMap_cons, flat_set hk ho he ys i (by simpa using h), List.set_append_right _ _ (by rw [hk, Nat.add_mul]; omega), hk, show (i + 1) * kk + o - kk = i * kk + o from by rw [Nat.add_mul]; omega]
section
variable {r : Option Nat} {P : Program} {n m : Nat} {ds : List Deferred} {ops : Array Oper} {q : QQ} {l : Env} {w w0 w1 w' : World} {rest : List Oper} {ty t t1 t2 e e2 : TypeId} {pos : String} {aft : Array Edge} {d kk k2 b0 b2 : Nat} {u v v2 : Value} {x y z : Operand} {k : IntKind} {i : Int} {α β : Type} {enc : α → List Value} {enc2 : β → List Value} {xs : List α} {zs : List β}
theorem su_ownSet {o : Nat} {x0 : α} (x' : α) (hx : val l x = some (.pointer (some (el (ownA v) kk i o)))) (hy : val l y = some u) (ho : Own w w0.heap.size e kk enc v xs) (hext : Ext w0 w) (hk : ∀ x, (enc x).length = kk) (hi : xs[i.toNat]? = some x0) (hok : o < kk) (hu : u.oneCell' = true) (hcu : u.cells = #[u]) (hsz : ∀ w, (sizeOf t).run P w = .ok 1 w)
    (he : enc x' = (enc x0).set o u)
    (h : ∀ w1, Own w1 w0.heap.size e kk enc v (xs.set i.toNat x') → Ext w0 w1 → w.grownBy w1 v.ownBlock → SL r P n ds ops q rest l w1) : SL r P n ds ops q (⟨none, .store t x y, ty, pos, aft, none⟩ :: rest) l w :=
  su_ownEl (xs.set i.toNat x') hx hy ho hext hk hi hok hu hcu hsz (by simp) (flat_set hk hok he xs _ hi) h
theorem st_ownSet {o j : Nat} {x0 : α} {tail : List Nat} (x' : α) (hop : ops[j]? = some ⟨none, .store t x y, ty, pos, aft, none⟩) (hx : val l x = some (.pointer (some (el (ownA v) kk i o)))) (hy : val l y = some u) (ho : Own w w0.heap.size e kk enc v xs) (hext : Ext w0 w) (hk : ∀ x, (enc x).length = kk) (hi : xs[i.toNat]? = some x0) (hok : o < kk) (hu : u.oneCell' = true) (hcu : u.cells = #[u]) (hsz : ∀ w, (sizeOf t).run P w = .ok 1 w)
    (he : enc x' = (enc x0).set o u)
    (h : ∀ w1, Own w1 w0.heap.size e kk enc v (xs.set i.toNat x') → Ext w0 w1 → w.grownBy w1 v.ownBlock → ST r P n ds ops q tail l w1) : ST r P n ds ops q (j :: tail) l w := by
  have hne : xs ≠ [] := fun h_ => by rw [h_] at hi; simp at hi
  obtain ⟨g, cap, rfl, hb⟩ := ho.ofSome hne
  have hst := World.ownsRow.stored ho (i.toNat * kk + o) u
  have hel : el (ownA (.slice (some ⟨g, 0, none⟩) xs.length cap)) kk i o = ⟨g, i.toNat * kk + o, none⟩ := by
    show (⟨g, 0, none⟩ : Addr).add _ = _
    rw [Addr.add_lit, Nat.zero_add]
  rw [hel] at hx
  have hlt : i.toNat < xs.length := by
    rcases Nat.lt_or_ge i.toNat xs.length with h' | h'
    · exact h'
    · rw [List.getElem?_eq_none h'] at hi; cases hi
  have hj : i.toNat * kk + o < xs.length * kk := by
    have : (i.toNat + 1) * kk ≤ xs.length * kk := Nat.mul_le_mul_right _ hlt
    rw [Nat.add_mul] at this; omega
  have hcell := World.ownsRow.cellAt ho (i.toNat * kk + o) hj
  have hl : (xs.flatMap enc).length = xs.length * kk := ho.1
  rw [List.getElem?_eq_getElem (by rw [hl]; exact hj)] at hcell
  have hg : w.grownBy (w.setCell ⟨g, i.toNat * kk + o, none⟩ u) (Value.slice (some ⟨g, 0, none⟩) xs.length cap).ownBlock := hst.2
  have ho' : Own (w.setCell ⟨g, i.toNat * kk + o, none⟩ u) w0.heap.size e kk enc (.slice (some ⟨g, 0, none⟩) xs.length cap) (xs.set i.toNat x') := by
    unfold Own
    rw [flat_set hk hok he xs _ hi, List.length_set]
    exact hst.1
  exact st_un hop (u_store hx hy (store1 hsz hcu hu hcell (World.ownsRow.frozenAt ho _))) (h _ ho' (hext.grown ho hg) hg) rfl
/-- A row of another element type lies as it lay. -/
theorem Own.other (h2 : Own w b2 e2 k2 enc2 v2 zs) (ho : Own w b0 e kk enc v xs) (hg : w.grownBy w' v.ownBlock) (hne : e ≠ e2) : Own w' b2 e2 k2 enc2 v2 zs :=
  World.ownsRow.kept h2 hg (by
    rcases ho.2 with ⟨rfl, _⟩ | ⟨g, cap, cur, rfl, _, hh, _⟩
    · cases hv : v2.ownBlock <;> simp [Value.ownBlock]
    · exact .inr (Own.ne h2 hh (Ne.symm hne)))
theorem s_appendLit2 {w0 : World} {z : Value} {bytes m : Nat} {b : Nat} {cs : List Value} (hx : val l x = some v) (hy : val l y = some (.slice (some ⟨b, 0, none⟩) m m)) (ht : P.underlying t = some (.slice e)) (hi : (P.info? e).map (fun i => (i.zero, i.size, i.bytes)) = some (some z, kk, bytes)) (hz : z.cells.size = kk) (hk0 : 0 < kk) (hk : ∀ x, (enc x).length = kk) (h1 : ∀ x, ∀ u ∈ enc x, u.oneCell' = true)
    (ys : List α) (ho : Own w w0.heap.size e kk enc v xs) (hext : Ext w0 w) (hb : Blk w b t2 cs) (hcs : ys.flatMap enc = cs) (hm : ys.length = m) (hlen : xs.length + m ≤ maxLen) (hbytes : (xs.length + m) * bytes ≤ 140737488355328)
    (h : ∀ v' w1, Own w1 w0.heap.size e kk enc v' (xs ++ ys) → Ext w0 w1 → w.grownBy w1 v.ownBlock → (v'.ownBlock = v.ownBlock ∨ v'.ownBlock = some w.heap.size) → SL r P n ds ops q rest ((d, v') :: l) w1) (hd : d < n := by decide) :
    SL r P n ds ops q (⟨some d, .call ⟨.builtin .append, #[x, y], #[t, t]⟩, ty, pos, aft, none⟩ :: rest) l w := by
  subst hcs
  obtain ⟨v', w1, hr, ho', hg, hat, _⟩ := Own.append (P := P) (ty := ty) (A := ⟨b, 0, none⟩) (c := m) ht hi hz hk0 hk h1 ho hm (fun j u hj => by rw [add0, Nat.zero_add]; exact hb.cell hj) (Below.size hext) hlen hbytes
  exact s (e_append hx hy hr) (h v' w1 ho' (hext.grown ho hg) hg hat) rfl hd
theorem Gr.mk' {v : Value} (hg : w.grownBy w' v.ownBlock) : Gr w w' v v := ⟨hg, .inl rfl⟩
end
end Go.XK
namespace Go.XK
theorem exit_k {n id : Nat} {ds : List Deferred} {l : Env} {w : World} {q : QQ} {p : Act → World → Prop} (hp : q.ex.lookup id = some p) (h : ∀ a, Ok n ds l a → p a w) : ∀ a, Ok n ds l a → q.fn (.exit id) a w := fun a ha => by
  show (match q.ex.lookup id with | some p => p a w | none => False)
  rw [hp]; exact h a ha
theorem Blk.ne {w : World} {b b' : Nat} {t t' : TypeId} {cs cs' : List Value} (h : Blk w b t cs) (h' : Blk w b' t' cs') (hne : t ≠ t') : b ≠ b' := by
  rintro rfl
  unfold Blk at h h'
  rw [h] at h'
  injection h' with h'
  injection h' with _ h2 _
  exact hne h2
end Go.XK
namespace Go.XK
open Go.RowKit
theorem Ub.size {a w : World} (h : Ub a w) : a.heap.size ≤ w.heap.size := by
  rcases Nat.eq_zero_or_pos a.heap.size with h0 | h0
  · omega
  · have hlt : a.heap.size - 1 < a.heap.size := by omega
    have := h (a.heap.size - 1) _ (Array.getElem?_eq_getElem hlt)
    have := (Array.getElem?_eq_some_iff.1 this).1
    omega
theorem Ub.mut {a w w' : World} {b : Nat} (h : Ub a w) (hm : Mut w w' b) (hb : a.heap.size ≤ b) : Ub a w' := fun k o hk => hm.blk (h k o hk) (fun e => by
  have := (Array.getElem?_eq_some_iff.1 hk).1
  omega)
section
variable {r : Option Nat} {P : Program} {n m : Nat} {ds : List Deferred} {ops : Array Oper} {q : QQ} {l : Env} {w : World} {rest : List Oper} {ty : TypeId} {pos : String} {aft : Array Edge} {d : Nat}
theorem iter_of2 {α : Type} {gf : FuncId} {lb : List Value} {encs : α → List Value} {Kp : World → World → Prop} {S Sp : List α → Prop} {N : Nat}
    (h : ∀ (id : Nat) (J Jx : List α → World → Prop) (W : World), Below w.heap.size w W → (∀ pre A B, J pre A → Ext A B → J pre B) →
      (∀ pre x W1, J pre W1 → pre.length < N → YieldAt (WR none) 0 P id (encs x).toArray W1 fun e W' => ∃ v, e = .returned v ∧ ((v = .bool true ∧ J (pre ++ [x]) W' ∧ Kp W1 W') ∨ (v = .bool false ∧ Jx (pre ++ [x]) W'))) →
      J [] W → CallR P gf ([.func (.yield id) #[] #[]] ++ lb) W fun v W' => (∃ xs, S xs ∧ J xs W') ∨ (∃ pre, Sp pre ∧ Jx pre W')) : Iter P gf lb encs Kp S Sp N w := by
  intro id J Jx W hW hJ _ hY h0
  have hY' : ∀ pre x W1, J pre W1 → pre.length < N → YieldAt (WR none) 0 P id (encs x).toArray W1 fun e W' => ∃ v, e = .returned v ∧ ((v = .bool true ∧ J (pre ++ [x]) W' ∧ Kp W1 W') ∨ (v = .bool false ∧ Jx (pre ++ [x]) W')) := fun pre x W1 hj hl => by
    obtain ⟨fn, tmps, asg, bd, hy, hR⟩ := hY pre x W1 hj hl
    refine ⟨fn, tmps, asg, bd, hy, hR.mono ?_⟩
    rintro e w' (⟨rfl, h1⟩ | ⟨rfl, h1⟩)
    · exact ⟨_, rfl, .inl ⟨rfl, h1⟩⟩
    · exact ⟨_, rfl, .inr ⟨rfl, h1⟩⟩
  have hc := h id J Jx W hW (fun pre A B hj he => hJ pre A B none hj ⟨he.os, he.tape, he.output, he.size, fun k hk _ => he.block k hk⟩ (fun r e => by cases e)) hY' h0
  have hc2 : Calls P gf (#[.func (.yield id) #[] #[]] ++ lb.toArray) W fun e W' => (∃ v, e = .returned v) ∧ ((∃ xs, S xs ∧ J xs W') ∨ (∃ pre, Sp pre ∧ Jx pre W')) := by
    have : (#[Value.func (.yield id) #[] #[]] ++ lb.toArray : Array Value) = ([Value.func (.yield id) #[] #[]] ++ lb).toArray := by simp
    rw [this]
    exact Calls.mono hc fun e w' ⟨v, he, hR⟩ => ⟨⟨v, he⟩, hR⟩
  exact (WR_calls (r := none) (n := 0)).2 hc2
theorem sl_gyield {j t : Nat} {b want : Bool} (hs : guardSlot ops j = some t) (hb : l.lookup t = some (.bool b)) (hw : b = want) {id : Nat} {fop : Operand} {xs : List Operand} {vs : List Value} {tys : Array TypeId} {R : Value → World → Prop} (hf : val l fop = some (.func (.yield id) #[] #[])) (hx : vals l xs = some vs) (hY : YieldAt (WR r) m P id vs.toArray w fun e W' => ∃ v, e = .returned v ∧ R v W') (hd : d < n)
    (h : ∀ v w1, R v w1 → SL r P n ds ops q rest ((d, v) :: l) w1) : SL r P n ds ops q (⟨some d, .call ⟨.value fop, xs.toArray, tys⟩, ty, pos, aft, some (j, want)⟩ :: rest) l w := fun a ha => by
  refine wpListIn_step fun K hK => ?_
  rw [ha.wanted (o := ⟨some d, .call ⟨.value fop, xs.toArray, tys⟩, ty, pos, aft, some (j, want)⟩) rfl hs hb, hw]
  rw [if_pos (by cases want <;> rfl)]
  obtain ⟨fn, tmps, asg, bd, hy, hR⟩ := hY
  refine ⟨fun _ _ => trivial, ?_⟩
  rw [Oper.semAt_eq _ _ _ (plain_defer rfl), run_yieldop ha hf hx hy]
  refine ⟨fun h => by simp [WR] at h, RoundIn.mono (wr_round _ hR) ?_⟩
  rintro e w' ⟨v, rfl, hR⟩
  exact hK _ _ (h v w' hR _ (ha.put d v hd))
end
end Go.XK
namespace Go.XK
section
variable {r : Option Nat} {P : Program} {n : Nat} {ds : List Deferred} {ops : Array Oper} {l : Env} {w : World} {ty : TypeId} {pos : String} {aft : Array Edge} {d i : Nat} {dsts : List Nat} {Ds : List Pred} {Q : Exit → Act → World → Prop} {a : Act}
theorem h_gcallA {j t : Nat} {b want : Bool} {f : FuncId} {fop : Operand} {xs : List Operand} {vs caps : List Value} {tys : Array TypeId} {R : Value → World → Prop} (ha : Ok n ds l a) (he : Ent P f) (ho : ops[i]? = some ⟨some d, .call ⟨.value fop, xs.toArray, tys⟩, ty, pos, aft, some (j, want)⟩) (hs : guardSlot ops j = some t) (hb : l.lookup t = some (.bool b)) (hw : b = want)
    (hf : val l fop = some (.func (.func f) #[] caps.toArray)) (hx : vals l xs = some vs) (hc : CallR P f (vs ++ caps) w R) (hdi : dsts.getD i 0 = d)
    (h : ∀ v w1, R v w1 → Ds.getD i (fun _ _ => True) v w1 ∧ Ext w w1) : opOne r P ops Q i (fun a' w' => ∃ v, a' = a.put (some (dsts.getD i 0)) v ∧ Ds.getD i (fun _ _ => True) v w' ∧ Ext w w') a w :=
  opOne_of ho (by rw [ha.wanted rfl hs hb, hw]; cases want <;> rfl) (wpIn_call he ha hf hx hc fun v w1 hR => ⟨v, by rw [hdi], (h v w1 hR).1, (h v w1 hR).2⟩)
end
end Go.XK
namespace Go.XK
open Go.RowKit
section
variable {r : Option Nat} {P : Program} {n : Nat} {ds : List Deferred} {ops : Array Oper} {q : QQ} {l : Env} {w w0 w' w1 : World} {rest : List Oper} {ty t t1 t2 e dT sT : TypeId} {pos : String} {aft : Array Edge} {d b o dl dc sl sc i : Nat} {u v : Value} {x y z : Operand} {k : IntKind} {a : Addr} {cs ns : List Value} {tail : List Nat}
theorem run_copyB (hb : Blk w b t cs) (hu : P.underlying dT = some (.slice e)) (hs : (P.info? e).map (·.size) = some 1) (hn : ns.length = Nat.min sl dl) (hsrc : ∀ j v, ns[j]? = some v → w.cell? (a.add j) = some v) (hfit : o + ns.length ≤ cs.length) (h1 : ∀ v ∈ ns, v.oneCell' = true) :
    ∃ w1, (Builtin.copy_ #[dT, sT] ty #[.slice (some ⟨b, o, none⟩) dl dc, .slice (some a) sl sc]).run P w = .ok (.int .i64 ns.length) w1 ∧ Blk w1 b t (cs.take o ++ ns ++ cs.drop (o + ns.length)) ∧ Mut w w1 b ∧ w1.heap.size = w.heap.size := by
  refine ⟨_, run_copy_row (P := P) w dT sT ty e b o dl dc a sl sc cs.toArray t ns hu hs hb hn hsrc (by simpa using hfit) h1, ?_, Mut.setRow w b _, by simp [World.setRow]⟩
  exact setRow_heap w b _ _ _ _ hb
theorem e_copy {va vb : Value} (hx : val l x = some va) (hy : val l y = some vb) (h : (Builtin.copy_ #[dT, sT] ty #[va, vb]).run P w = .ok v w1) : Ev P n ds l w (.call ⟨.builtin .copy, #[x, y], #[dT, sT]⟩) ty v w1 := fun a _ _ _ _ ha => by
  simp only [execOp, resolve, invoke, builtin, Sem.run_bind, Sem.run_pure, Result.andThen_ok, List.map_toArray, List.map_cons, List.map_nil, ha.eval hx, ha.eval hy, h]
theorem s_copyB (ns : List Value) (hx : val l x = some (.slice (some ⟨b, o, none⟩) dl dc)) (hy : val l y = some (.slice (some a) sl sc)) (hb : Blk w b t cs) (hu : P.underlying dT = some (.slice e)) (hs : (P.info? e).map (·.size) = some 1) (hn : ns.length = Nat.min sl dl) (hsrc : ∀ j v, ns[j]? = some v → w.cell? (a.add j) = some v) (hfit : o + ns.length ≤ cs.length) (h1 : ∀ v ∈ ns, v.oneCell' = true)
    (h : ∀ w1, Blk w1 b t (cs.take o ++ ns ++ cs.drop (o + ns.length)) → Mut w w1 b → w1.heap.size = w.heap.size → SL r P n ds ops q rest ((d, .int .i64 ns.length) :: l) w1) (hd : d < n := by decide) : SL r P n ds ops q (⟨some d, .call ⟨.builtin .copy, #[x, y], #[dT, sT]⟩, ty, pos, aft, none⟩ :: rest) l w := by
  obtain ⟨w1, hr, hb', hm, hs'⟩ := run_copyB (P := P) (ty := ty) (sT := sT) (dc := dc) (sc := sc) hb hu hs hn hsrc hfit h1
  exact s (e_copy hx hy hr) (h w1 hb' hm hs') rfl hd
theorem st_copyB (ns : List Value) (hop : ops[i]? = some ⟨some d, .call ⟨.builtin .copy, #[x, y], #[dT, sT]⟩, ty, pos, aft, none⟩) (hx : val l x = some (.slice (some ⟨b, o, none⟩) dl dc)) (hy : val l y = some (.slice (some a) sl sc)) (hb : Blk w b t cs) (hu : P.underlying dT = some (.slice e)) (hs : (P.info? e).map (·.size) = some 1) (hn : ns.length = Nat.min sl dl) (hsrc : ∀ j v, ns[j]? = some v → w.cell? (a.add j) = some v) (hfit : o + ns.length ≤ cs.length) (h1 : ∀ v ∈ ns, v.oneCell' = true)
    (h : ∀ w1, Blk w1 b t (cs.take o ++ ns ++ cs.drop (o + ns.length)) → Mut w w1 b → w1.heap.size = w.heap.size → ST r P n ds ops q tail ((d, .int .i64 ns.length) :: l) w1) (hd : d < n := by decide) : ST r P n ds ops q (i :: tail) l w := by
  obtain ⟨w1, hr, hb', hm, hs'⟩ := run_copyB (P := P) (ty := ty) (sT := sT) (dc := dc) (sc := sc) hb hu hs hn hsrc hfit h1
  exact st_ev hop (e_copy hx hy hr) (h w1 hb' hm hs') rfl hd
/-- string(rune(c)) of an ASCII byte. -/
theorem e_runeStr {c : UInt8} (hs : (P.underlying t1).isSome = true) (hd : P.underlying t2 = some .string) (hc : c.toNat < 128) (hx : val l x = some (.int k (c.toNat : Int))) : Ev P n ds l w (.convert t1 t2 x) ty (.string (B [c])) w :=
  e_convr hx (by
    have he : Utf8.encode (c.toNat : Int) = B [c] := by
      have hv : Utf8.valid (c.toNat : Int) = true := by simp [Utf8.valid]; omega
      unfold Utf8.encode
      rw [hv]
      simp [hc, B]
    rw [run_convert_int_string w t1 t2 k _ hs hd, he])
/-- A step that turns block b and an own row v alone (or makes new ones). -/
def Fr (w w' : World) (b : Nat) (v : Value) : Prop := w.heap.size ≤ w'.heap.size ∧ ∀ (k : Nat) (o : Obj), w.heap[k]? = some o → k ≠ b → v.ownBlock ≠ some k → w'.heap[k]? = some o
end
end Go.XK
