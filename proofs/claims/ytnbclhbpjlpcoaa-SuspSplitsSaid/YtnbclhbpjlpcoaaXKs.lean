/- The calculus of the walks, part 18: a range over a function that turns blocks of its own between its yields, and whose elements say something of the world. My own text. -/
import Derived.Test.YtnbclhbpjlpcoaaXKo
set_option linter.unusedVariables false
set_option linter.unusedSimpArgs false
namespace Go.XK
open Go.RowKit
def isBook : Obj → Bool
  | .loop _ => true
  | .deferred _ => true
  | _ => false
/-- The loops' own blocks lie as they lay. -/
def KB (W W' : World) : Prop := ∀ (k : Nat) (o : Obj), W.heap[k]? = some o → isBook o = true → W'.heap[k]? = some o
theorem ext_grown {w w' : World} (h : Ext w w') : w.grownBy w' none := ⟨h.os, h.tape, h.output, h.size, fun i hi _ => h.block i hi⟩
theorem KB.ofMut {w w' : World} {b : Nat} {t : TypeId} {cs : List Value} (h : Mut w w' b) (hb : Blk w b t cs) : KB w w' := fun k o hk ho => h.blk hk (fun e => by
  subst e; unfold Blk at hb; rw [hb] at hk; cases hk; cases ho)
/-- What the called function does: it yields elements x of which Y tells; between the yields it may turn the world by St; what a round must leave to it is Kp. -/
def IterW {α : Type} (P : Program) (gf : FuncId) (lb : List Value) (encs : α → List Value) (Kp : α → World → World → Prop) (St : World → World → Prop) (Y : World → List α → α → World → Prop) (S : List α → World → Prop) (Sp : List α → Prop) (N : Nat) (w : World) : Prop :=
  ∀ (id : Nat) (J Jx : List α → World → Prop) (W : World), Ext w W → (∀ pre A B, J pre A → Ext A B → J pre B) → (∀ pre A B, J pre A → St A B → J pre B) →
    (∀ pre x W0 W1, J pre W0 → Ext W0 W1 → Y W0 pre x W1 → pre.length < N → YieldAt (WR none) 0 P id (encs x).toArray W1 fun e W' => ∃ v, e = .returned v ∧ ((v = .bool true ∧ J (pre ++ [x]) W' ∧ Kp x W1 W') ∨ (v = .bool false ∧ Jx (pre ++ [x]) W'))) →
    J [] W → CallR P gf ([.func (.yield id) #[] #[]] ++ lb) W fun v W' => (∃ xs, S xs W' ∧ J xs W') ∨ (∃ pre, Sp pre ∧ Jx pre W')
section
variable {P : Program} {n : Nat} {ds : List Deferred} {q : QQ} {l : Env} {w : World}
theorem sc_rangeW {α β : Type} {g : Operand} {ps : List Tmp} {assign body : Code} {gf : FuncId} {lb : List Value} (encs : α → List Value) (Kp : α → World → World → Prop) (St : World → World → Prop) (Y : World → List α → α → World → Prop) (S : List α → World → Prop) (Sp : List α → Prop) (N : Nat) (I : List α → World → Prop) (xid : Nat) (Ir Ie : List α → World → Prop) (l1 : α → β → Env) (Bx : α → β → World → Prop)
    (hg : val l g = some (.func (.func gf) #[] lb.toArray)) (he : Ent P gf) (hseq : IterW P gf lb encs Kp St Y S Sp N w) (hps : ∀ x, (encs x).length = ps.length) (hpn : ∀ p ∈ ps, p < n)
    (hKt : ∀ {x : α} {A B C : World}, Kp x A B → Kp x B C → Kp x A C) (hKb : ∀ (x : α) (W : World) (k : Nat) (o o' : Obj), w.heap.size ≤ k → W.heap[k]? = some o → o.isCells = false → Kp x W (W.putObj k o'))
    (hStB : ∀ A B, St A B → KB A B) (hI : OwnFrom w.heap.size I) (hSt : ∀ pre A B, I pre A → St A B → I pre B) (hIr : OwnFrom w.heap.size Ir) (hIe : OwnFrom w.heap.size Ie) (hS : OwnFrom w.heap.size S)
    (hY : ∀ W0 pre x, OwnFrom w.heap.size (fun (_ : Unit) W => Y W0 pre x W)) (hBx : ∀ x b, OwnFrom w.heap.size (fun (_ : Unit) W => Bx x b W)) (h0 : I [] w)
    (hassign : ∀ (id : Nat) (pre : List α) (x : α) (W0 W : World), I pre W → Y W0 pre x W → SC (some id) P n [] assign ⟨fun a' W' => KeepsFrom w.heap.size W W' ∧ Kp x W W' ∧ I pre W' ∧ Y W0 pre x W' ∧ ∃ b, Bx x b W' ∧ Ok n [] (l1 x b) a', fun _ _ => False, []⟩ ((ps.zip (encs x)).reverse ++ l) W)
    (hbody : ∀ (id : Nat) (pre : List α) (x : α) (b : β) (W0 W : World), I pre W0 → I pre W → Y W0 pre x W → Bx x b W → pre.length < N → SC (some id) P n [] body ⟨fun _ W' => KeepsFrom w.heap.size W W' ∧ Kp x W W' ∧ I (pre ++ [x]) W', fun _ W' => KeepsFrom w.heap.size W W' ∧ Ir (pre ++ [x]) W', [(xid, fun _ W' => KeepsFrom w.heap.size W W' ∧ Ie (pre ++ [x]) W')]⟩ (l1 x b) W)
    (hdone : ∀ (D : Nat) (xs : List α) (W : World), w.heap.size ≤ D → S xs W → I xs W → W.heap[D]? = some (.deferred (some [])) → ∀ a, Ok n (mark D :: ds) l a → q.nrm a W)
    (hret : ∀ (D : Nat) (pre : List α) (W : World), w.heap.size ≤ D → Sp pre → Ir pre W → W.heap[D]? = some (.deferred (some [])) → ∀ a, Ok n (mark D :: ds) l a → q.ret a W)
    (hexit : ∀ (D : Nat) (pre : List α) (W : World), w.heap.size ≤ D → Sp pre → Ie pre W → W.heap[D]? = some (.deferred (some [])) → ∀ a, Ok n (mark D :: ds) l a → q.fn (.exit xid) a W) :
    SC none P n ds (.rangeFunc g ps.toArray assign body) q l w := fun a ha => by
  refine wr_n 0 (m := 2) ?_
  refine wpIn_rangeFunc ?_
  intro fn hfn
  -- the record of the loop
  obtain ⟨rc, hrc⟩ : ∃ rc : LoopState → Option Code → Loop, rc = fun st pe => { state := st, pending := pe, fn := fn, tmps := a.tmps, params := ps.toArray, assign := assign, body := body, defers := w.heap.size } := ⟨_, rfl⟩
  obtain ⟨D, hD⟩ : ∃ D, D = w.heap.size := ⟨_, rfl⟩
  obtain ⟨W1, hW1⟩ : ∃ W1, W1 = (w.alloc (.deferred (some []))).alloc (.loop (rc .ready none)) := ⟨_, rfl⟩
  have hL1 : W1.heap[D + 1]? = some (.loop (rc .ready none)) := by
    rw [hW1, hD]
    have h_ := World.alloc_heap_new (w.alloc (.deferred (some []))) (.loop (rc .ready none))
    rwa [World.size_alloc] at h_
  have hx1 : Ext w (w.alloc (.deferred (some []))) := Ext.alloc _ _
  have hx2 : Ext w W1 := by rw [hW1]; exact hx1.tr (Ext.alloc _ _)
  have hK1 : W1.heap[D]? = some (.deferred (some [])) := by
    rw [hW1, hD]; exact (Ext.alloc _ _).blk (World.alloc_heap_new w _)
  have stay : ∀ {A B : World} {o : Obj} {k : Nat}, Ext A B → A.heap[k]? = some o → B.heap[k]? = some o := fun h hk => h.blk hk
  have hIx : ∀ pre A B, I pre A → Ext A B → I pre B := fun pre A B hi hx => hI pre A B none hi (ext_grown hx) (fun r e => by cases e)
  have put : ∀ {γ : Type} {K : γ → World → Prop} {s : γ} {W : World} {k : Nat} {o o' : Obj}, OwnFrom D K → K s W → D ≤ k → W.heap[k]? = some o → o.isCells = false → K s (W.putObj k o') := fun hK hs hk ho hc => hK.putObj _ hs hk ho hc
  rw [← hD] at hI hIr hIe hS hY hBx hKb hassign hbody
  refine ⟨D + 1, [mark D], W1, { target := .fn (.func gf) lb.toArray, args := #[.func (.yield (D + 1)) #[] #[]] }, W1, gf, #[.func (.yield (D + 1)) #[] #[]] ++ lb.toArray, W1, ?_, ?_, fun _ _ => trivial, ?_, fun h => by simp [WR] at h, ?_⟩
  · rw [hW1, hrc, hD]; exact run_enterLoop_outer _ _ _ _ _
  · simp only [resolve, ha.eval hg]
    simp [go_sem]
  · simp [invoke, go_sem, he _ _]
  · have hc := hseq (D + 1)
      (fun pre W => I pre W ∧ W.heap[D + 1]? = some (.loop (rc .ready none)) ∧ W.heap[D]? = some (.deferred (some [])))
      (fun pre W => ∃ c, ((c = .ret ∧ Ir pre W) ∨ (c = .exit xid ∧ Ie pre W)) ∧ W.heap[D + 1]? = some (.loop (rc .done (some c))) ∧ W.heap[D]? = some (.deferred (some [])))
      W1 hx2 (fun pre A B h hx => ⟨hIx pre A B h.1 hx, stay hx h.2.1, stay hx h.2.2⟩) (fun pre A B h hs => ⟨hSt pre A B h.1 hs, hStB A B hs _ _ h.2.1 rfl, hStB A B hs _ _ h.2.2 rfl⟩) ?_ ⟨hIx _ _ _ h0 hx2, hL1, hK1⟩
    · refine (WR_calls (r := none) (n := 2 - 1)).2 ?_
      have ea : (#[Value.func (.yield (D + 1)) #[] #[]] ++ lb.toArray : Array Value) = ([Value.func (.yield (D + 1)) #[] #[]] ++ lb).toArray := by simp
      rw [ea]
      refine Calls.mono hc ?_
      rintro e W2 ⟨v, rfl, (⟨xs, hs, hi, hl, hk⟩ | ⟨pre, hsp, c, hc2, hl, hk⟩)⟩
      · refine ⟨none, _, by have h_ := run_endLoop (P := P) hl (by rw [hrc]; simp); rw [hrc] at h_; exact h_, ?_⟩
        exact hdone D xs _ (by omega) (put hS hs (by omega) hl rfl) (put hI hi (by omega) hl rfl) ((World.putObj_heap_other (by omega)).trans hk) _ ⟨by rw [ha.defers]; rfl, ha.size, ha.get⟩
      · refine ⟨some c, _, by have h_ := run_endLoop (P := P) hl (by rw [hrc]; simp); rw [hrc] at h_; exact h_, ?_⟩
        rcases hc2 with ⟨rfl, hr⟩ | ⟨rfl, hr⟩
        · exact wpIn_ret (hret D pre _ (by omega) hsp (put hIr hr (by omega) hl rfl) ((World.putObj_heap_other (by omega)).trans hk) _ ⟨by rw [ha.defers]; rfl, ha.size, ha.get⟩)
        · exact wpIn_exit (hexit D pre _ (by omega) hsp (put hIe hr (by omega) hl rfl) ((World.putObj_heap_other (by omega)).trans hk) _ ⟨by rw [ha.defers]; rfl, ha.size, ha.get⟩)
    · -- a round
      rintro pre x W0 Wy ⟨hi0, hl0, hk0⟩ hxy hyy hlen
      have hi := hIx _ _ _ hi0 hxy
      have hl := stay hxy hl0
      have hk := stay hxy hk0
      have hyr := run_yield (P := P) (args := (encs x).toArray) hl (by rw [hrc]; simpa using hps x)
      rw [hrc] at hyr
      refine ⟨fn, _, assign, body, hyr, roundIn_of_wpIn hfn ?_⟩
      clear hyr
      have hz : ((ps.toArray.zip (encs x).toArray).foldl (fun t (p, v) => t.setIfInBounds p v) a.tmps) = ((ps.zip (encs x)).foldl (fun t (p, v) => t.setIfInBounds p v) a.tmps) := by simp
      have ha1 := hassign (D + 1) pre x W0 Wy hi hyy _ (Ok.params (ps.zip (encs x)) ha (fun p hp => hpn p.1 (List.of_mem_zip hp).1))
      show assign.wpIn (WR (some (D + 1))) 0 P _ _ Wy
      rw [hz]
      refine wpIn_mono ha1 ?_
      intro e a' Wa hq
      cases e with
      | ret => exact hq.elim
      | exit id => simp [QQ.fn] at hq
      | goto t => exact hq.elim
      | panic c => exact hq.elim
      | outgrown => exact hq.elim
      | normal =>
        obtain ⟨hkf, hkp, hia, hya, b, hbx, hok⟩ := hq
        have hla := hkf.same _ _ (by omega) hl rfl
        have hka := hkf.same _ _ (Nat.le_refl _) hk rfl
        refine ⟨_, run_beginRound hla (by rw [hrc]), ?_⟩
        obtain ⟨W2, hW2⟩ : ∃ W2, W2 = Wa.putObj (D + 1) (.loop { rc .ready none with state := .busy }) := ⟨_, rfl⟩
        rw [← hW2]
        have hl2 : W2.heap[D + 1]? = some (.loop { rc .ready none with state := .busy }) := by rw [hW2]; exact World.putObj_heap_same (Array.getElem?_eq_some_iff.1 hla).1
        have hk2 : W2.heap[D]? = some (.deferred (some [])) := by rw [hW2]; exact (World.putObj_heap_other (by omega)).trans hka
        have hkp2 : Kp x Wy W2 := hKt hkp (by rw [hW2]; exact hKb x _ _ _ _ (by omega) hla rfl)
        have hb1 := hbody (D + 1) pre x b W0 W2 hi0 (by rw [hW2]; exact put hI hia (by omega) hla rfl) (by rw [hW2]; exact put (s := ()) (hY W0 pre x) hya (by omega) hla rfl) (by rw [hW2]; exact put (s := ()) (hBx x b) hbx (by omega) hla rfl) hlen a' hok
        refine wpIn_mono hb1 ?_
        have fin : ∀ (jump : Option Code) (W3 : World), KeepsFrom D W2 W3 →
            (Instr.endRound (D + 1) jump).run P W3 = .ok (.bool jump.isNone) (W3.putObj (D + 1) (.loop (rc (if jump.isNone then .ready else .done) jump))) ∧ W3.heap[D + 1]? = some (.loop { rc .ready none with state := .busy }) ∧
            (W3.putObj (D + 1) (.loop (rc (if jump.isNone then .ready else .done) jump))).heap[D + 1]? = some (.loop (rc (if jump.isNone then .ready else .done) jump)) ∧
            (W3.putObj (D + 1) (.loop (rc (if jump.isNone then .ready else .done) jump))).heap[D]? = some (.deferred (some [])) := fun jump W3 hk3 => by
          have hl3 := hk3.same _ _ (by omega) hl2 rfl
          have h_ := run_endRound (P := P) jump hl3
          refine ⟨?_, hl3, World.putObj_heap_same (Array.getElem?_eq_some_iff.1 hl3).1, (World.putObj_heap_other (by omega)).trans (hk3.same _ _ (Nat.le_refl _) hk2 rfl)⟩
          rw [hrc] at h_ ⊢
          exact h_
        intro e a3 W3 hq3
        cases e with
        | normal =>
          obtain ⟨hk3, hkp3, hi3⟩ := hq3
          obtain ⟨hr, hl3, hl4, hk4⟩ := fin none W3 hk3
          exact ⟨_, _, hr, _, rfl, .inl ⟨rfl, ⟨put hI hi3 (by omega) hl3 rfl, hl4, hk4⟩, hKt hkp2 (hKt hkp3 (hKb x _ _ _ _ (by omega) hl3 rfl))⟩⟩
        | ret =>
          obtain ⟨hk3, hi3⟩ := hq3
          obtain ⟨hr, hl3, hl4, hk4⟩ := fin (some .ret) W3 hk3
          exact ⟨_, _, hr, _, rfl, .inr ⟨rfl, .ret, .inl ⟨rfl, put hIr hi3 (by omega) hl3 rfl⟩, hl4, hk4⟩⟩
        | exit id =>
          simp only [QQ.fn, List.lookup_cons] at hq3
          by_cases e : id = xid
          · subst e
            simp at hq3
            obtain ⟨hk3, hi3⟩ := hq3
            obtain ⟨hr, hl3, hl4, hk4⟩ := fin (some (.exit id)) W3 hk3
            exact ⟨_, _, hr, _, rfl, .inr ⟨rfl, .exit id, .inr ⟨rfl, put hIe hi3 (by omega) hl3 rfl⟩, hl4, hk4⟩⟩
          · rw [show (id == xid) = false from by simpa using e] at hq3
            simp at hq3
        | goto t => exact hq3.elim
        | panic c => exact hq3.elim
        | outgrown => exact hq3.elim
end
end Go.XK
