/- Chapter 24: groups of entries. My own text. -/
import Derived.Test.YtnbclhbpjlpcoaaMath2
set_option linter.unusedVariables false
set_option linter.unusedSimpArgs false
namespace Go.Proofs.Ytnbclhbpjlpcoaa
open Go.XK Go.RowKit
/-- A group, and where its entries lie. -/
structure Gp where
  l : List En
  A : Option Addr
  c : Nat
def encG (g : Gp) : List Value := [.slice g.A g.l.length g.c]
theorem one_encG : ∀ (x : Gp), ∀ u ∈ encG x, u.oneCell' = true := fun x u hu => by simp [encG] at hu; subst hu; rfl
def InG (w : World) (gs : List Gp) : Prop := ∀ g ∈ gs, SlR w g.A g.c 3 encE g.l
theorem InG.ext {w w' : World} {gs : List Gp} (h : InG w gs) (he : Ext w w') : InG w' gs := fun g hg => (h g hg).ext he
/-- The rows of the groups are the call's own. -/
def OwG (w : World) (B0 : Nat) (gs : List Gp) : Prop := ∀ g ∈ gs, Go.XK.Own w B0 41 3 encE (.slice g.A g.l.length g.c) g.l
theorem OwG.nil (w : World) (B0 : Nat) : OwG w B0 [] := fun g hg => by cases hg
theorem OwG.inn {w : World} {B0 : Nat} {gs : List Gp} (h : OwG w B0 gs) : InG w gs := fun g hg => (h g hg).slr (fun _ => rfl)
theorem OwG.ext {w w' : World} {B0 : Nat} {gs : List Gp} (h : OwG w B0 gs) (he : Ext w w') : OwG w' B0 gs := fun g hg => (h g hg).ext he
theorem OwG.low {w : World} {B0 B1 : Nat} {gs : List Gp} (h : OwG w B0 gs) (hb : B1 ≤ B0) : OwG w B1 gs := fun g hg => (h g hg).low hb
theorem OwG.other {α : Type} {w w' : World} {B0 b0 kk : Nat} {e : TypeId} {enc : α → List Value} {v : Value} {xs : List α} {gs : List Gp} (h : OwG w B0 gs) (ho : Go.XK.Own w b0 e kk enc v xs) (hg : w.grownBy w' v.ownBlock) (hne : e ≠ 41) : OwG w' B0 gs := fun g hgm => Go.XK.Own.other (h g hgm) ho hg hne
theorem OwG.mut {w w' : World} {B0 b : Nat} {t : TypeId} {cs : List Value} {gs : List Gp} (h : OwG w B0 gs) (hm : Mut w w' b) (hb : Blk w b t cs) (hne : (41 : TypeId) ≠ t) : OwG w' B0 gs := fun g hg => (h g hg).mut hm (Go.XK.Own.ne (h g hg) hb hne)
theorem OwG.lt {w : World} {B0 : Nat} {gs : List Gp} (h : OwG w B0 gs) : ∀ g ∈ gs, ∀ k, (Value.slice g.A g.l.length g.c).ownBlock = some k → k < w.heap.size := fun g hg k hk => (Go.XK.Own.lt (h g hg) k hk).2
theorem OwG.fresh {w w' : World} {B0 b : Nat} {v : Value} {gs : List Gp} (h : OwG w B0 gs) (hl : ∀ g ∈ gs, ∀ k, (Value.slice g.A g.l.length g.c).ownBlock = some k → k < b) (hg : w.grownBy w' v.ownBlock) (hv : v.ownBlock = some b) : OwG w' B0 gs := fun g hgm => by
  refine Go.XK.Own.dj (h g hgm) (v := v) ?_ hg
  intro k h1 h2
  rw [hv] at h1; injection h1 with h1
  have := hl g hgm k h2
  omega
theorem OwG.snoc {w : World} {B0 : Nat} {gs : List Gp} {g : Gp} (h : OwG w B0 gs) (hg : Go.XK.Own w B0 41 3 encE (.slice g.A g.l.length g.c) g.l) : OwG w B0 (gs ++ [g]) := fun x hx => by
  rcases List.mem_append.1 hx with hx | hx
  · exact h x hx
  · simp at hx; subst hx; exact hg
/-! ### Lengths -/
def lenN (n : Nat) (gs : List (List En)) : List Int := gs.mapIdx fun i g => (szL g : Int) + if i + 1 < n then 28 else 0
def lenL (gs : List (List En)) : List Int := lenN gs.length gs
theorem lenN_take {n i : Nat} {gs : List (List En)} {g : List En} (h : gs[i]? = some g) : lenN n (gs.take (i + 1)) = lenN n (gs.take i) ++ [(szL g : Int) + if i + 1 < n then 28 else 0] := by
  have hi := (List.getElem?_eq_some_iff.1 h).1
  rw [List.take_add_one, h]
  simp [lenN, List.mapIdx_append, Nat.min_eq_left (Nat.le_of_lt hi)]
theorem lenL_length (gs : List (List En)) : (lenL gs).length = gs.length := by simp [lenL, lenN]
theorem lenL_get {gs : List (List En)} {i : Nat} {g : List En} (h : gs[i]? = some g) : (lenL gs)[i]? = some ((szL g : Int) + if i + 1 < gs.length then 28 else 0) := by
  simp [lenL, lenN, List.getElem?_mapIdx, h]
theorem map_get {gs : List Gp} {i : Nat} {g : Gp} (h : gs[i]? = some g) : (gs.map (·.l))[i]? = some g.l := by rw [List.getElem?_map, h]; rfl
/-! ### Dividing -/
def frontN : List En → Int → Nat
  | [], _ => 0
  | x :: t, r => if (szE x : Int) ≤ r then frontN t (r - szE x) + 1 else 0
def grpL : Nat → List En → Int → List (List En)
  | 0, l, _ => [l]
  | f + 1, l, room => if room < (szL l : Int) then l.take (frontN l (room - 28)) :: grpL f (l.drop (frontN l (room - 28))) 2048 else [l]
def grp (l : List En) (room : Int) : List (List En) := grpL (l.length + 2) l room
theorem szL_cons (x : En) (t : List En) : szL (x :: t) = szE x + szL t := by simp [szL]
theorem szL_split (l : List En) (n : Nat) : szL l = szL (l.take n) + szL (l.drop n) := by rw [← szL_app, List.take_append_drop]
theorem szL_take_le (l : List En) (n : Nat) : szL (l.take n) ≤ szL l := by have := szL_split l n; omega
theorem szL_drop_le (l : List En) (n : Nat) : szL (l.drop n) ≤ szL l := by have := szL_split l n; omega
theorem front_le : ∀ (l : List En) (r : Int), frontN l r ≤ l.length
  | [], _ => Nat.le_refl _
  | x :: t, r => by
    rw [frontN]; split
    · have := front_le t (r - szE x); simp; omega
    · simp
theorem front_fits : ∀ (l : List En) (r : Int), 0 ≤ r → (szL (l.take (frontN l r)) : Int) ≤ r
  | [], r, h => by simpa [szL] using h
  | x :: t, r, h => by
    rw [frontN]; split
    · rename_i h1
      rw [List.take_succ_cons, szL_cons]
      have := front_fits t (r - szE x) (by omega)
      push_cast; omega
    · simpa [szL] using h
theorem front_zero (l : List En) {r : Int} (h : r < 4) : frontN l r = 0 := by
  cases l with
  | nil => rfl
  | cons x t => rw [frontN, if_neg (by unfold szE; omega)]
theorem front_pos {l : List En} {r : Int} (hl : l ≠ []) (hx : ∀ x ∈ l, (szE x : Int) ≤ r) : 0 < frontN l r := by
  cases l with
  | nil => exact absurd rfl hl
  | cons x t => rw [frontN, if_pos (hx x (by simp))]; omega
theorem grpL_fuel : ∀ (f g : Nat) (l : List En), (∀ x ∈ l, szE x ≤ 255) → l.length + 1 ≤ f → l.length + 1 ≤ g → grpL f l 2048 = grpL g l 2048
  | 0, _, _, _, h, _ => by omega
  | _ + 1, 0, _, _, _, h => by omega
  | f + 1, g + 1, l, hx, h1, h2 => by
    rw [grpL, grpL]
    split
    · rename_i hs
      have hne : l ≠ [] := fun e => by rw [e] at hs; simp [szL] at hs
      have hp : 0 < frontN l (2048 - 28) := front_pos hne (fun x hxm => by have := hx x hxm; omega)
      have hd : (l.drop (frontN l (2048 - 28))).length + 1 ≤ l.length := by
        have := List.length_pos_iff.2 hne
        rw [List.length_drop]; omega
      rw [grpL_fuel f g _ (fun x hxm => hx x (List.mem_of_mem_drop hxm)) (by omega) (by omega)]
    · rfl
theorem grp_step {l : List En} {room : Int} (hx : ∀ x ∈ l, szE x ≤ 255) (h : room < (szL l : Int)) : grp l room = l.take (frontN l (room - 28)) :: grp (l.drop (frontN l (room - 28))) 2048 := by
  rw [grp, grpL, if_pos h, grp]
  congr 1
  have hx' : ∀ x ∈ l.drop (frontN l (room - 28)), szE x ≤ 255 := fun x hxm => hx x (List.mem_of_mem_drop hxm)
  exact grpL_fuel _ _ _ hx' (by rw [List.length_drop]; omega) (by omega)
theorem grp_end {l : List En} {room : Int} (h : ¬ room < (szL l : Int)) : grp l room = [l] := by rw [grp, grpL, if_neg h]
theorem front_step {l : List En} {n : Nat} {r : Int} {x : En} (hx : l[n]? = some x) (hf : frontN l r = n + frontN (l.drop n) (r - szL (l.take n))) (h : (szL (l.take (n + 1)) : Int) ≤ r) : frontN l r = (n + 1) + frontN (l.drop (n + 1)) (r - szL (l.take (n + 1))) := by
  rw [szL_take hx] at h ⊢
  rw [hf, drop_at hx, frontN, if_pos (by push_cast at h; omega)]
  rw [show r - (szL (l.take n) : Int) - (szE x : Int) = r - ((szL (l.take n) + szE x : Nat) : Int) by push_cast; omega]
  omega
theorem front_stop {l : List En} {n : Nat} {r : Int} {x : En} (hx : l[n]? = some x) (hf : frontN l r = n + frontN (l.drop n) (r - szL (l.take n))) (h : ¬ (szL (l.take (n + 1)) : Int) ≤ r) : frontN l r = n := by
  rw [szL_take hx] at h
  rw [hf, drop_at hx, frontN, if_neg (by push_cast at h; omega)]
  rfl
theorem front_stop0 {l : List En} {n : Nat} {r : Int} (hx : l.length ≤ n) (hf : frontN l r = n + frontN (l.drop n) (r - szL (l.take n))) : frontN l r = n := by
  rw [hf, List.drop_eq_nil_of_le hx]; rfl
def linkB (x : En) : Bool := decide (x.g = [67, 69]) || decide (x.g = [83, 84])
def grpR (l : List En) (room : Int) : List (List En) × Int :=
  if chkR l ≠ 0 then ([], chkR l) else if l.any linkB = true then ([], 1) else if (decide (room < 0) || decide ((254 : Int) < room)) = true then ([], 2)
  else if (decide (room < (szL l : Int)) && decide (room < 28)) = true then ([], 12) else if (64 : Int) < ((grp l room).length : Int) then ([], 7) else (grp l room, 0)
theorem grpR_1 {l : List En} {room : Int} (h : chkR l ≠ 0) : grpR l room = ([], chkR l) := by rw [grpR, if_pos h]
theorem grpR_2 {l : List En} {room : Int} (h : chkR l = 0) (h2 : l.any linkB = true) : grpR l room = ([], 1) := by rw [grpR, if_neg (by simp [h]), if_pos h2]
theorem grpR_3 {l : List En} {room : Int} (h : chkR l = 0) (h2 : l.any linkB = false) (h3 : (decide (room < 0) || decide ((254 : Int) < room)) = true) : grpR l room = ([], 2) := by rw [grpR, if_neg (by simp [h]), if_neg (by simp [h2]), if_pos h3]
theorem grpR_4 {l : List En} {room : Int} (h : chkR l = 0) (h2 : l.any linkB = false) (h3 : (decide (room < 0) || decide ((254 : Int) < room)) = false) (h4 : (decide (room < (szL l : Int)) && decide (room < 28)) = true) : grpR l room = ([], 12) := by rw [grpR, if_neg (by simp [h]), if_neg (by simp [h2]), if_neg (by rw [h3]; simp), if_pos h4]
theorem grpR_5 {l : List En} {room : Int} (h : chkR l = 0) (h2 : l.any linkB = false) (h3 : (decide (room < 0) || decide ((254 : Int) < room)) = false) (h4 : (decide (room < (szL l : Int)) && decide (room < 28)) = false) : grpR l room = if (64 : Int) < ((grp l room).length : Int) then ([], 7) else (grp l room, 0) := by rw [grpR, if_neg (by simp [h]), if_neg (by simp [h2]), if_neg (by rw [h3]; simp), if_neg (by rw [h4]; simp)]
theorem any_no {α : Type} {p : α → Bool} {l : List α} {i : Nat} {x : α} (hx : l[i]? = some x) (h : (l.take i).any p = false) (hb : p x = false) : (l.take (i + 1)).any p = false := by
  rw [List.take_add_one, hx, List.any_append, h]; simp [hb]
theorem any_yes {α : Type} {p : α → Bool} {l : List α} {i : Nat} {x : α} (hx : l[i]? = some x) (hb : p x = true) : l.any p = true := List.any_eq_true.2 ⟨x, List.mem_of_getElem? hx, hb⟩
theorem any_end {α : Type} {p : α → Bool} {l : List α} {i : Nat} (h : (l.take i).any p = false) (hi : l.length ≤ i) : l.any p = false := by rwa [List.take_of_length_le hi] at h
theorem ok_sz {l : List En} (h : l.length ≤ 1024 ∧ ∀ x ∈ l, badE x = 0) : (∀ x ∈ l, szE x ≤ 255) ∧ szL l ≤ 261120 := by
  have h1 : ∀ x ∈ l, x.d.length ≤ 251 := fun x hx => (badE_spec (h.2 x hx)).2.2.2
  refine ⟨fun x hx => by have := h1 x hx; unfold szE; omega, ?_⟩
  have h2 := szL_le h1
  have h3 : l.length * (251 + 4) ≤ 1024 * (251 + 4) := Nat.mul_le_mul_right _ h.1
  omega
theorem szL_nil_of {l : List En} (h : szL l = 0) : l = [] := by
  cases l with
  | nil => rfl
  | cons x t => rw [szL_cons] at h; unfold szE at h; omega
end Go.Proofs.Ytnbclhbpjlpcoaa
