/-
  Texts joined: MnS.
-/
import Derived.Test.YtacbkganjkipdaaGreatDoorMMpL4a
namespace Go.Proofs.YtacbkganjkipdaaGreatDoor
section
variable {α : Type} {lt : α → α → Bool} {D D' D'' : List α} {a b m : Nat}
def SOn (lt : α → α → Bool) (D : List α) (a b : Nat) : Prop := ∀ i j x y, a ≤ i → i < j → j < b → D[i]? = some x → D[j]? = some y → lt y x = false
theorem SOn.sub {a' b' : Nat} (h : SOn lt D a b) (ha : a ≤ a') (hb : b' ≤ b) : SOn lt D a' b' := fun i j x y h1 h2 h3 => h i j x y (by omega) h2 (by omega)
theorem SOn.one (h : b ≤ a + 1) : SOn lt D a b := fun i j x y h1 h2 h3 => absurd h3 (by omega)
structure Mv (a b : Nat) (D D' : List α) : Prop where
 len : D'.length = D.length
 perm : D'.Perm D
 out : ∀ i, (i < a ∨ b ≤ i) → D'[i]? = D[i]?
 ins : ∀ i, a ≤ i → i < b → ∃ j, a ≤ j ∧ j < b ∧ D'[i]? = D[j]?
theorem Mv.refl (a b : Nat) (D : List α) : Mv a b D D := ⟨rfl, .refl _, fun _ _ => rfl, fun i h1 h2 => ⟨i, h1, h2, rfl⟩⟩
theorem Mv.trans (h : Mv a b D D') (k : Mv a b D' D'') : Mv a b D D'' :=
 ⟨k.len.trans h.len, k.perm.trans h.perm, fun i hi => (k.out i hi).trans (h.out i hi), fun i h1 h2 => by
  obtain ⟨j, a1, a2, a3⟩ := k.ins i h1 h2
  obtain ⟨l, b1, b2, b3⟩ := h.ins j a1 a2
  exact ⟨l, b1, b2, a3.trans b3⟩⟩
theorem Mv.wide {a' b' : Nat} (h : Mv a b D D') (ha : a' ≤ a) (hb : b ≤ b') : Mv a' b' D D' :=
 ⟨h.len, h.perm, fun i hi => h.out i (by omega), fun i h1 h2 => by
  by_cases hi : a ≤ i ∧ i < b
  · obtain ⟨j, x, y, z⟩ := h.ins i hi.1 hi.2
    exact ⟨j, by omega, by omega, z⟩
  · exact ⟨i, h1, h2, h.out i (by omega)⟩⟩
theorem swp_get {i j k : Nat} {x y : α} (hx : D[i]? = some x) (hy : D[j]? = some y) : ((D.set i y).set j x)[k]? = if k = j then some x else if k = i then some y else D[k]? := by
 have hi := (List.getElem?_eq_some_iff.1 hx).1
 have hj := (List.getElem?_eq_some_iff.1 hy).1
 rw [List.getElem?_set, List.length_set, List.getElem?_set]
 by_cases h1 : k = j
 · subst h1
   rw [if_pos rfl, if_pos rfl, if_pos hj]
 · rw [if_neg (fun e => h1 e.symm), if_neg h1]
   by_cases h2 : k = i
   · subst h2
     rw [if_pos rfl, if_pos rfl, if_pos hi]
   · rw [if_neg (fun e => h2 e.symm), if_neg h2]
theorem Mv.swap {i j : Nat} {x y : α} (hx : D[i]? = some x) (hy : D[j]? = some y) (h1 : a ≤ i) (h2 : i < b) (h3 : a ≤ j) (h4 : j < b) : Mv a b D ((D.set i y).set j x) := by
 have hi := (List.getElem?_eq_some_iff.1 hx).1
 have hj := (List.getElem?_eq_some_iff.1 hy).1
 refine ⟨by rw [List.length_set, List.length_set], ?_, fun k hk => ?_, fun k k1 k2 => ?_⟩
 · have := List.set_set_perm («as» := D) hi hj
   rw [List.getElem?_eq_getElem hi] at hx
   rw [List.getElem?_eq_getElem hj] at hy
   rw [Option.some.inj hx, Option.some.inj hy] at this
   exact this
 · rw [swp_get hx hy, if_neg (by omega), if_neg (by omega)]
 · rw [swp_get hx hy]
   by_cases e1 : k = j
   · rw [if_pos e1]
     exact ⟨i, h1, h2, hx.symm⟩
   · rw [if_neg e1]
     by_cases e2 : k = i
     · rw [if_pos e2]
       exact ⟨j, h3, h4, hy.symm⟩
     · rw [if_neg e2]
       exact ⟨k, k1, k2, rfl⟩
theorem SOn.stay {c d : Nat} (h : SOn lt D c d) (k : Mv a b D D') (hd : d ≤ a ∨ b ≤ c) : SOn lt D' c d := fun i j x y h1 h2 h3 hx hy => by
 rw [k.out i (by omega)] at hx
 rw [k.out j (by omega)] at hy
 exact h i j x y h1 h2 h3 hx hy
theorem SOn.join (h1 : SOn lt D a m) (h2 : SOn lt D m b) (h3 : ∀ i j x y, a ≤ i → i < m → m ≤ j → j < b → D[i]? = some x → D[j]? = some y → lt y x = false) : SOn lt D a b := fun i j x y k1 k2 k3 hx hy => by
 by_cases hj : j < m
 · exact h1 i j x y k1 k2 hj hx hy
 · by_cases hi : i < m
   · exact h3 i j x y k1 hi (by omega) k3 hx hy
   · exact h2 i j x y (by omega) k2 k3 hx hy
theorem cross_stay (h : ∀ i j x y, a ≤ i → i < m → m ≤ j → j < b → D[i]? = some x → D[j]? = some y → lt y x = false) (k1 : Mv a m D D') (k2 : Mv m b D' D'') : ∀ i j x y, a ≤ i → i < m → m ≤ j → j < b → D''[i]? = some x → D''[j]? = some y → lt y x = false := fun i j x y h1 h2 h3 h4 hx hy => by
 rw [k2.out i (by omega)] at hx
 obtain ⟨i', a1, a2, a3⟩ := k1.ins i h1 h2
 obtain ⟨j', b1, b2, b3⟩ := k2.ins j h3 h4
 rw [a3] at hx
 rw [b3, k1.out j' (by omega)] at hy
 exact h i' j' x y a1 a2 b1 b2 hx hy
end
end Go.Proofs.YtacbkganjkipdaaGreatDoor
