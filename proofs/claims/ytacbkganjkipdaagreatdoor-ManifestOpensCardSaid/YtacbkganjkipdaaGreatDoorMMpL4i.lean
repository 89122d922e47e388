/-
  Texts joined: MnT.
-/
import Derived.Test.YtacbkganjkipdaaGreatDoorMMpL4h
namespace Go.Proofs.YtacbkganjkipdaaGreatDoor
section
variable {α : Type} {lt : α → α → Bool} {D D' D'' : List α} {a b m : Nat}
structure Ord (lt : α → α → Bool) : Prop where
 asym : ∀ x y, lt x y = true → lt y x = false
 tr : ∀ x y z, lt y x = false → lt z y = false → lt z x = false
theorem Ord.self (o : Ord lt) (x : α) : lt x x = false := by
 cases h : lt x x with
 | false => rfl
 | true => rw [← h]; exact o.asym x x h
structure InsJ (lt : α → α → Bool) (D : List α) (a i j : Nat) : Prop where
 rest : ∀ p q x y, a ≤ p → p < q → q ≤ i → p ≠ j → q ≠ j → D[p]? = some x → D[q]? = some y → lt y x = false
 self : ∀ q x y, j < q → q ≤ i → D[j]? = some x → D[q]? = some y → lt y x = false
theorem InsJ.start {i : Nat} (h : SOn lt D a i) : InsJ lt D a i i := ⟨fun p q x y h1 h2 h3 h4 h5 hx hy => h p q x y h1 h2 (by omega) hx hy, fun q x y h1 h2 => absurd h2 (by omega)⟩
theorem InsJ.step (o : Ord lt) {i j : Nat} {x y : α} (h : InsJ lt D a i (j + 1)) (ha : a ≤ j) (hj : j + 1 ≤ i) (hx : D[j + 1]? = some x) (hy : D[j]? = some y) (hlt : lt x y = true) : InsJ lt ((D.set (j + 1) y).set j x) a i j := by
 refine ⟨fun p q u v h1 h2 h3 h4 h5 hu hv => ?_, fun q u v h1 h2 hu hv => ?_⟩
 · rw [swp_get hx hy, if_neg h4] at hu
   rw [swp_get hx hy, if_neg h5] at hv
   by_cases e1 : p = j + 1
   · rw [if_pos e1] at hu
     rw [if_neg (by omega)] at hv
     exact h.rest j q u v ha (by omega) h3 (by omega) (by omega) (hy.trans hu) hv
   · rw [if_neg e1] at hu
     by_cases e2 : q = j + 1
     · rw [if_pos e2] at hv
       exact h.rest p j u v h1 (by omega) (by omega) e1 (by omega) hu (hy.trans hv)
     · rw [if_neg e2] at hv
       exact h.rest p q u v h1 h2 h3 e1 e2 hu hv
 · rw [swp_get hx hy, if_pos rfl] at hu
   rw [swp_get hx hy, if_neg (by omega)] at hv
   obtain rfl := Option.some.inj hu
   by_cases e : q = j + 1
   · rw [if_pos e] at hv
     obtain rfl := Option.some.inj hv
     exact o.asym _ _ hlt
   · rw [if_neg e] at hv
     exact h.self q x v (by omega) h2 hx hv
theorem InsJ.stop (o : Ord lt) {i j : Nat} (h : InsJ lt D a i j) (_ : j ≤ i) (hs : j = a ∨ ∃ x y, a ≤ j - 1 ∧ 1 ≤ j ∧ D[j]? = some x ∧ D[j - 1]? = some y ∧ lt x y = false) : SOn lt D a (i + 1) := fun p q u v h1 h2 h3 hu hv => by
 by_cases e1 : p = j
 · subst e1
   exact h.self q u v h2 (by omega) hu hv
 · by_cases e2 : q = j
   · subst e2
     rcases hs with e | ⟨x, y, a1, a2, a3, a4, a5⟩
     · omega
     · rw [hv] at a3
       obtain rfl := Option.some.inj a3
       by_cases e3 : p = q - 1
       · rw [e3, a4] at hu
         obtain rfl := Option.some.inj hu
         exact a5
       · exact o.tr u y v (h.rest p (q - 1) u y h1 (by omega) (by omega) (by omega) (by omega) hu a4) a5
   · exact h.rest p q u v h1 h2 (by omega) e1 e2 hu hv
theorem front_sorted (_ : Ord lt) {i : Nat} {x : α} (_ : D[a]? = some x) (hs : SOn lt D (a + 1) b) (h1 : a + 1 ≤ i) (h2 : i ≤ b) (hlo : ∀ k y, a + 1 ≤ k → k < i → D[k]? = some y → lt x y = false) (hhi : ∀ k y, i ≤ k → k < b → D[k]? = some y → lt y x = false) (g1 : ∀ p, a ≤ p → p + 1 < i → D'[p]? = D[p + 1]?) (g2 : D'[i - 1]? = some x) (g3 : ∀ p, i ≤ p → D'[p]? = D[p]?) : SOn lt D' a b := fun p q u v k1 k2 k3 hu hv => by
 by_cases e1 : q + 1 < i
 · rw [g1 p k1 (by omega)] at hu
   rw [g1 q (by omega) e1] at hv
   exact hs (p + 1) (q + 1) u v (by omega) (by omega) (by omega) hu hv
 · by_cases e2 : q + 1 = i
   · rw [show q = i - 1 by omega, g2] at hv
     obtain rfl := Option.some.inj hv
     rw [g1 p k1 (by omega)] at hu
     exact hlo (p + 1) u (by omega) (by omega) hu
   · rw [g3 q (by omega)] at hv
     by_cases e3 : p + 1 < i
     · rw [g1 p k1 e3] at hu
       exact hs (p + 1) q u v (by omega) (by omega) k3 hu hv
     · by_cases e4 : p + 1 = i
       · rw [show p = i - 1 by omega, g2] at hu
         obtain rfl := Option.some.inj hu
         exact hhi q v (by omega) k3 hv
       · rw [g3 p (by omega)] at hu
         exact hs p q u v (by omega) k2 k3 hu hv
theorem back_sorted (_ : Ord lt) {i : Nat} {x : α} (_ : D[m]? = some x) (hs : SOn lt D a m) (h1 : a ≤ i) (h2 : i ≤ m) (hlo : ∀ k y, a ≤ k → k < i → D[k]? = some y → lt x y = false) (hhi : ∀ k y, i ≤ k → k < m → D[k]? = some y → lt y x = false) (g1 : ∀ p, i < p → p ≤ m → D'[p]? = D[p - 1]?) (g2 : D'[i]? = some x) (g3 : ∀ p, p < i → D'[p]? = D[p]?) : SOn lt D' a (m + 1) := fun p q u v k1 k2 k3 hu hv => by
 by_cases e1 : q < i
 · rw [g3 p (by omega)] at hu
   rw [g3 q e1] at hv
   exact hs p q u v k1 k2 (by omega) hu hv
 · by_cases e2 : q = i
   · rw [e2, g2] at hv
     obtain rfl := Option.some.inj hv
     rw [g3 p (by omega)] at hu
     exact hlo p u k1 (by omega) hu
   · rw [g1 q (by omega) (by omega)] at hv
     by_cases e3 : p < i
     · rw [g3 p e3] at hu
       exact hs p (q - 1) u v k1 (by omega) (by omega) hu hv
     · by_cases e4 : p = i
       · rw [e4, g2] at hu
         obtain rfl := Option.some.inj hu
         exact hhi (q - 1) v (by omega) (by omega) hv
       · rw [g1 p (by omega) (by omega)] at hu
         exact hs (p - 1) (q - 1) u v (by omega) (by omega) (by omega) hu hv
structure Rot (s m e : Nat) (D D' : List α) : Prop where
 mv : Mv s e D D'
 lo : ∀ i, s ≤ i → i < s + (e - m) → D'[i]? = D[m + (i - s)]?
 hi : ∀ i, s + (e - m) ≤ i → i < e → D'[i]? = D[i - (e - m)]?
theorem Rot.none_ {s m e : Nat} (h : s = m ∨ m = e) : Rot s m e D D := ⟨.refl _ _ _, fun i h1 h2 => by
 rcases h with rfl | rfl
 · rw [show s + (i - s) = i by omega]
 · omega, fun i h1 h2 => by
 rcases h with rfl | rfl
 · omega
 · rw [Nat.sub_self, Nat.sub_zero]⟩
structure CutAt (lt : α → α → Bool) (D : List α) (a m b s : Nat) : Prop where
 lo : a ≤ s
 hi : s ≤ m
 elo : m ≤ (a + b) / 2 + m - s
 ehi : (a + b) / 2 + m - s ≤ b
 low : ∀ x y, a < s → (a + b) / 2 + m - s < b → D[s - 1]? = some x → D[(a + b) / 2 + m - s]? = some y → lt y x = false
 high : ∀ x y, s < m → m < (a + b) / 2 + m - s → D[s]? = some x → D[(a + b) / 2 + m - s - 1]? = some y → lt x y = false
theorem rot_cross (o : Ord lt) {s : Nat} (hA : SOn lt D a m) (hB : SOn lt D m b) (hc : CutAt lt D a m b s) (hb : b ≤ D.length) (hr : Rot s m ((a + b) / 2 + m - s) D D') :
 SOn lt D' a s ∧ SOn lt D' s ((a + b) / 2) ∧ SOn lt D' ((a + b) / 2) ((a + b) / 2 + m - s) ∧ SOn lt D' ((a + b) / 2 + m - s) b ∧ (∀ i j x y, a ≤ i → i < (a + b) / 2 → (a + b) / 2 ≤ j → j < b → D'[i]? = some x → D'[j]? = some y → lt y x = false) := by
 obtain ⟨c1, c2, c3, c4, c5, c6⟩ := hc
 obtain ⟨hm, hlo, hhi⟩ := hr
 generalize hmid : (a + b) / 2 = mid at *
 have hsm : s ≤ mid := by omega
 obtain ⟨e, he⟩ : ∃ e, e = mid + m - s := ⟨_, rfl⟩
 rw [← he] at c3 c4 c5 c6 hm hlo hhi ⊢
 have hem : s + (e - m) = mid := by omega
 rw [hem] at hlo hhi
 refine ⟨(hA.sub (Nat.le_refl _) c2).stay hm (.inl (Nat.le_refl _)), fun i j x y h1 h2 h3 hx hy => ?_, fun i j x y h1 h2 h3 hx hy => ?_, (hB.sub (by omega) (Nat.le_refl _)).stay hm (.inr (Nat.le_refl _)), fun i j x y h1 h2 h3 h4 hx hy => ?_⟩
 · rw [hlo i h1 (by omega)] at hx
   rw [hlo j (by omega) h3] at hy
   exact hB _ _ x y (by omega) (by omega) (by omega) hx hy
 · rw [hhi i h1 (by omega)] at hx
   rw [hhi j (by omega) h3] at hy
   exact hA _ _ x y (by omega) (by omega) (by omega) hx hy
 ·
  have L : ∀ {p q : Nat} {u v : α}, SOn lt D p q → ∀ {k l : Nat}, p ≤ k → k ≤ l → l < q → D[k]? = some u → D[l]? = some v → lt v u = false := fun {p q u v} hS {k l} a1 a2 a3 hu hv => by
   by_cases e0 : k = l
   · subst e0
     rw [hu] at hv
     obtain rfl := Option.some.inj hv
     exact o.self u
   · exact hS k l u v a1 (by omega) a3 hu hv
  have get : ∀ k, k < b → ∃ z, D[k]? = some z := fun k hk => ⟨_, List.getElem?_eq_getElem (by omega)⟩
  by_cases hi1 : i < s
  · rw [hm.out i (.inl hi1)] at hx
    by_cases hj1 : j < e
    · rw [hhi j h3 hj1] at hy
      exact hA i _ x y h1 (by omega) (by omega) hx hy
    · rw [hm.out j (.inr (by omega))] at hy
      obtain ⟨u, hu⟩ := get (s - 1) (by omega)
      obtain ⟨v, hv⟩ := get e (by omega)
      exact o.tr x v y (o.tr x u v (L hA h1 (by omega) (by omega) hx hu) (c5 u v (by omega) (by omega) hu hv)) (L hB (by omega) (by omega) h4 hv hy)
  · rw [hlo i (by omega) h2] at hx
    by_cases hj1 : j < e
    · rw [hhi j h3 hj1] at hy
      obtain ⟨u, hu⟩ := get s (by omega)
      obtain ⟨v, hv⟩ := get (e - 1) (by omega)
      exact o.tr x v y (L hB (by omega) (by omega) (by omega) hx hv) (o.tr v u y (c6 u v (by omega) (by omega) hu hv) (L hA (by omega) (by omega) (by omega) hu hy))
    · rw [hm.out j (.inr (by omega))] at hy
      exact hB _ j x y (by omega) (by omega) h4 hx hy
end
end Go.Proofs.YtacbkganjkipdaaGreatDoor
