/-
  Texts joined: MnU.
-/
import Derived.Test.YtacbkganjkipdaaGreatDoorMMpL4i
namespace Go.Proofs.YtacbkganjkipdaaGreatDoor
section
variable {α : Type} {lt : α → α → Bool} {D D' D'' : List α} {a b m : Nat}
structure Sw (a b n : Nat) (D D' : List α) : Prop where
 mv : Mv a (b + n) D D'
 lo : ∀ p, a ≤ p → p < a + n → D'[p]? = D[p + (b - a)]?
 hi : ∀ p, b ≤ p → p < b + n → D'[p]? = D[p - (b - a)]?
 mid : ∀ p, a + n ≤ p → p < b → D'[p]? = D[p]?
theorem Sw.none_ (a b : Nat) (D : List α) : Sw a b 0 D D := ⟨.refl _ _ _, fun p h1 h2 => absurd h2 (by omega), fun p h1 h2 => absurd h2 (by omega), fun _ _ _ => rfl⟩
theorem Sw.step {n : Nat} {x y : α} (h : Sw a b n D D') (hn : a + n < b) (hx : D'[a + n]? = some x) (hy : D'[b + n]? = some y) : Sw a b (n + 1) D ((D'.set (a + n) y).set (b + n) x) := by
 have hax : D[a + n]? = some x := by rw [← h.mid (a + n) (Nat.le_refl _) hn]; exact hx
 have hby : D[b + n]? = some y := by rw [← h.mv.out (b + n) (.inr (Nat.le_refl _))]; exact hy
 refine ⟨(h.mv.wide (Nat.le_refl _) (by omega)).trans (Mv.swap hx hy (by omega) (by omega) (by omega) (by omega)), fun p h1 h2 => ?_, fun p h1 h2 => ?_, fun p h1 h2 => ?_⟩
 · rw [swp_get hx hy, if_neg (by omega)]
   by_cases e : p = a + n
   · rw [if_pos e, e, show a + n + (b - a) = b + n by omega, hby]
   · rw [if_neg e]
     exact h.lo p h1 (by omega)
 · rw [swp_get hx hy]
   by_cases e : p = b + n
   · rw [if_pos e, e, show b + n - (b - a) = a + n by omega, hax]
   · rw [if_neg e, if_neg (by omega)]
     exact h.hi p h1 (by omega)
 · rw [swp_get hx hy, if_neg (by omega), if_neg (by omega)]
   exact h.mid p (by omega) h2
theorem Rot.more {i j : Nat} (hs : Sw (m - i) m j D D') (hij : j < i) (him : i ≤ m) (h : Rot (m - (i - j)) m (m + j) D' D'') : Rot (m - i) m (m + j) D D'' := by
 obtain ⟨h1, h2, h3⟩ := h
 refine ⟨hs.mv.trans (h1.wide (by omega) (Nat.le_refl _)), fun p a1 a2 => ?_, fun p a1 a2 => ?_⟩
 · rw [h1.out p (.inl (by omega)), hs.lo p a1 (by omega)]
   congr 1
   omega
 · by_cases e : p < m - (i - j) + (m + j - m)
   · rw [h2 p (by omega) e, hs.hi _ (by omega) (by omega)]
     congr 1
     omega
   · rw [h3 p (by omega) a2, hs.mid _ (by omega) (by omega)]
theorem Rot.less {i j : Nat} (hs : Sw (m - i) (m + j - i) i D D') (hij : i < j) (him : i ≤ m) (h : Rot (m - i) m (m + (j - i)) D' D'') : Rot (m - i) m (m + j) D D'' := by
 obtain ⟨h1, h2, h3⟩ := h
 have hmv := hs.mv
 rw [show m + j - i + i = m + j by omega] at hmv
 refine ⟨hmv.trans (h1.wide (Nat.le_refl _) (by omega)), fun p a1 a2 => ?_, fun p a1 a2 => ?_⟩
 · by_cases e : p < m - i + (m + (j - i) - m)
   · rw [h2 p a1 e, hs.mid _ (by omega) (by omega)]
   · rw [h3 p (by omega) (by omega), hs.lo _ (by omega) (by omega)]
     congr 1
     omega
 · rw [h1.out p (.inr (by omega)), hs.hi p (by omega) (by omega)]
   congr 1
   omega
theorem Rot.same {i : Nat} (hs : Sw (m - i) m i D D') (him : i ≤ m) : Rot (m - i) m (m + i) D D' :=
 ⟨hs.mv, fun p a1 a2 => by rw [hs.lo p a1 (by omega)]; congr 1; omega, fun p a1 a2 => by rw [hs.hi p (by omega) a2]; congr 1; omega⟩
theorem mid_sorted {s e : Nat} (h1 : SOn lt D a s) (h2 : SOn lt D s e) (hs : ¬ (a < s ∧ s < e)) (h3 : a ≤ s) (h4 : s ≤ e) : SOn lt D a e := by
 by_cases h : a = s
 · subst h
   exact h2
 · obtain rfl : s = e := by omega
   exact h1
def Blk_ (lt : α → α → Bool) (D : List α) (bs n : Nat) : Prop := ∀ k, SOn lt D (k * bs) (min (k * bs + bs) n)
structure Mrg (lt : α → α → Bool) (D : List α) (bs n k : Nat) : Prop where
 done : ∀ j, j < k → SOn lt D (j * (2 * bs)) (j * (2 * bs) + 2 * bs)
 todo : ∀ j, 2 * k ≤ j → SOn lt D (j * bs) (min (j * bs + bs) n)
theorem Mrg.start {bs n : Nat} (h : Blk_ lt D bs n) : Mrg lt D bs n 0 := ⟨fun _ h => absurd h (Nat.not_lt_zero _), fun j _ => h j⟩
theorem two_mul_ (k bs : Nat) : 2 * k * bs = k * (2 * bs) := by rw [Nat.mul_comm 2 k, Nat.mul_assoc]
theorem Mrg.parts {bs n k : Nat} (h : Mrg lt D bs n k) : SOn lt D (k * (2 * bs)) (min (k * (2 * bs) + bs) n) ∧ SOn lt D (k * (2 * bs) + bs) (min (k * (2 * bs) + 2 * bs) n) := by
 have h1 := h.todo (2 * k) (Nat.le_refl _)
 have h2 := h.todo (2 * k + 1) (by omega)
 rw [two_mul_] at h1
 rw [Nat.succ_mul, two_mul_] at h2
 refine ⟨h1, ?_⟩
 rw [show k * (2 * bs) + bs + bs = k * (2 * bs) + 2 * bs by omega] at h2
 exact h2
theorem Mrg.step {bs n k : Nat} (h : Mrg lt D bs n k) (hm : Mv (k * (2 * bs)) (k * (2 * bs) + 2 * bs) D D') (hs : SOn lt D' (k * (2 * bs)) (k * (2 * bs) + 2 * bs)) : Mrg lt D' bs n (k + 1) := by
 refine ⟨fun j hj => ?_, fun j hj => ?_⟩
 · by_cases e : j = k
   · rw [e]
     exact hs
   · have h1 := Nat.mul_le_mul_right (2 * bs) (show j + 1 ≤ k by omega)
     rw [Nat.succ_mul] at h1
     exact (h.done j (by omega)).stay hm (.inl h1)
 · have h1 := Nat.mul_le_mul_right bs hj
   rw [Nat.mul_add, Nat.add_mul, two_mul_, Nat.mul_one] at h1
   exact (h.todo j (by omega)).stay hm (.inr h1)
theorem Mrg.last {bs n k : Nat} (h : Mrg lt D bs n k) (hk : n < k * (2 * bs) + 2 * bs) (hm : Mv (k * (2 * bs)) n D D') (hs : SOn lt D' (k * (2 * bs)) n) : Blk_ lt D' (2 * bs) n := fun j => by
 by_cases e : j < k
 · have h1 := Nat.mul_le_mul_right (2 * bs) (show j + 1 ≤ k by omega)
   rw [Nat.succ_mul] at h1
   exact ((h.done j e).sub (Nat.le_refl _) (Nat.min_le_left _ _)).stay hm (.inl (by omega))
 · by_cases e2 : j = k
   · rw [e2]
     exact hs.sub (Nat.le_refl _) (Nat.min_le_right _ _)
   · have h1 := Nat.mul_le_mul_right (2 * bs) (show k + 1 ≤ j by omega)
     rw [Nat.succ_mul] at h1
     exact SOn.one (by omega)
theorem Blk_.all {bs n : Nat} (h : Blk_ lt D bs n) (hn : n ≤ bs) : SOn lt D 0 n := by
 have := h 0
 rw [Nat.zero_mul, Nat.zero_add, Nat.min_eq_right hn] at this
 exact this
theorem SOn.pair {n : Nat} (h : SOn lt D 0 n) (hn : D.length ≤ n) : D.Pairwise fun x y => lt y x = false := by
 rw [List.pairwise_iff_getElem]
 intro i j hi hj hij
 exact h i j _ _ (Nat.zero_le _) hij (by omega) (List.getElem?_eq_getElem hi) (List.getElem?_eq_getElem hj)
end
end Go.Proofs.YtacbkganjkipdaaGreatDoor
