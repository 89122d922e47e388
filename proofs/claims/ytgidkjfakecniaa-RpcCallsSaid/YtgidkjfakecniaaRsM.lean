/- the plain law of a caller: tick by tick, and many at once -/
import Derived.Test.YtgidkjfakecniaaRsK
namespace Go.Proofs.Ytgidkjfakecniaa
open Go.RowKit
structure RS where
  b : Bool
  tr : Int
  s : Int
  k : Nat
/-- One tick, as the document counts. -/
def rstep (x : RS) : RS := if x.b = false then x else if x.s + 1 < 2 ^ x.tr.toNat then { x with s := x.s + 1 } else if x.tr = 5 then ⟨false, x.tr, x.s + 1, x.k⟩ else ⟨true, x.tr + 1, 0, x.k + 1⟩
def riter : Nat → RS → RS
  | 0, x => x
  | n + 1, x => rstep (riter n x)
theorem riter_comp : ∀ (n : Nat) (x : RS), riter (n + 1) x = riter n (rstep x)
  | 0, _ => rfl
  | n + 1, x => by
    show rstep (riter (n + 1) x) = rstep (riter n (rstep x))
    rw [riter_comp n x]
theorem riter_over : ∀ (n : Nat) (x : RS), x.b = false → riter n x = x
  | 0, _, _ => rfl
  | n + 1, x, h => by
    show rstep (riter n x) = x
    rw [riter_over n x h]
    unfold rstep
    rw [if_pos h]
/-- What holds of a caller. -/
def RS.fit (x : RS) : Prop := x.b = true → 1 ≤ x.tr ∧ x.tr ≤ 5 ∧ 0 ≤ x.s ∧ x.s < 2 ^ x.tr.toNat
theorem pow_five {tr : Int} (h1 : 1 ≤ tr) (h2 : tr ≤ 5) : (2 : Int) ≤ 2 ^ tr.toNat ∧ (2 : Int) ^ tr.toNat ≤ 32 ∧ (tr ≤ 4 → (2 : Int) ^ (tr + 1).toNat = 2 * 2 ^ tr.toNat) := by
  have : tr = 1 ∨ tr = 2 ∨ tr = 3 ∨ tr = 4 ∨ tr = 5 := by omega
  rcases this with rfl | rfl | rfl | rfl | rfl <;> decide
theorem fit_step {x : RS} (h : x.fit) : (rstep x).fit := by
  unfold rstep
  split
  · exact h
  · rename_i hb
    obtain ⟨h1, h2, h3, h4⟩ := h (by cases e : x.b <;> simp_all)
    split
    · rename_i hs
      exact fun _ => ⟨h1, h2, by show 0 ≤ x.s + 1; omega, hs⟩
    · split
      · exact fun e => absurd e Bool.false_ne_true
      · rename_i h5
        have := (pow_five (tr := x.tr + 1) (by omega) (by omega)).1
        exact fun _ => ⟨by show 1 ≤ x.tr + 1; omega, by show x.tr + 1 ≤ 5; omega, Int.le_refl 0, by show 0 < (2 : Int) ^ (x.tr + 1).toNat; omega⟩
theorem fit_iter {x : RS} (h : x.fit) : ∀ n, (riter n x).fit
  | 0 => h
  | n + 1 => fit_step (fit_iter h n)
theorem k_step (x : RS) : (rstep x).k ≤ x.k + 1 := by
  unfold rstep
  repeat (first | (split) | (dsimp only; omega) | omega)
theorem k_iter (x : RS) : ∀ n, (riter n x).k ≤ x.k + n
  | 0 => Nat.le_refl _
  | n + 1 => by
    have := k_iter x n
    have := k_step (riter n x)
    show (rstep (riter n x)).k ≤ _
    omega
theorem riter_add : ∀ (a b : Nat) (x : RS), riter (a + b) x = riter a (riter b x)
  | 0, b, x => by rw [Nat.zero_add]; rfl
  | a + 1, b, x => by
    rw [show a + 1 + b = (a + b) + 1 from by omega]
    show rstep (riter (a + b) x) = rstep (riter a (riter b x))
    rw [riter_add a b x]
theorem tickF_hit {f : Nat} {tr wt n : Int} {k : Nat} (h : wt ≤ n) (h5 : tr ≠ 5) : tickF (f + 1) true tr wt n k = tickF f true (tr + 1) (2 * 2 ^ tr.toNat) (n - wt) (k + 1) := by
  rw [tickF, if_pos ⟨rfl, h⟩, if_neg h5]
theorem tickF_end {f : Nat} {tr wt n : Int} {k : Nat} (h : wt ≤ n) (h5 : tr = 5) : tickF (f + 1) true tr wt n k = (false, tr, wt, k) := by
  rw [tickF, if_pos ⟨rfl, h⟩, if_pos h5]
theorem tickF_low {f : Nat} {tr wt n : Int} {k : Nat} (h : ¬ wt ≤ n) : tickF (f + 1) true tr wt n k = (true, tr, if 0 < n then wt - n else wt, k) := by
  rw [tickF, if_neg (fun e => h e.2)]
  simp
theorem tickF_off (f : Nat) (tr wt n : Int) (k : Nat) : tickF f false tr wt n k = (false, tr, wt, k) := by cases f <;> simp [tickF]
/-- Many ticks at once answer as one by one. -/
theorem tick_iter : ∀ (m : Nat) (f : Nat) (x : RS), x.fit → (x.b = true → 6 - x.tr ≤ f) →
    (tickF f x.b x.tr (2 ^ x.tr.toNat - x.s) m x.k).1 = (riter m x).b ∧ (tickF f x.b x.tr (2 ^ x.tr.toNat - x.s) m x.k).2.2.2 = (riter m x).k ∧
    ((riter m x).b = true → (tickF f x.b x.tr (2 ^ x.tr.toNat - x.s) m x.k).2.1 = (riter m x).tr ∧ (tickF f x.b x.tr (2 ^ x.tr.toNat - x.s) m x.k).2.2.1 = 2 ^ (riter m x).tr.toNat - (riter m x).s) := by
  intro m
  induction m with
  | zero =>
    intro f x hx hf
    have e : tickF f x.b x.tr (2 ^ x.tr.toNat - x.s) ((0 : Nat) : Int) x.k = (x.b, x.tr, 2 ^ x.tr.toNat - x.s, x.k) := by
      cases f with
      | zero => simp [tickF]
      | succ f =>
        have : ¬ (x.b = true ∧ 2 ^ x.tr.toNat - x.s ≤ ((0 : Nat) : Int)) := fun h => by have := hx h.1; omega
        rw [tickF, if_neg this]
        simp
    rw [e]
    exact ⟨rfl, rfl, fun _ => ⟨rfl, rfl⟩⟩
  | succ m ih =>
    intro f x hx hf
    rw [riter_comp]
    by_cases hb : x.b = true
    · obtain ⟨h1, h2, h3, h4⟩ := hx hb
      obtain ⟨f, rfl⟩ : ∃ g, f = g + 1 := ⟨f - 1, by have := hf hb; omega⟩
      obtain ⟨b, tr, s, k⟩ := x
      dsimp only at hb h1 h2 h3 h4 hf ⊢
      subst hb
      by_cases hs : s + 1 < 2 ^ tr.toNat
      · have es : rstep ⟨true, tr, s, k⟩ = ⟨true, tr, s + 1, k⟩ := by unfold rstep; simp [hs]
        rw [es]
        have := ih (f + 1) ⟨true, tr, s + 1, k⟩ (fun _ => ⟨h1, h2, by show 0 ≤ s + 1; omega, hs⟩) hf
        dsimp only at this
        by_cases hw : 2 ^ tr.toNat - (s + 1) ≤ (m : Int)
        · have hw' : 2 ^ tr.toNat - s ≤ ((m + 1 : Nat) : Int) := by omega
          by_cases h5 : tr = 5
          · rw [tickF_end hw h5] at this
            rw [tickF_end hw' h5]
            exact ⟨this.1, this.2.1, fun e => absurd (this.1.trans e) Bool.false_ne_true⟩
          · rw [tickF_hit hw h5] at this
            rw [tickF_hit hw' h5, show ((m + 1 : Nat) : Int) - (2 ^ tr.toNat - s) = (m : Int) - (2 ^ tr.toNat - (s + 1)) by omega]
            exact this
        · have hw' : ¬ 2 ^ tr.toNat - s ≤ ((m + 1 : Nat) : Int) := by omega
          rw [tickF_low hw] at this
          rw [tickF_low hw', if_pos (show (0 : Int) < ((m + 1 : Nat) : Int) by omega)]
          have e : 2 ^ tr.toNat - s - ((m + 1 : Nat) : Int) = if 0 < (m : Int) then 2 ^ tr.toNat - (s + 1) - (m : Int) else 2 ^ tr.toNat - (s + 1) := by
            split <;> omega
          rw [e]
          exact this
      · have hw : 2 ^ tr.toNat - s = 1 := by omega
        rw [hw]
        by_cases h5 : tr = 5
        · have es : rstep ⟨true, tr, s, k⟩ = ⟨false, tr, s + 1, k⟩ := by unfold rstep; rw [if_neg (by simp), if_neg hs, if_pos h5]
          rw [es, riter_over _ _ rfl, tickF_end (by omega) h5]
          exact ⟨rfl, rfl, fun e => absurd e Bool.false_ne_true⟩
        · have es : rstep ⟨true, tr, s, k⟩ = ⟨true, tr + 1, 0, k + 1⟩ := by unfold rstep; simp [hs, h5]
          obtain ⟨p1, p2, p3⟩ := pow_five h1 h2
          have p4 := p3 (by omega)
          rw [es, tickF_hit (by omega) h5]
          have := ih f ⟨true, tr + 1, 0, k + 1⟩ (fun _ => ⟨by show 1 ≤ tr + 1; omega, by show tr + 1 ≤ 5; omega, Int.le_refl 0, by show (0 : Int) < 2 ^ (tr + 1).toNat; omega⟩) (fun _ => by have := hf rfl; show 6 - (tr + 1) ≤ (f : Int); omega)
          dsimp only at this
          rw [p4, Int.sub_zero] at this
          rw [show ((m + 1 : Nat) : Int) - 1 = (m : Int) by omega]
          exact this
    · have hb : x.b = false := by cases e : x.b <;> simp_all
      have es : rstep x = x := by unfold rstep; rw [if_pos hb]
      rw [es, riter_over _ _ hb, hb, tickF_off]
      exact ⟨rfl, rfl, fun e => absurd e Bool.false_ne_true⟩
/-- Behind a hundred ticks nothing more comes. -/
theorem iter_hundred {x : RS} (hx : x.fit) (n : Nat) (h : 100 ≤ n) : riter n x = riter 100 x := by
  obtain ⟨r, hr, hov⟩ : ∃ r, r ≤ 100 ∧ (riter r x).b = false := by
    by_cases hb0 : x.b = true
    · obtain ⟨h1, h2, h3, h4⟩ := hx hb0
      obtain ⟨p1, p2, p3⟩ := pow_five h1 h2
      have ht0 : 0 ≤ tailT x.tr ∧ tailT x.tr ≤ 60 := by
        have : x.tr = 1 ∨ x.tr = 2 ∨ x.tr = 3 ∨ x.tr = 4 ∨ x.tr = 5 := by omega
        rcases this with e | e | e | e | e <;> rw [e] <;> decide
      have hr : ((remT x.tr (2 ^ x.tr.toNat - x.s)).toNat : Int) = remT x.tr (2 ^ x.tr.toNat - x.s) := by unfold remT; omega
      have ht := tick_iter (remT x.tr (2 ^ x.tr.toNat - x.s)).toNat 6 x hx (fun _ => by show 6 - x.tr ≤ (6 : Int); omega)
      have hq := (tick_rem 6 x.tr (2 ^ x.tr.toNat - x.s) (remT x.tr (2 ^ x.tr.toNat - x.s)).toNat x.k h1 h2 (by omega) (by omega) (by show 6 - x.tr ≤ (6 : Int); omega) (by omega)).2 (by omega)
      rw [hb0, hq.1] at ht
      exact ⟨_, by unfold remT at hr ⊢; omega, ht.1.symm⟩
    · exact ⟨0, by omega, by cases e : x.b <;> simp_all [riter]⟩
  rw [show n = (n - r) + r by omega, riter_add, riter_over _ _ hov, show 100 = (100 - r) + r by omega, riter_add, riter_over _ _ hov]
end Go.Proofs.Ytgidkjfakecniaa
