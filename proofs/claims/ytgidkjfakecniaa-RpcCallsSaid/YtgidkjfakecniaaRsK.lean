/- the plain law of a caller: what is left of its ticks -/
import Derived.Test.YtgidkjfakecniaaRsB
namespace Go.Proofs.Ytgidkjfakecniaa
open Go.RowKit
def tailT (tr : Int) : Int := if tr = 1 then 60 else if tr = 2 then 56 else if tr = 3 then 48 else if tr = 4 then 32 else 0
/-- How many ticks are left. -/
def remT (tr wt : Int) : Int := wt + tailT tr
theorem step_pow {tr : Int} (h1 : 1 ≤ tr) (h2 : tr ≤ 4) : (2 : Int) * 2 ^ tr.toNat + tailT (tr + 1) = tailT tr ∧ (4 : Int) ≤ 2 * 2 ^ tr.toNat ∧ (2 : Int) * 2 ^ tr.toNat ≤ 32 := by
  have : tr = 1 ∨ tr = 2 ∨ tr = 3 ∨ tr = 4 := by omega
  rcases this with rfl | rfl | rfl | rfl <;> decide
theorem tick_rem : ∀ (f : Nat) (tr wt n : Int) (k : Nat), 1 ≤ tr → tr ≤ 5 → 1 ≤ wt → wt ≤ 32 → 6 - tr ≤ f → n ≤ remT tr wt →
    (0 < remT tr wt - max n 0 → (tickF f true tr wt n k).1 = true ∧ remT (tickF f true tr wt n k).2.1 (tickF f true tr wt n k).2.2.1 = remT tr wt - max n 0 ∧ (1 ≤ (tickF f true tr wt n k).2.1 ∧ (tickF f true tr wt n k).2.1 ≤ 5) ∧ (1 ≤ (tickF f true tr wt n k).2.2.1 ∧ (tickF f true tr wt n k).2.2.1 ≤ 32) ∧ ((tickF f true tr wt n k).2.2.2 : Int) = k + ((tickF f true tr wt n k).2.1 - tr)) ∧
    (remT tr wt - max n 0 = 0 → (tickF f true tr wt n k).1 = false ∧ ((tickF f true tr wt n k).2.2.2 : Int) = k + (5 - tr))
  | 0, tr, wt, n, k, h1, h2, _, _, h5, _ => by omega
  | f + 1, tr, wt, n, k, h1, h2, h3, h4, h5, h6 => by
    unfold tickF
    by_cases hw : wt ≤ n
    · rw [if_pos ⟨rfl, hw⟩]
      by_cases ht : tr = 5
      · subst ht
        rw [if_pos rfl]
        have e : remT 5 wt = wt := by simp [remT, tailT]
        rw [e] at h6 ⊢
        exact ⟨fun h => by omega, fun _ => ⟨rfl, by simp⟩⟩
      · rw [if_neg ht]
        obtain ⟨p1, p2, p3⟩ := step_pow h1 (by omega)
        have e : remT (tr + 1) (2 * 2 ^ tr.toNat) = remT tr wt - wt := by unfold remT; omega
        obtain ⟨r1, r2⟩ := tick_rem f (tr + 1) (2 * 2 ^ tr.toNat) (n - wt) (k + 1) (by omega) (by omega) (by omega) (by omega) (by omega) (by omega)
        rw [e] at r1 r2
        refine ⟨fun h => ?_, fun h => ?_⟩
        · obtain ⟨q1, q2, q3, q4, q5⟩ := r1 (by omega)
          exact ⟨q1, by omega, q3, q4, by omega⟩
        · obtain ⟨q1, q2⟩ := r2 (by omega)
          exact ⟨q1, by omega⟩
    · rw [if_neg (fun h => hw h.2)]
      refine ⟨fun h => ?_, fun h => ?_⟩
      · dsimp only
        by_cases hn : 0 < n
        · rw [if_pos ⟨rfl, hn⟩]
          exact ⟨rfl, by unfold remT; omega, ⟨h1, h2⟩, ⟨by omega, by omega⟩, by omega⟩
        · rw [if_neg (fun h => hn h.2)]
          exact ⟨rfl, by unfold remT; omega, ⟨h1, h2⟩, ⟨by omega, by omega⟩, by omega⟩
      · exfalso
        have : 0 ≤ tailT tr := by
          have : tr = 1 ∨ tr = 2 ∨ tr = 3 ∨ tr = 4 ∨ tr = 5 := by omega
          rcases this with rfl | rfl | rfl | rfl | rfl <;> decide
        unfold remT at h
        omega
end Go.Proofs.Ytgidkjfakecniaa
