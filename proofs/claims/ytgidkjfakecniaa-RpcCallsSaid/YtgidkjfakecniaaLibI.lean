/- Lists of numbers as cells. -/
import Derived.Test.YtgidkjfakecniaaLibC
namespace Go.Proofs.Ytgidkjfakecniaa
open Go.RowKit

/-- A list of numbers as cells. -/
def ints (xs : List Int) : List Value := xs.map (Value.int .i64)
theorem ints_length (xs : List Int) : (ints xs).length = xs.length := by simp [ints]
theorem ints_append (xs ys : List Int) : ints (xs ++ ys) = ints xs ++ ints ys := by simp [ints]
theorem ints_one (xs : List Int) : ∀ u ∈ ints xs, u.oneCell' = true := by
  intro u hu
  simp only [ints, List.mem_map] at hu
  obtain ⟨x, _, rfl⟩ := hu
  rfl
theorem ints_get (xs : List Int) (k : Nat) : (ints xs)[k]? = (xs[k]?).map (Value.int .i64) := by simp [ints]
theorem Reads.int_ {w : World} {B n : Nat} {A : Option Addr} {xs : List Int} (h : Reads w B 1 A n (ints xs)) {k : Nat} (hk : k < n) : ∃ ad, A = some ad ∧ ad.block < B ∧ w.cell? (ad.add k) = some (.int .i64 (xs.getD k 0)) := by
  obtain ⟨ad, u, e, hb, hx, hc⟩ := h.at_ hk
  refine ⟨ad, e, hb, ?_⟩
  have hl : k < xs.length := by have := h.1; rw [ints_length] at this; omega
  rw [ints_get, List.getElem?_eq_getElem hl] at hx
  rw [hc, ← hx]
  simp [List.getD, List.getElem?_eq_getElem hl]
end Go.Proofs.Ytgidkjfakecniaa
