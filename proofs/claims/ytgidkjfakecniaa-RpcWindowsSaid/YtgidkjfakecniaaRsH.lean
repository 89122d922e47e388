/- the plain law of the window: a list that is searched, and a map -/
import Derived.Test.YtgidkjfakecniaaRsG
namespace Go.Proofs.Ytgidkjfakecniaa
open Go.RowKit
def sameD (a b : SeenD) : Prop := a.id = b.id ∧ a.dn = b.dn ∧ a.code = b.code ∧ a.ep = b.ep ∧ a.st = b.st ∧ a.xs = b.xs
def rel (S : Int → SeenD) (l : List (Int × SeenD)) : Prop := ∀ p, sameD (S p) (lkL l p)
/-- Its list is read of the arguments. -/
def RW (W : World) (s : SeenD) : Prop := Reads W W.heap.size 1 s.A s.xs.length (ints s.xs) ∧ s.xs.length ≤ 17592186044415
def RWs (W : World) (l : List (Int × SeenD)) : Prop := ∀ p, RW W (lkL l p)
theorem RW_zero (W : World) (id : Int) : RW W (newD id) ∧ RW W SeenD.zero := ⟨⟨Reads.none_, Nat.zero_le _⟩, ⟨Reads.none_, Nat.zero_le _⟩⟩
theorem lk_filter (l : List (Int × SeenD)) (q p : Int) : lkL (l.filter (fun x => decide (x.1 ≠ q))) p = if p = q then SeenD.zero else lkL l p := by
  induction l with
  | nil => simp [lkL]
  | cons x l ih =>
    rw [List.filter_cons]
    by_cases h : x.1 = q
    · rw [if_neg (by simpa using h), ih]
      by_cases hp : p = q
      · simp [hp]
      · rw [if_neg hp, if_neg hp, lkL, if_neg (fun e => hp (by rw [← e, h]))]
    · rw [if_pos (by simpa using h), lkL, lkL, ih]
      by_cases hx : x.1 = p
      · rw [if_pos hx, if_pos hx, if_neg (fun e => h (by rw [hx, e]))]
      · rw [if_neg hx, if_neg hx]
theorem lk_append (a b : List (Int × SeenD)) (p : Int) (h : ∀ x ∈ a, x.1 ≠ p) : lkL (a ++ b) p = lkL b p := by
  induction a with
  | nil => rfl
  | cons x a ih => rw [List.cons_append, lkL, if_neg (h x List.mem_cons_self), ih fun y hy => h y (List.mem_cons_of_mem _ hy)]
theorem lk_append' (a b : List (Int × SeenD)) (p : Int) (h : ∀ x ∈ b, x.1 ≠ p) : lkL (a ++ b) p = lkL a p := by
  induction a with
  | nil =>
    rw [List.nil_append]
    induction b with
    | nil => rfl
    | cons x b ih => exact (if_neg (h x List.mem_cons_self)).trans (ih fun y hy => h y (List.mem_cons_of_mem _ hy))
  | cons x a ih => rw [List.cons_append, lkL, lkL, ih]
theorem lk_load (l : List (Int × SeenD)) (q p : Int) (s : SeenD) : lkL (loadL l q s) p = if p = q then (if s.id < 1 then SeenD.zero else if s.dn = true then s else newD s.id) else lkL l p := by
  unfold loadL
  by_cases hp : p = q
  · subst hp
    rw [if_pos rfl, lk_append _ _ _ (fun x hx => by simpa using (List.mem_filter.1 hx).2)]
    by_cases h : s.id < 1
    · rw [if_pos h, if_pos h]; rfl
    · rw [if_neg h, if_neg h]; simp [lkL]
  · rw [if_neg hp, lk_append' _ _ _ (fun x hx => ?_), lk_filter, if_neg hp]
    by_cases h : s.id < 1
    · rw [if_pos h] at hx; cases hx
    · rw [if_neg h] at hx
      rw [List.mem_singleton.1 hx]
      exact fun e => hp e.symm
theorem load_len (l : List (Int × SeenD)) (q : Int) (s : SeenD) : (loadL l q s).length ≤ l.length + 1 := by
  unfold loadL
  rw [List.length_append]
  have := List.length_filter_le (fun p : Int × SeenD => decide (p.1 ≠ q)) l
  split
  · rw [List.length_nil]; omega
  · rw [List.length_singleton]; omega
theorem rel_load {S : Int → SeenD} {l : List (Int × SeenD)} (h : rel S l) (q : Int) (s t : SeenD) (hs : sameD t (if s.id < 1 then SeenD.zero else if s.dn = true then s else newD s.id)) : rel (upd S q t) (loadL l q s) := fun p => by
  rw [lk_load]
  unfold upd
  by_cases hp : p = q
  · rw [if_pos hp, if_pos hp]; exact hs
  · rw [if_neg hp, if_neg hp]; exact h p
theorem RWs_load {W : World} {l : List (Int × SeenD)} (h : RWs W l) (q : Int) (s : SeenD) (hs : RW W (if s.id < 1 then SeenD.zero else if s.dn = true then s else newD s.id)) : RWs W (loadL l q s) := fun p => by
  rw [lk_load]
  by_cases hp : p = q
  · rw [if_pos hp]; exact hs
  · rw [if_neg hp]; exact h p
theorem sameD_refl (a : SeenD) : sameD a a := ⟨rfl, rfl, rfl, rfl, rfl, rfl⟩
end Go.Proofs.Ytgidkjfakecniaa
