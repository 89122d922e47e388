/-
  Texts joined: ScQ.
-/
import Derived.Test.YtemcigoelcblbaaGreatDoorMScL5d
/- how long what a line says can be, plain -/
namespace Go.Proofs.YtemcigoelcblbaaGreatDoor
open Go.Lib
def sumL (l : List (List UInt8)) : Nat := (l.map List.length).sum
theorem sumL_cons (w : List UInt8) (l : List (List UInt8)) : sumL (w :: l) = w.length + sumL l := by simp [sumL]
theorem splitP_sum (c : UInt8) : ∀ t : List UInt8, sumL (splitP c t) + (splitP c t).length = t.length + 1
  | [] => by simp [splitP, sumL]
  | x :: r => by
    have ih := splitP_sum c r
    rw [splitP]
    split
    · rw [sumL_cons]
      simp only [List.length_cons, List.length_nil]
      omega
    · split
      · rename_i e
        exact absurd e (splitP_ne c r)
      · rename_i h t e
        rw [e] at ih
        rw [sumL_cons] at ih ⊢
        simp only [List.length_cons] at ih ⊢
        omega
theorem filter_sum (p : List UInt8 → Bool) : ∀ l : List (List UInt8), sumL (l.filter p) ≤ sumL l
  | [] => Nat.le_refl _
  | w :: l => by
    have ih := filter_sum p l
    rw [List.filter_cons, sumL_cons]
    split
    · rw [sumL_cons]; omega
    · omega
theorem words_sum (t : List UInt8) : sumL (wordsP t) ≤ t.length := by
  have h1 := splitP_sum 32 t
  have h2 := filter_sum (fun w => decide (w ≠ [])) (splitP 32 t)
  have h3 : 1 ≤ (splitP 32 t).length := List.length_pos_iff.2 (splitP_ne 32 t)
  unfold wordsP
  omega
theorem numP_ne {w : List UInt8} {n : Int} (h : numP w = some n) : 1 ≤ w.length := by
  cases w with
  | nil => cases h
  | cons x r => simp
theorem numP_itoa {w : List UInt8} {n : Int} (h : numP w = some n) : itoa n = w ∧ -9223372036854775808 ≤ n ∧ n ≤ 9223372036854775807 := by
  unfold numP at h
  cases he : atoiAll w with
  | ok v =>
    rw [he] at h
    dsimp only at h
    split at h
    · rename_i e
      obtain rfl := Option.some.inj h
      exact ⟨e, atoiAll_bounds he⟩
    · cases h
  | _ => rw [he] at h; cases h
theorem numsP_len : ∀ {l : List (List UInt8)} {a : List Int}, numsP l = some a → a.length = l.length ∧ l.length ≤ sumL l
  | [], a, h => by
    obtain rfl := Option.some.inj h
    exact ⟨rfl, Nat.zero_le _⟩
  | w :: l, a, h => by
    rw [numsP] at h
    obtain ⟨n, hn, h2⟩ := Option.bind_eq_some_iff.1 h
    obtain ⟨b, hb, rfl⟩ := Option.map_eq_some_iff.1 h2
    obtain ⟨h3, h4⟩ := numsP_len hb
    have := numP_ne hn
    rw [sumL_cons]
    simp only [List.length_cons]
    omega
theorem listP_len {w : List UInt8} {l : List Int} (h : listP w = some l) : l.length ≤ w.length := by
  unfold listP at h
  split at h
  · obtain rfl := Option.some.inj h
    exact Nat.zero_le _
  · obtain ⟨h1, h2⟩ := numsP_len h
    have := splitP_sum 44 w
    have h3 : 1 ≤ (splitP 44 w).length := List.length_pos_iff.2 (splitP_ne 44 w)
    omega
def StP.lists (z : StP) : Nat := z.cells.length + z.keeps.length
theorem readW_lists {z z' : StP} {κ : Wk} {w : List UInt8} (h : readW z κ w = some z') : z'.lists ≤ z.lists + w.length := by
  unfold readW at h
  split at h
  · rename_i hκ
    obtain ⟨n, _, rfl⟩ := Option.map_eq_some_iff.1 h
    cases κ <;> simp [StP.putN, StP.lists]
  · rename_i hκ
    obtain ⟨l, hl, rfl⟩ := Option.map_eq_some_iff.1 h
    have := listP_len hl
    cases κ <;> simp [StP.putL, StP.lists] <;> omega
theorem readsW_lists : ∀ {ks : List Wk} {ws : List (List UInt8)} {z z' : StP}, readsW z ks ws = some z' → z'.lists ≤ z.lists + sumL ws
  | [], _, z, z', h => by
    simp only [readsW] at h
    obtain rfl := Option.some.inj h
    omega
  | κ :: ks, [], z, z', h => by
    simp only [readsW] at h
    obtain rfl := Option.some.inj h
    omega
  | κ :: ks, w :: ws, z, z', h => by
    rw [readsW] at h
    obtain ⟨y, hy, h2⟩ := Option.bind_eq_some_iff.1 h
    have h3 := readW_lists hy
    have h4 := readsW_lists h2
    rw [sumL_cons]
    omega
theorem line_lists (t : List UInt8) : (lineP t).1.lists ≤ 1024 := by
  unfold lineP
  split
  · decide
  · rename_i h0
    have hs := words_sum t
    unfold lineW
    split
    · decide
    · rename_i nm r hw
      rw [hw, sumL_cons] at hs
      split
      · decide
      · rename_i c _
        unfold cmdP
        split
        · decide
        · split
          · decide
          · rename_i z hz
            have := readsW_lists hz
            have h5 : c.step.lists = 0 := rfl
            dsimp only
            omega
end Go.Proofs.YtemcigoelcblbaaGreatDoor
