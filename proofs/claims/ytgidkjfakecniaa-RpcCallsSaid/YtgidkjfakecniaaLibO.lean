/-
  Lists of structs: their cells one behind the other; a slice of structs that is handed in.
-/
import Derived.Test.YtgidkjfakecniaaLibA
import Derived.Test.YtgidkjfakecniaaLibN
namespace Go.Proofs.Ytgidkjfakecniaa
open Go.RowKit

section
variable {α : Type} {f : α → List Value} {m : Nat}
/-- The cells of a list, each element's one behind the other. -/
def flat (f : α → List Value) (l : List α) : List Value := l.flatMap f
theorem flat_nil : flat f [] = [] := rfl
theorem flat_cons (a : α) (l : List α) : flat f (a :: l) = f a ++ flat f l := rfl
theorem flat_append (a b : List α) : flat f (a ++ b) = flat f a ++ flat f b := by simp [flat, List.flatMap_append]
theorem flat_one_ (a : α) : flat f [a] = f a := by simp [flat]
theorem flat_length (hf : ∀ a, (f a).length = m) : ∀ l : List α, (flat f l).length = l.length * m
  | [] => by simp [flat]
  | a :: l => by rw [flat_cons, List.length_append, flat_length hf l, hf, List.length_cons, Nat.succ_mul]; omega
theorem flat_get (hf : ∀ a, (f a).length = m) : ∀ {l : List α} {k : Nat} {a : α}, l[k]? = some a → ∀ j, j < m → (flat f l)[k * m + j]? = (f a)[j]?
  | [], k, a, h, _, _ => by simp at h
  | b :: l, 0, a, h, j, hj => by
    simp at h
    subst h
    rw [flat_cons, List.getElem?_append_left (by rw [hf]; omega), Nat.zero_mul, Nat.zero_add]
  | b :: l, k + 1, a, h, j, hj => by
    have ih := flat_get hf (l := l) (k := k) (a := a) (by simpa using h) j hj
    rw [flat_cons, List.getElem?_append_right (by rw [hf, Nat.succ_mul]; omega), hf, ← ih]
    congr 1
    rw [Nat.succ_mul]
    omega
theorem flat_oneCell (hf : ∀ a, ∀ u ∈ f a, u.oneCell' = true) (l : List α) : ∀ u ∈ flat f l, u.oneCell' = true := by
  intro u hu
  obtain ⟨a, _, h⟩ := List.mem_flatMap.1 hu
  exact hf a u h
theorem flat_take (hf : ∀ a, (f a).length = m) : ∀ (l : List α) (k : Nat), (flat f l).take (k * m) = flat f (l.take k)
  | [], k => by simp [flat]
  | a :: l, 0 => by simp [flat]
  | a :: l, k + 1 => by
    rw [flat_cons, List.take_succ_cons, flat_cons, Nat.succ_mul, Nat.add_comm, List.take_append, hf, ← flat_take hf l k, List.take_of_length_le (by rw [hf]; omega), show m + k * m - m = k * m by omega]
theorem flat_drop (hf : ∀ a, (f a).length = m) : ∀ (l : List α) (k : Nat), (flat f l).drop (k * m) = flat f (l.drop k)
  | [], k => by simp [flat]
  | a :: l, 0 => by simp
  | a :: l, k + 1 => by
    rw [flat_cons, List.drop_succ_cons, Nat.succ_mul, Nat.add_comm, List.drop_append, hf, ← flat_drop hf l k, List.drop_eq_nil_of_le (by rw [hf]; omega), show m + k * m - m = k * m by omega, List.nil_append]
theorem Reads.flat_len {w : World} {B n : Nat} {A : Option Addr} {l : List α} (h : Reads w B m A n (flat f l)) (hf : ∀ a, (f a).length = m) (hm : 0 < m) : l.length = n := by
  have := h.1
  rw [flat_length hf] at this
  exact Nat.eq_of_mul_eq_mul_right hm this
theorem Reads.flat_at {w : World} {B n : Nat} {A : Option Addr} {l : List α} (h : Reads w B m A n (flat f l)) (hf : ∀ a, (f a).length = m) (hm : 0 < m) {k : Nat} (hk : k < n) :
    ∃ ad a, A = some ad ∧ ad.block < B ∧ l[k]? = some a ∧ w.cell? (ad.add (k * m)) = (f a)[0]? ∧ ∀ j, j + 1 < m → w.cell? ⟨(ad.add (k * m)).block, (ad.add (k * m)).off + (j + 1), none⟩ = (f a)[j + 1]? := by
  have hl := h.flat_len hf hm
  obtain ⟨ad, rfl, hb, hc⟩ := h.2 (by omega)
  have he : l[k]? = some l[k] := List.getElem?_eq_getElem (by omega)
  have hj : ∀ j, w.cell? ⟨(ad.add (k * m)).block, (ad.add (k * m)).off + (j + 1), none⟩ = w.cell? (ad.add (k * m + (j + 1))) := fun j => by rw [← add_of_add]; rfl
  have hget : ∀ j, j < m → w.cell? (ad.add (k * m + j)) = (f l[k])[j]? := by
    intro j hj
    have h1 := flat_get hf he j hj
    have h2 := List.getElem?_eq_getElem (l := f l[k]) (i := j) (by rw [hf]; exact hj)
    rw [h2]
    exact hc _ _ (h1.trans h2)
  exact ⟨ad, l[k], rfl, hb, he, hget 0 hm, fun j h => (hj j).trans (hget _ h)⟩
end

section
variable {P : Program} {w : World}
theorem cel_fields {n : Nat} {t : TypeId} {fs : Array Field} {cs : List Value} {k : Nat} {rows : List (TypeId × Nat × Nat)} (ht : P.underlying t = some (.struct fs)) (hk : P.cellsOf t = k) (hr : (fs.toList.map fun f => (f.type, f.offset, P.cellsOf f.type)) = rows) (h : Cel P w n t cs) :
    cs.length = k ∧ ∃ m, ∀ r ∈ rows, Cel P w m r.1 ((cs.drop r.2.1).take r.2.2) := by
  obtain ⟨hl, m, hf⟩ := cel_struct ht h
  refine ⟨hl.trans hk, m, fun r hmem => ?_⟩
  rw [← hr] at hmem
  obtain ⟨f, hf1, rfl⟩ := List.mem_map.1 hmem
  exact hf f hf1
theorem choose_rows {α : Type} [Inhabited α] {P : Nat → α → Prop} {n : Nat} (h : ∀ i, i < n → ∃ x, P i x) : ∃ xs : List α, xs.length = n ∧ ∀ i, i < n → ∃ x, xs[i]? = some x ∧ P i x := by
  induction n with
  | zero => exact ⟨[], rfl, fun i hi => absurd hi (by omega)⟩
  | succ n ih =>
    obtain ⟨xs, hl, hx⟩ := ih fun i hi => h i (by omega)
    obtain ⟨y, hy⟩ := h n (by omega)
    refine ⟨xs ++ [y], by simp [hl], fun i hi => ?_⟩
    rcases Nat.lt_or_ge i n with h1 | h1
    · obtain ⟨x, h2, h3⟩ := hx i h1
      exact ⟨x, by rw [List.getElem?_append_left (by omega)]; exact h2, h3⟩
    · obtain rfl : i = n := by omega
      exact ⟨y, by rw [List.getElem?_append_right (by omega), hl]; simp, hy⟩
/-- A slice of structs that is handed in: each read by the same law. -/
theorem val_flat {α : Type} [Inhabited α] {f : α → List Value} {Q : World → α → Prop} {t e : TypeId} {m : Nat} {v : Value} (ht : P.underlying t = some (.slice e)) (hm : P.cellsOf e = m) (hm0 : 0 < m) (hf : ∀ a, (f a).length = m)
    (hcel : ∀ (n : Nat) (cs : List Value), Cel P w n e cs → ∃ a, cs = f a ∧ Q w a) (h : Val P w t v) :
    ∃ A n c l, v = .slice A n c ∧ Reads w w.heap.size m A n (flat f l) ∧ (∀ a ∈ l, Q w a) ∧ n ≤ c ∧ c ≤ maxLen ∧ c * P.bytesOf e ≤ reachBytes := by
  rcases val_slice ht h with rfl | ⟨a, len, cap, rfl, hl, hmx, hb, hc⟩
  · exact ⟨none, 0, 0, [], rfl, Reads.none_, by simp, Nat.le_refl _, Nat.zero_le _, by simp⟩
  · rw [hm] at hc
    have hrow : ∀ i, i < len → ∃ x : α, (∀ j, j < m → w.cell? (a.add (i * m + j)) = (f x)[j]?) ∧ Q w x := by
      intro i hi
      obtain ⟨k, cs, h1, h2, h3⟩ := hc i (by omega)
      obtain ⟨x, rfl, hx⟩ := hcel k cs h3
      exact ⟨x, fun j hj => by rw [← add_of_add]; exact h2 j hj, hx⟩
    obtain ⟨xs, hxl, hx⟩ := choose_rows hrow
    refine ⟨some a, len, cap, xs, rfl, ⟨by rw [flat_length hf, hxl], fun hn => ⟨a, rfl, ?_, fun j u hu => ?_⟩⟩, fun y hy => ?_, hl, hmx, hb⟩
    · obtain ⟨x, _, h1, _⟩ := hx 0 hn
      have h2 := h1 0 hm0
      rw [List.getElem?_eq_getElem (by rw [hf]; exact hm0)] at h2
      have := World.block_lt_of_cell? w _ h2
      rwa [block_of_add] at this
    · have hjl : j < len * m := by
        have := (List.getElem?_eq_some_iff.1 hu).1
        rwa [flat_length hf, hxl] at this
      have hk : j / m < len := Nat.div_lt_of_lt_mul (by rwa [Nat.mul_comm] at hjl)
      obtain ⟨x, h1, h2, _⟩ := hx (j / m) hk
      have hmod := Nat.mod_lt j hm0
      have e : j / m * m + j % m = j := by rw [Nat.mul_comm]; exact Nat.div_add_mod j m
      have h3 := flat_get hf h1 (j % m) hmod
      have h4 := h2 (j % m) hmod
      rw [e] at h3 h4
      rw [h4, ← h3, hu]
    · obtain ⟨i, hi⟩ := List.mem_iff_getElem?.1 hy
      have hil : i < len := by have := (List.getElem?_eq_some_iff.1 hi).1; omega
      obtain ⟨x, h1, _, h2⟩ := hx i hil
      rw [hi] at h1
      injection h1 with h1
      rw [h1]
      exact h2
end
end Go.Proofs.Ytgidkjfakecniaa
