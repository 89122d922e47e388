/-
  Texts joined: ScB.
-/
import Derived.Test.YtemcigoelcblbaaGreatDoorMScL5c
import Derived.Lib.IndexBytes
/- texts cut, plain -/
namespace Go.Proofs.YtemcigoelcblbaaGreatDoor
open Go.Lib
theorem splitP_none {c : UInt8} : ∀ {l : List UInt8}, (∀ k : Nat, l[k]? ≠ some c) → splitP c l = [l]
  | [], _ => rfl
  | x :: r, h => by
    have hx : x ≠ c := fun e => h 0 (by simp [e])
    have ih := splitP_none (c := c) (l := r) (fun k => by have := h (k + 1); simpa using this)
    rw [splitP, if_neg hx, ih]
theorem splitP_hit {c : UInt8} : ∀ {l : List UInt8} {o : Nat}, l[o]? = some c → (∀ k : Nat, k < o → l[k]? ≠ some c) → splitP c l = l.take o :: splitP c (l.drop (o + 1))
  | [], o, h, _ => by simp at h
  | x :: r, 0, h, _ => by
    obtain rfl : x = c := by simpa using h
    rw [splitP, if_pos rfl]
    rfl
  | x :: r, o + 1, h, hn => by
    have hx : x ≠ c := fun e => hn 0 (by omega) (by simp [e])
    have ih := splitP_hit (c := c) (l := r) (o := o) (by simpa using h) (fun k hk => by have := hn (k + 1) (by omega); simpa using this)
    rw [splitP, if_neg hx, ih]
    rfl
theorem splitK_eq (c : UInt8) : ∀ (k : Nat) (l : List UInt8), count l [c] = k → splitK [c] 0 k l = splitP c l
  | 0, l, h => by
    rcases index_spec l [c] with ⟨h1, _⟩ | ⟨i, h1, _⟩
    · rw [index_one] at h1
      rw [splitP_none (indexByte_none h1)]
      rfl
    · have := count_hit (by simp) h1
      omega
  | k + 1, l, h => by
    rcases index_spec l [c] with ⟨h1, _⟩ | ⟨i, h1, _⟩
    · rw [count_miss h1] at h
      omega
    · have hc := count_hit (by simp) h1
      have h2 := h1
      rw [index_one] at h2
      obtain ⟨a1, a2⟩ := indexByte_some h2
      have hne : ¬ (index l [c] == -1) = true := fun e => by have := beq_iff_eq.1 e; omega
      rw [splitK, if_neg hne, h1, splitP_hit a1 a2]
      have := splitK_eq c k (l.drop (i + 1)) (by simp only [List.length_cons, List.length_nil, Nat.zero_add] at hc; omega)
      simpa using this
theorem splitB_eq (c : UInt8) (t : List UInt8) : splitB ⟨#[c]⟩ 0 (countB ⟨t.toArray⟩ ⟨#[c]⟩) ⟨t.toArray⟩ = (splitP c t).map fun x => (⟨x.toArray⟩ : ByteArray) := by
  have h := splitB_data ⟨#[c]⟩ 0 (countB ⟨t.toArray⟩ ⟨#[c]⟩) ⟨t.toArray⟩
  have h2 : splitK [c] 0 (countB ⟨t.toArray⟩ ⟨#[c]⟩) t = splitP c t := splitK_eq c _ t rfl
  have h3 : ((⟨#[c]⟩ : ByteArray).data.toList) = [c] := rfl
  have h4 : ((⟨t.toArray⟩ : ByteArray).data.toList) = t := rfl
  rw [h3, h4, h2] at h
  rw [← h, List.map_map]
  refine Eq.trans (List.map_id _).symm (List.map_congr_left fun b _ => ?_)
  simp
theorem splitB_len (c : UInt8) (t : List UInt8) : countB ⟨t.toArray⟩ ⟨#[c]⟩ + 1 = (splitP c t).length := by
  have := splitB_all ⟨#[c]⟩ (Nat.le_refl 1) 0 _ (⟨t.toArray⟩ : ByteArray) rfl
  rw [splitB_eq, List.length_map] at this
  exact this.symm
theorem splitP_ne (c : UInt8) (t : List UInt8) : splitP c t ≠ [] := by
  have := splitB_len c t
  intro e
  rw [e] at this
  simp at this
theorem splitP_len (c : UInt8) : ∀ t : List UInt8, (splitP c t).length ≤ t.length + 1 ∧ ∀ w ∈ splitP c t, w.length ≤ t.length
  | [] => by simp [splitP]
  | x :: r => by
    obtain ⟨h1, h2⟩ := splitP_len c r
    rw [splitP]
    split
    · refine ⟨by simp; omega, fun w hw => ?_⟩
      rcases List.mem_cons.1 hw with rfl | hw
      · simp
      · have := h2 w hw
        simp; omega
    · split
      · simp
      · rename_i h t e
        rw [e] at h1 h2
        refine ⟨by simp at h1 ⊢; omega, fun w hw => ?_⟩
        rcases List.mem_cons.1 hw with rfl | hw
        · have := h2 h List.mem_cons_self
          simp; omega
        · have := h2 w (List.mem_cons_of_mem _ hw)
          simp; omega
theorem words_len {t w : List UInt8} (h : w ∈ wordsP t) : w.length ≤ t.length ∧ w ≠ [] := by
  unfold wordsP at h
  obtain ⟨h1, h2⟩ := List.mem_filter.1 h
  exact ⟨(splitP_len 32 t).2 w h1, of_decide_eq_true h2⟩
theorem words_count (t : List UInt8) : (wordsP t).length ≤ t.length + 1 := Nat.le_trans (List.length_filter_le _ _) (splitP_len 32 t).1
end Go.Proofs.YtemcigoelcblbaaGreatDoor
