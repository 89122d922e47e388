/- Frames as plain functions: what is sealed is taken back; when a frame stands at the front. -/
import Derived.Test.YtcdaioljddaopaaFrmJ
namespace Go.Proofs.Ytcdaioljddaopaa

theorem sealL_length (l : List UInt8) : (sealL l).length = (uintL l.length).length + 4 + l.length := by simp [sealL, sum4]; omega
theorem getD_app {a b : List UInt8} {i : Nat} : (a ++ b).getD (a.length + i) 0 = b.getD i 0 := by
  simp only [List.getD_eq_getElem?_getD]
  rw [List.getElem?_append_right (by omega), show a.length + i - a.length = i by omega]
theorem take4 {b : List UInt8} (h : 4 ≤ b.length) : b.take 4 = [b.getD 0 0, b.getD 1 0, b.getD 2 0, b.getD 3 0] := by
  match b, h with
  | x :: y :: z :: u :: r, _ => rfl
theorem getD_drop {b : List UInt8} {i j : Nat} : (b.drop i).getD j 0 = b.getD (i + j) 0 := by simp [List.getD_eq_getElem?_getD, List.getElem?_drop]
theorem take_three {b : List UInt8} (s k m : Nat) : b.take (s + k + m) = b.take s ++ (b.drop s).take k ++ (b.drop (s + k)).take m := by
  rw [List.take_add, List.take_add]
/-- The frame at the front, told by its sum. -/
theorem seal_iff {b : List UInt8} {s m : Nat} (h : b.take s = uintL m) (hl : s + 4 + m ≤ b.length) :
    sealL ((b.drop (s + 4)).take m) = b.take (s + 4 + m) ↔ sumL ((b.drop (s + 4)).take m) = le32 (b.getD s 0) (b.getD (s + 1) 0) (b.getD (s + 2) 0) (b.getD (s + 3) 0) := by
  have hm : ((b.drop (s + 4)).take m).length = m := by rw [List.length_take, List.length_drop]; omega
  have h4 : (b.drop s).take 4 = [b.getD s 0, b.getD (s + 1) 0, b.getD (s + 2) 0, b.getD (s + 3) 0] := by
    rw [take4 (by rw [List.length_drop]; omega)]
    simp only [getD_drop, Nat.add_zero]
  rw [take_three, h, h4, ← sum4_le32 (sumL_lt _)]
  unfold sealL
  rw [hm]
  constructor
  · intro e
    exact List.append_cancel_left (List.append_cancel_right e)
  · intro e
    rw [e]
/-- What is sealed is taken back, whatever stands behind it. -/
theorem takeF_seal (l more : List UInt8) (hl : l.length ≤ 4096) : takeF (sealL l ++ more) = some (l, (sealL l).length) := by
  have e : sealL l ++ more = uintL l.length ++ (sum4 (sumL l) ++ (l ++ more)) := by simp [sealL]
  have hu : takeU (sealL l ++ more) = (l.length, (uintL l.length).length) := by rw [e]; exact takeU_uintL _ (by omega) _
  have hpos : (uintL l.length).length ≠ 0 := by
    obtain ⟨pre, c, h, _⟩ := uintL_form l.length
    rw [h]; simp
  have hlen := sealL_length l
  have hd : (sealL l ++ more).drop ((uintL l.length).length + 4) = l ++ more := by
    rw [e, ← List.append_assoc, List.drop_left' (by simp [sum4])]
  unfold takeF
  rw [hu]
  simp only
  rw [if_neg (by simp only [List.length_append]; omega), hd, List.take_left' rfl, if_pos (by rw [← hlen, List.take_left' rfl]), hlen]
theorem takeF_size {b p : List UInt8} {k : Nat} (h : takeF b = some (p, k)) : 5 ≤ k ∧ k ≤ b.length ∧ p.length ≤ 4096 ∧ p.length + 5 ≤ k ∧ b.take k = sealL p ∧ k = (sealL p).length := by
  unfold takeF at h
  split at h
  · cases h
  · rename_i hc
    split at h
    · rename_i e
      simp only [Option.some.injEq, Prod.mk.injEq] at h
      obtain ⟨rfl, rfl⟩ := h
      have hl : ((b.drop ((takeU b).2 + 4)).take (takeU b).1).length = (takeU b).1 := by rw [List.length_take, List.length_drop]; omega
      rw [e]
      refine ⟨by omega, by omega, by omega, by omega, rfl, ?_⟩
      rw [List.length_take]; omega
    · cases h
end Go.Proofs.Ytcdaioljddaopaa
