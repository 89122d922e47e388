/- Bursts: a frame with a window turned, as plain lists. -/
import Derived.Test.YtcdaioljddaopaaFrmQ
namespace Go.Proofs.Ytcdaioljddaopaa

theorem window_back {s ys : List UInt8} {a i : Nat} (hy : ys.length = i) (hl : a + i ≤ s.length) (h : s.take a ++ ys ++ s.drop (a + i) = s) : ys = (s.drop a).take i := by
  have e : ((s.take a ++ ys ++ s.drop (a + i)).drop a).take i = (s.drop a).take i := by rw [h]
  rw [← e, List.append_assoc, List.drop_left' (by rw [List.length_take]; omega), List.take_left' hy]
theorem window_same {s : List UInt8} {a i : Nat} : s.take a ++ (s.drop a).take i ++ s.drop (a + i) = s := by
  rw [List.append_assoc, ← List.drop_drop, List.take_append_drop, List.take_append_drop]
theorem sum4_inj {s t : Nat} (hs : s < 4294967296) (ht : t < 4294967296) (h : sum4 s = sum4 t) : s = t := by
  have h1 := (sum4_le32 hs _ _ _ _).1 h
  have h2 := (sum4_le32 ht _ _ _ _).1 rfl
  rw [h1, ← h2]
theorem take_app {α : Type} {a b : List α} {k : Nat} (h : a.length ≤ k) : (a ++ b).take k = a ++ b.take (k - a.length) := by rw [List.take_append, List.take_of_length_le h]
theorem drop_app {α : Type} {a b : List α} {k : Nat} (h : a.length ≤ k) : (a ++ b).drop k = b.drop (k - a.length) := by rw [List.drop_append, List.drop_of_length_le h, List.nil_append]
theorem burst_plain (l : List UInt8) (hl : l.length ≤ 4096) (a i : Nat) (ys : List UInt8) (h0 : (uintL l.length).length ≤ a) (h1 : a + i ≤ (sealL l).length) (h2 : a < (uintL l.length).length + 4 → a + i ≤ (uintL l.length).length + 4) (h4 : i ≤ 4) (hy : ys.length = i) :
    takeF ((sealL l).take a ++ ys ++ (sealL l).drop (a + i)) = if ys = ((sealL l).drop a).take i then some (l, (sealL l).length) else none := by
  by_cases e : ys = ((sealL l).drop a).take i
  · rw [if_pos e, e, window_same]
    have := takeF_seal l [] hl
    rwa [List.append_nil] at this
  · rw [if_neg e]
    have hs := sealL_length l
    obtain ⟨U, hU⟩ : ∃ U, U = uintL l.length := ⟨_, rfl⟩
    have hS : (sum4 (sumL l)).length = 4 := rfl
    obtain ⟨S, hSS⟩ : ∃ S, S = sum4 (sumL l) := ⟨_, rfl⟩
    have form : ∀ s4 q : List UInt8, s4.length = 4 → q.length = l.length → s4 ≠ sum4 (sumL q) → takeF (U ++ s4 ++ q) = none := by
      intro s4 q h5 h6 h7
      rw [hU, takeF_form h5 h6 hl, if_neg h7]
    have hseal : sealL l = U ++ (S ++ l) := by rw [hU, hSS, sealL, List.append_assoc]
    rw [← hU] at h0 h2 hs
    rw [← hSS] at hS
    rw [hseal] at e h1 ⊢
    rw [take_app h0, drop_app (by omega)]
    rw [drop_app h0] at e
    simp only [List.length_append] at h1
    by_cases hc : a < U.length + 4
    · have h3 := h2 hc
      rw [List.take_append_of_le_length (by omega), List.drop_append_of_le_length (by omega), ← List.append_assoc]
      rw [List.drop_append_of_le_length (by omega), List.take_append_of_le_length (by rw [List.length_drop]; omega)] at e
      rw [show U ++ S.take (a - U.length) ++ ys ++ S.drop (a + i - U.length) ++ l = U ++ (S.take (a - U.length) ++ ys ++ S.drop (a - U.length + i)) ++ l by rw [show a + i - U.length = a - U.length + i by omega]; simp only [List.append_assoc]]
      refine form _ _ (by simp only [List.length_append, List.length_take, List.length_drop]; omega) rfl ?_
      rw [← hSS]
      intro h
      exact e (window_back hy (by omega) h)
    · rw [take_app (by omega), drop_app (by omega), hS]
      rw [drop_app (by omega), hS] at e
      have hq : (l.take (a - U.length - 4) ++ ys ++ l.drop (a + i - U.length - 4)).length = l.length := by
        simp only [List.length_append, List.length_take, List.length_drop]; omega
      rw [show U ++ (S ++ l.take (a - U.length - 4)) ++ ys ++ l.drop (a + i - U.length - 4) = U ++ S ++ (l.take (a - U.length - 4) ++ ys ++ l.drop (a + i - U.length - 4)) by simp only [List.append_assoc]]
      refine form _ _ hS hq ?_
      rw [hSS]
      intro h
      have h5 := sum4_inj (sumL_lt _) (sumL_lt _) h
      rw [show a + i - U.length - 4 = a - U.length - 4 + i by omega] at h5
      have h6 : l = l.take (a - U.length - 4) ++ (l.drop (a - U.length - 4)).take i ++ l.drop (a - U.length - 4 + i) := window_same.symm
      rw [congrArg sumL h6] at h5
      exact e (sum_burst (by rw [List.length_take, List.length_drop]; omega) (by rw [List.length_take]; omega) h5).symm
end Go.Proofs.Ytcdaioljddaopaa
