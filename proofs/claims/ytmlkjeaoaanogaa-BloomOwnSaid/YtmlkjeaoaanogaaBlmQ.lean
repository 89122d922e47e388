/- Filters: what they keep and what they tell, as plain lists. -/
import Derived.Test.YtmlkjeaoaanogaaBlmP
namespace Go.Proofs.Ytmlkjeaoaanogaa

theorem hasBit_test (f : List UInt8) (q : Nat) : hasBit f q = (f.getD (q / 8) 0).toNat.testBit (q % 8) := by
  unfold hasBit
  rw [Nat.testBit_eq_decide_div_mod_eq]
  rfl
theorem bitOf_nat (p : Nat) : (bitOf p).toNat = 2 ^ (p % 8) := by
  have h : p % 8 < 8 := Nat.mod_lt _ (by omega)
  unfold bitOf
  have : 2 ^ (p % 8) < 256 := Nat.pow_lt_pow_right (a := 2) (by omega) (m := p % 8) (n := 8) h
  simp
  exact this
theorem hasBit_setBit (f : List UInt8) (p q : Nat) (hp : p / 8 < f.length) : hasBit (setBit f p) q = (hasBit f q || decide (p = q)) := by
  rw [hasBit_test, hasBit_test]
  unfold setBit
  by_cases h : p / 8 = q / 8
  · have e : (f.set (p / 8) (f.getD (p / 8) 0 ||| bitOf p)).getD (q / 8) 0 = f.getD (q / 8) 0 ||| bitOf p := by
      rw [List.getD_eq_getElem?_getD, ← h, List.getElem?_set_self hp]
      rfl
    rw [e, UInt8.toNat_or, Nat.testBit_or, bitOf_nat, Nat.testBit_two_pow]
    congr 1
    rw [Bool.eq_iff_iff]
    simp only [decide_eq_true_eq]
    constructor
    · intro h2; omega
    · rintro rfl; rfl
  · have e : (f.set (p / 8) (f.getD (p / 8) 0 ||| bitOf p)).getD (q / 8) 0 = f.getD (q / 8) 0 := by
      rw [List.getD_eq_getElem?_getD, List.getElem?_set_ne h, ← List.getD_eq_getElem?_getD]
    have hne : p ≠ q := by rintro rfl; exact h rfl
    rw [e]
    simp [hne]
theorem hasBit_bits : ∀ (ps : List Nat) (f : List UInt8) (q : Nat), (∀ p ∈ ps, p / 8 < f.length) → hasBit (ps.foldl setBit f) q = (hasBit f q || ps.contains q)
  | [], f, q, _ => by simp
  | p :: ps, f, q, h => by
    rw [List.foldl_cons, hasBit_bits ps (setBit f p) q (fun p' hp' => by rw [setBit_length]; exact h p' (by simp [hp'])), hasBit_setBit f p q (h p (by simp)), Bool.or_assoc]
    congr 1
    rw [Bool.eq_iff_iff]
    simp only [Bool.or_eq_true, decide_eq_true_eq, List.contains_eq_mem, List.mem_cons]
    constructor
    · rintro (rfl | h)
      · exact .inl rfl
      · exact .inr h
    · rintro (rfl | h)
      · exact .inl rfl
      · exact .inr h
theorem hasBit_keys (sz k : Nat) (hs : 0 < sz) : ∀ (keys : List (List UInt8)) (f : List UInt8) (q : Nat), f.length = sz + 1 → hasBit (bitsL sz k keys f) q = (hasBit f q || keys.any fun key => (placesL key (8 * sz) k).contains q)
  | [], f, q, _ => by simp [bitsL]
  | key :: keys, f, q, hl => by
    have hb : bitsL sz k (key :: keys) f = bitsL sz k keys ((placesL key (8 * sz) k).foldl setBit f) := rfl
    rw [hb, hasBit_keys sz k hs keys _ q (by rw [setBits_length]; exact hl), hasBit_bits _ _ _ (fun p hp => by have := placesL_lt key (n := 8 * sz) k (by omega) p hp; omega), List.any_cons, Bool.or_assoc]
theorem hasBit_zero (m q : Nat) : hasBit (List.replicate m 0) q = false := by
  rw [hasBit_test]
  have : (List.replicate m (0 : UInt8)).getD (q / 8) 0 = 0 := by
    rw [List.getD_eq_getElem?_getD, List.getElem?_replicate]
    split <;> rfl
  rw [this]
  simp
/-- Of the filter of not too many keys May answers by the keys' places. -/
theorem mayL_build (keys : List (List UInt8)) (per : Int) (hn : keys.length ≤ 65536) (key : List UInt8) :
    mayL (buildL keys per) key = (placesL key (8 * sizeN keys.length (perN per)) (kN (perN per))).all fun q => keys.any fun key' => (placesL key' (8 * sizeN keys.length (perN per)) (kN (perN per))).contains q := by
  have hp := perN_le per
  have hsz := sizeN_le hn hp.2
  have hk := kN_le hp.2
  unfold buildL
  rw [List.take_of_length_le hn]
  generalize sizeN keys.length (perN per) = sz at *
  generalize kN (perN per) = k at *
  obtain ⟨f, hf⟩ : ∃ f, f = bitsL sz k keys (List.replicate (sz + 1) 0) := ⟨_, rfl⟩
  have hl : f.length = sz + 1 := by rw [hf, bitsL_length, List.length_replicate]
  rw [← hf]
  have hlast : (f.set sz (UInt8.ofNat k)).getD sz 0 = UInt8.ofNat k := by rw [List.getD_eq_getElem?_getD, List.getElem?_set_self (by omega)]; rfl
  have hkn : (UInt8.ofNat k).toNat = k := by simp; omega
  unfold mayL
  rw [List.length_set, hl, show sz + 1 - 1 = sz by omega, hlast, hkn, if_neg (by omega)]
  rw [Bool.eq_iff_iff, List.all_eq_true, List.all_eq_true]
  refine forall_congr' fun q => forall_congr' fun hq => ?_
  have hq8 := placesL_lt key (n := 8 * sz) k (by omega) q hq
  have e : hasBit (f.set sz (UInt8.ofNat k)) q = hasBit f q := by
    unfold hasBit
    rw [List.getD_eq_getElem?_getD, List.getElem?_set_ne (by omega), ← List.getD_eq_getElem?_getD]
  rw [e, hf, hasBit_keys sz k (by omega) keys _ q (by simp), hasBit_zero, Bool.false_or]
theorem buildL_length (keys : List (List UInt8)) (per : Int) (hn : keys.length ≤ 65536) : (buildL keys per).length = sizeN keys.length (perN per) + 1 := by
  unfold buildL
  rw [List.length_set, bitsL_length, List.length_replicate, List.take_of_length_le hn]
theorem may_keeps (keys : List (List UInt8)) (per : Int) (hn : keys.length ≤ 65536) (key : List UInt8) (hk : key ∈ keys) : mayL (buildL keys per) key = true := by
  rw [mayL_build keys per hn, List.all_eq_true]
  intro q hq
  rw [List.any_eq_true]
  exact ⟨key, hk, by simpa using hq⟩
theorem may_none (per : Int) (key : List UInt8) : mayL (buildL [] per) key = false := by
  rw [mayL_build [] per (by simp)]
  have hk := kN_le (perN_le per).2
  generalize kN (perN per) = k at *
  obtain ⟨k', rfl⟩ : ∃ k', k = k' + 1 := ⟨k - 1, by omega⟩
  simp [placesL, plcs]
theorem may_more (few all : List (List UInt8)) (per : Int) (hn : few.length ≤ 65536) (hm : all.length ≤ 65536) (hs : sizeN few.length (perN per) = sizeN all.length (perN per)) (hsub : ∀ k ∈ few, k ∈ all) (key : List UInt8)
    (h : mayL (buildL few per) key = true) : mayL (buildL all per) key = true := by
  rw [mayL_build few per hn, hs, List.all_eq_true] at h
  rw [mayL_build all per hm, List.all_eq_true]
  intro q hq
  have := h q hq
  rw [List.any_eq_true] at this ⊢
  obtain ⟨k, h1, h2⟩ := this
  exact ⟨k, hsub k h1, h2⟩
end Go.Proofs.Ytmlkjeaoaanogaa
