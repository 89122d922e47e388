/-
  Texts joined: WlP.
-/
import Derived.Test.YtacbkganjkipdaaGreatDoorMMpL4a
import Derived.Lib.AtoiAllCases
import Derived.Lib.ItoaLen
namespace Go.Proofs.YtacbkganjkipdaaGreatDoor
open Go.Lib
def dgs : Nat → Nat → List UInt8
 | 0, _ => []
 | k + 1, n => dgs k (n / 10) ++ [UInt8.ofNat (48 + n % 10)]
def nameP (n : Nat) : List UInt8 := [119, 97, 108, 45] ++ dgs 6 n
theorem dgs_len : ∀ (k n : Nat), (dgs k n).length = k
 | 0, _ => rfl
 | k + 1, n => by rw [dgs, List.length_append, dgs_len k, List.length_singleton]
theorem nameP_len (n : Nat) : (nameP n).length = 10 := by rw [nameP, List.length_append, dgs_len]; rfl
theorem dgs_zero : ∀ k : Nat, dgs k 0 = List.replicate k 48
 | 0 => rfl
 | k + 1 => by
  rw [dgs, Nat.zero_div, dgs_zero k, List.replicate_succ']
  rfl
theorem dec_small {n : Nat} (h : n < 10) : decDigits n = [UInt8.ofNat (48 + n)] := by rw [decDigits, dif_pos h]
theorem dec_step {m : Nat} (h : 10 ≤ m) : decDigits m = decDigits (m / 10) ++ [UInt8.ofNat (48 + m % 10)] := by rw [decDigits, dif_neg (by omega)]
theorem pad_eq : ∀ (k n : Nat), n < 10 ^ (k + 1) → List.replicate (k + 1 - (decDigits n).length) 48 ++ decDigits n = dgs (k + 1) n ∧ (decDigits n).length ≤ k + 1
 | 0, n, h => by
  have h1 : n < 10 := by simpa using h
  rw [dec_small h1]
  have h2 : n % 10 = n := Nat.mod_eq_of_lt h1
  simp [dgs, h2]
 | k + 1, n, h => by
  by_cases h1 : n < 10
  · rw [dec_small h1]
    have h2 : n % 10 = n := Nat.mod_eq_of_lt h1
    have h3 : n / 10 = 0 := Nat.div_eq_of_lt h1
    have h4 : dgs (k + 1 + 1) n = List.replicate (k + 1) 48 ++ [UInt8.ofNat (48 + n)] := by rw [dgs, h3, dgs_zero, h2]
    rw [h4]
    exact ⟨rfl, by simp⟩
  · have h2 : n / 10 < 10 ^ (k + 1) := by
     rw [Nat.pow_succ] at h
     omega
    obtain ⟨h3, h4⟩ := pad_eq k (n / 10) h2
    rw [dec_step (by omega), List.length_append, List.length_singleton, ← List.append_assoc, show k + 1 + 1 - ((decDigits (n / 10)).length + 1) = k + 1 - (decDigits (n / 10)).length by omega, h3]
    exact ⟨rfl, by omega⟩
theorem pad6 {n : Nat} (h : n < 1000000) : List.replicate (6 - (itoa n).length) 48 ++ itoa n = dgs 6 n ∧ (itoa n).length ≤ 6 := by
 have : itoa n = decDigits n := by
  unfold itoa
  rw [if_neg (by omega)]
  rfl
 rw [this]
 exact pad_eq 5 n (by omega)
theorem dgs_digit : ∀ (k n : Nat), ∀ x ∈ dgs k n, 48 ≤ x.toNat ∧ x.toNat ≤ 57
 | 0, _, x, h => absurd h List.not_mem_nil
 | k + 1, n, x, h => by
  rw [dgs] at h
  rcases List.mem_append.1 h with h | h
  · exact dgs_digit k _ x h
  · obtain rfl := List.mem_singleton.1 h
    simp
    omega
theorem dgs_parse : ∀ (k n : Nat), n < 10 ^ k → n < 1000000000000000000 → ∀ r, parseUint10 0 (dgs k n ++ r) = parseUint10 n r
 | 0, n, h, _, r => by
  obtain rfl : n = 0 := by simpa using h
  rfl
 | k + 1, n, h, hn, r => by
  rw [dgs, List.append_assoc, dgs_parse k (n / 10) (by rw [Nat.pow_succ] at h; omega) (by omega), List.singleton_append, parseUint10]
  have hd : (UInt8.ofNat (48 + n % 10)).toNat = 48 + n % 10 := by simp; omega
  rw [hd, if_pos (by omega), if_neg (by omega), if_neg (by omega)]
  congr 1
  omega
theorem dgs_atoi {n : Nat} (h : n < 1000000) : atoiAll (dgs 6 n) = .ok (n : Int) := by
 have h2 : parseMag (dgs 6 n) = .ok n := by
  unfold parseMag
  rw [if_neg (fun e => by have := dgs_len 6 n; rw [e] at this; cases this)]
  have := dgs_parse 6 n (by omega) (by omega) []
  rw [List.append_nil] at this
  rw [this]
  rfl
 cases hd : dgs 6 n with
 | nil => have := dgs_len 6 n; rw [hd] at this; cases this
 | cons c r =>
  have hc := dgs_digit 6 n c (by rw [hd]; exact List.mem_cons_self)
  rw [hd] at h2
  rw [atoiAll_plain c r (by omega) (by omega), h2]
  unfold signless
  dsimp only
  rw [if_neg (by omega)]
theorem dgs_inj : ∀ (k n m : Nat), n < 10 ^ k → m < 10 ^ k → dgs k n = dgs k m → n = m
 | 0, n, m, h1, h2, _ => by simp at h1 h2; omega
 | k + 1, n, m, h1, h2, h => by
  rw [dgs, dgs] at h
  rw [Nat.pow_succ] at h1 h2
  obtain ⟨h3, h4⟩ := List.append_inj h (by rw [dgs_len, dgs_len])
  have h5 := dgs_inj k (n / 10) (m / 10) (by omega) (by omega) h3
  have h6 : 48 + n % 10 = 48 + m % 10 := by
   have := congrArg UInt8.toNat (List.singleton_inj.1 h4)
   simp at this
   omega
  omega
end Go.Proofs.YtacbkganjkipdaaGreatDoor
