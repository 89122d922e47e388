/- The frame layer as plain functions on lists of bytes. -/
import Derived.Test.YtcdaioljddaopaaLibD
namespace Go.Proofs.Ytcdaioljddaopaa

def uintF : Nat → Nat → List UInt8
  | 0, n => [UInt8.ofNat n]
  | f + 1, n => if n < 128 then [UInt8.ofNat n] else UInt8.ofNat (n % 128 + 128) :: uintF f (n / 128)
theorem uintF_eq : ∀ f g n, n ≤ f → n ≤ g → uintF f n = uintF g n
  | 0, 0, n, _, _ => rfl
  | 0, g + 1, n, h, _ => by
    obtain rfl : n = 0 := by omega
    simp [uintF]
  | f + 1, 0, n, _, h => by
    obtain rfl : n = 0 := by omega
    simp [uintF]
  | f + 1, g + 1, n, h1, h2 => by
    simp only [uintF]
    split
    · rfl
    · rw [uintF_eq f g (n / 128) (by omega) (by omega)]
/-- The bytes of a number. -/
def uintL (n : Nat) : List UInt8 := uintF n n
theorem uintL_lt {n : Nat} (h : n < 128) : uintL n = [UInt8.ofNat n] := by
  unfold uintL
  cases n with
  | zero => rfl
  | succ n => simp only [uintF]; rw [if_pos h]
theorem uintL_ge {n : Nat} (h : 128 ≤ n) : uintL n = UInt8.ofNat (n % 128 + 128) :: uintL (n / 128) := by
  unfold uintL
  cases n with
  | zero => omega
  | succ n =>
    simp only [uintF]
    rw [if_neg (by omega), uintF_eq n ((n + 1) / 128) ((n + 1) / 128) (by omega) (Nat.le_refl _)]
theorem uintL_len : ∀ (k n : Nat), n < 128 ^ (k + 1) → (uintL n).length ≤ k + 1
  | 0, n, h => by rw [uintL_lt (by simpa using h)]; simp
  | k + 1, n, h => by
    rcases Nat.lt_or_ge n 128 with h1 | h1
    · rw [uintL_lt h1]; simp
    · rw [uintL_ge h1]
      have := uintL_len k (n / 128) (by rw [Nat.div_lt_iff_lt_mul (by omega)]; rwa [Nat.pow_succ] at h)
      simp only [List.length_cons]
      omega
theorem uintL_len64 {n : Nat} (h : n < 18446744073709551616) : (uintL n).length ≤ 10 := uintL_len 9 n (by omega)
end Go.Proofs.Ytcdaioljddaopaa
