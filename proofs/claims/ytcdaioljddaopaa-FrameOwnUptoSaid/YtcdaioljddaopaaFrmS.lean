/- The CRC-32 as a plain function. -/
import Derived.Test.YtcdaioljddaopaaLibE
namespace Go.Proofs.Ytcdaioljddaopaa

def crcStep (c : Nat) : Nat := if c % 2 = 1 then c / 2 ^^^ 3988292384 else c / 2
def crcN : Nat → Nat → Nat
  | 0, c => c
  | k + 1, c => crcStep (crcN k c)
theorem crcStep_lt {c : Nat} (h : c < 4294967296) : crcStep c < 4294967296 := by
  unfold crcStep
  split
  · exact Nat.xor_lt_two_pow (n := 32) (by omega) (by omega)
  · omega
theorem crcN_lt : ∀ (k : Nat) {c : Nat}, c < 4294967296 → crcN k c < 4294967296
  | 0, _, h => h
  | k + 1, _, h => crcStep_lt (crcN_lt k h)
theorem xor_four (a b c d : Nat) : (a ^^^ b) ^^^ (c ^^^ d) = (a ^^^ c) ^^^ (b ^^^ d) := by
  rw [Nat.xor_assoc, Nat.xor_assoc, ← Nat.xor_assoc b c d, Nat.xor_comm b c, Nat.xor_assoc c b d]
theorem crcStep_eq (c : Nat) : crcStep c = c / 2 ^^^ (if c % 2 = 1 then 3988292384 else 0) := by
  unfold crcStep
  split <;> simp
theorem crcStep_xor (a b : Nat) : crcStep (a ^^^ b) = crcStep a ^^^ crcStep b := by
  rw [crcStep_eq, crcStep_eq a, crcStep_eq b, xor_four]
  have h1 : (a ^^^ b) / 2 = a / 2 ^^^ b / 2 := Nat.xor_div_two_pow (n := 1)
  have h2 : (a ^^^ b) % 2 = a % 2 ^^^ b % 2 := Nat.xor_mod_two_pow (n := 1)
  rw [h1, h2]
  congr 1
  have ha : a % 2 = 0 ∨ a % 2 = 1 := by omega
  have hb : b % 2 = 0 ∨ b % 2 = 1 := by omega
  rcases ha with ha | ha <;> rcases hb with hb | hb <;> rw [ha, hb] <;> decide
theorem crcN_xor : ∀ (k a b : Nat), crcN k (a ^^^ b) = crcN k a ^^^ crcN k b
  | 0, _, _ => rfl
  | k + 1, a, b => by rw [crcN, crcN_xor k a b, crcStep_xor]; rfl
theorem crcN_add : ∀ (j k a : Nat), crcN (j + k) a = crcN j (crcN k a)
  | 0, k, a => by rw [Nat.zero_add]; rfl
  | j + 1, k, a => by rw [show j + 1 + k = (j + k) + 1 by omega, crcN, crcN_add j k a]; rfl
theorem crcN_high : ∀ (k h : Nat), crcN k (2 ^ k * h) = h
  | 0, h => by simp [crcN]
  | k + 1, h => by
    have e : crcN (k + 1) (2 ^ (k + 1) * h) = crcStep (crcN k (2 ^ k * (2 * h))) := by
      rw [Nat.pow_succ, Nat.mul_assoc]; rfl
    rw [e, crcN_high k (2 * h)]
    unfold crcStep
    rw [if_neg (by omega)]
    omega
theorem low_high (c : Nat) : c = 256 * (c / 256) ^^^ c % 256 := by
  apply Nat.eq_of_testBit_eq
  intro i
  have h1 := Nat.testBit_two_pow_mul (a := c / 2 ^ 8) (i := 8) (j := i)
  rw [Nat.testBit_xor, show 256 * (c / 256) = 2 ^ 8 * (c / 2 ^ 8) by rfl, show c % 256 = c % 2 ^ 8 by rfl, h1, Nat.testBit_mod_two_pow, Nat.testBit_div_two_pow]
  by_cases h : 8 ≤ i
  · simp [h, show ¬ i < 8 by omega]
  · simp [h, show i < 8 by omega]
/-- One byte, by the table. -/
theorem crc_byte (c x : Nat) : crcN 8 (c ^^^ x) = crcN 8 (c % 256 ^^^ x) ^^^ c / 256 := by
  have e : c ^^^ x = 2 ^ 8 * (c / 256) ^^^ (c % 256 ^^^ x) := by
    conv => lhs; rw [low_high c]
    rw [Nat.xor_assoc]
  rw [e, crcN_xor, crcN_high, Nat.xor_comm]
def crcF (c : Nat) (x : UInt8) : Nat := crcN 8 (c ^^^ x.toNat)
/-- The CRC-32, ahead of its last turning. -/
def crcL (l : List UInt8) : Nat := l.foldl crcF 4294967295
theorem crcF_lt {c : Nat} {x : UInt8} (h : c < 4294967296) : crcF c x < 4294967296 :=
  crcN_lt 8 (Nat.xor_lt_two_pow (n := 32) h (by have := x.toNat_lt; omega))
theorem crc_foldl_lt : ∀ (l : List UInt8) {c : Nat}, c < 4294967296 → l.foldl crcF c < 4294967296
  | [], _, h => h
  | _ :: l, _, h => crc_foldl_lt l (crcF_lt h)
theorem crcL_lt (l : List UInt8) : crcL l < 4294967296 := crc_foldl_lt l (by omega)
theorem crcL_snoc (l : List UInt8) (x : UInt8) : crcL (l ++ [x]) = crcF (crcL l) x := by simp [crcL]
/-- The sum. -/
def sumL (l : List UInt8) : Nat := 4294967295 - crcL l
theorem sumL_lt (l : List UInt8) : sumL l < 4294967296 := by unfold sumL; omega
theorem xor_ones {c : Nat} (h : c < 4294967296) : c ^^^ 4294967295 = 4294967295 - c := by
  apply Nat.eq_of_testBit_eq
  intro i
  have h1 := Nat.testBit_two_pow_sub_succ (n := 32) (x := c) (by omega) i
  rw [show 2 ^ 32 - (c + 1) = 4294967295 - c by omega] at h1
  have h2 := Nat.testBit_two_pow_sub_one 32 i
  rw [show 2 ^ 32 - 1 = 4294967295 by rfl] at h2
  rw [h1, Nat.testBit_xor, h2]
  by_cases h3 : i < 32
  · simp [h3]
  · simp only [h3, decide_false, Bool.bne_false, Bool.false_and]
    have h4 : (2 : Nat) ^ 32 ≤ 2 ^ i := Nat.pow_le_pow_right (by decide) (by omega)
    have h5 : c < 2 ^ 32 := h
    simpa using Nat.testBit_lt_two_pow (Nat.lt_of_lt_of_le h5 h4)
/-- One bit, as the reference does it. -/
def refStep (x k c : Nat) : Nat := if (x / 2 ^ k ^^^ c) % 2 = 1 then c / 2 ^^^ 3988292384 else c / 2
def refN (x : Nat) : Nat → Nat → Nat
  | 0, c => c
  | k + 1, c => refStep x k (refN x k c)
theorem refN_eq (x c : Nat) : ∀ k, crcN k (c ^^^ x) = refN x k c ^^^ x / 2 ^ k
  | 0 => by simp [crcN, refN]
  | k + 1 => by
    have ih := refN_eq x c k
    simp only [crcN, ih, refN]
    rw [crcStep_eq]
    have h1 : (refN x k c ^^^ x / 2 ^ k) / 2 = refN x k c / 2 ^^^ (x / 2 ^ k) / 2 := Nat.xor_div_two_pow (n := 1)
    rw [h1, Nat.div_div_eq_div_mul, ← Nat.pow_succ]
    unfold refStep
    rw [Nat.xor_comm (x / 2 ^ k)]
    split
    · rw [Nat.xor_assoc, Nat.xor_comm (x / 2 ^ (k + 1)), ← Nat.xor_assoc]
    · simp
theorem refN_byte (x : UInt8) (c : Nat) : refN x.toNat 8 c = crcF c x := by
  have h := refN_eq x.toNat c 8
  have : x.toNat / 2 ^ 8 = 0 := Nat.div_eq_of_lt x.toNat_lt
  rw [this, Nat.xor_zero] at h
  exact h.symm
theorem refN_lt (x : Nat) : ∀ (k : Nat) {c : Nat}, c < 4294967296 → refN x k c < 4294967296
  | 0, _, h => h
  | k + 1, c, h => by
    have := refN_lt x k h
    unfold refN refStep
    split
    · exact Nat.xor_lt_two_pow (n := 32) (by omega) (by omega)
    · omega
end Go.Proofs.Ytcdaioljddaopaa
