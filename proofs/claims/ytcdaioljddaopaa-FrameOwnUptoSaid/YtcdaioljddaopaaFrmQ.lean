/- Bursts: what the CRC-32 finds. -/
import Derived.Test.YtcdaioljddaopaaFrmP
namespace Go.Proofs.Ytcdaioljddaopaa

theorem tab_top : ∀ i j : Fin 256, crcN 8 i.val / 16777216 = crcN 8 j.val / 16777216 → i = j := by decide +kernel
theorem xor_lt256 {c : Nat} (x : UInt8) : c % 256 ^^^ x.toNat < 256 := Nat.xor_lt_two_pow (n := 8) (by omega) x.toNat_lt
theorem xor_cancel_right {a b c : Nat} (h : a ^^^ c = b ^^^ c) : a = b := by
  have : (a ^^^ c) ^^^ c = (b ^^^ c) ^^^ c := by rw [h]
  simpa [Nat.xor_assoc] using this
theorem xor_cancel_left {a b c : Nat} (h : c ^^^ a = c ^^^ b) : a = b := xor_cancel_right (c := c) (by rw [Nat.xor_comm a, Nat.xor_comm b]; exact h)
theorem pow256 (j : Nat) : (256 : Nat) ^ j = 2 ^ (8 * j) := by rw [Nat.pow_mul]
theorem crcF_top {c c' : Nat} {x y : UInt8} {j : Nat} (hc : c < 4294967296) (hc' : c' < 4294967296) (hj : j ≤ 3) (h : crcF c x / 256 ^ j = crcF c' y / 256 ^ j) :
    c % 256 ^^^ x.toNat = c' % 256 ^^^ y.toNat ∧ c / 256 ^ (j + 1) = c' / 256 ^ (j + 1) := by
  have e : ∀ {c : Nat} {x : UInt8}, c < 4294967296 → crcF c x / 256 ^ j / 256 ^ (3 - j) = crcN 8 (c % 256 ^^^ x.toNat) / 16777216 := by
    intro c x hc
    rw [Nat.div_div_eq_div_mul, ← Nat.pow_add, show j + (3 - j) = 3 by omega]
    unfold crcF
    rw [crc_byte, show (256 : Nat) ^ 3 = 2 ^ 24 by rfl, Nat.xor_div_two_pow, show c / 256 / 2 ^ 24 = 0 by omega, Nat.xor_zero]
  have hi : c % 256 ^^^ x.toNat = c' % 256 ^^^ y.toNat := by
    have h1 : crcF c x / 256 ^ j / 256 ^ (3 - j) = crcF c' y / 256 ^ j / 256 ^ (3 - j) := by rw [h]
    rw [e hc, e hc'] at h1
    have := tab_top ⟨_, xor_lt256 x⟩ ⟨_, xor_lt256 y⟩ h1
    exact congrArg Fin.val this
  refine ⟨hi, ?_⟩
  unfold crcF at h
  rw [crc_byte c, crc_byte c', hi, pow256, Nat.xor_div_two_pow, Nat.xor_div_two_pow] at h
  have h2 := xor_cancel_left h
  rw [← pow256, Nat.div_div_eq_div_mul, Nat.div_div_eq_div_mul, Nat.mul_comm, ← Nat.pow_succ] at h2
  exact h2
theorem u8_eq {x y : UInt8} (h : x.toNat = y.toNat) : x = y := UInt8.toNat.inj h
theorem crc_window : ∀ (xs ys : List UInt8) (j c c' : Nat), c < 4294967296 → c' < 4294967296 → xs.length = ys.length → xs.length + j ≤ 4 → xs.foldl crcF c / 256 ^ j = ys.foldl crcF c' / 256 ^ j →
    c / 256 ^ (j + xs.length) = c' / 256 ^ (j + xs.length) ∧ (c = c' → xs = ys)
  | [], [], _, _, _, _, _, _, _, h => ⟨h, fun _ => rfl⟩
  | x :: xs, y :: ys, j, c, c', hc, hc', hl, hj, h => by
    simp only [List.length_cons] at hl hj
    obtain ⟨h1, h2⟩ := crc_window xs ys j (crcF c x) (crcF c' y) (crcF_lt hc) (crcF_lt hc') (by omega) (by omega) h
    obtain ⟨h3, h4⟩ := crcF_top hc hc' (by omega) h1
    refine ⟨h4, fun e => ?_⟩
    subst e
    obtain rfl : x = y := u8_eq (xor_cancel_left h3)
    rw [h2 rfl]
theorem crc_inj : ∀ (l : List UInt8) (c c' : Nat), c < 4294967296 → c' < 4294967296 → l.foldl crcF c = l.foldl crcF c' → c = c'
  | [], _, _, _, _, h => h
  | x :: l, c, c', hc, hc', h => by
    have h1 := crc_inj l _ _ (crcF_lt hc) (crcF_lt hc') h
    obtain ⟨h3, h4⟩ := crcF_top (j := 0) hc hc' (by omega) (by rw [h1])
    have h5 := xor_cancel_right h3
    simp only [Nat.zero_add, Nat.pow_one] at h4
    omega
/-- A burst of up to four bytes is found. -/
theorem sum_burst {pre xs ys suf : List UInt8} (hl : xs.length = ys.length) (h4 : xs.length ≤ 4) (h : sumL (pre ++ xs ++ suf) = sumL (pre ++ ys ++ suf)) : xs = ys := by
  have e : crcL (pre ++ xs ++ suf) = crcL (pre ++ ys ++ suf) := by
    have h1 := crcL_lt (pre ++ xs ++ suf)
    have h2 := crcL_lt (pre ++ ys ++ suf)
    unfold sumL at h
    omega
  unfold crcL at e
  rw [List.foldl_append, List.foldl_append, List.foldl_append, List.foldl_append] at e
  have hp := crc_foldl_lt pre (c := 4294967295) (by omega)
  have h1 := crc_inj suf _ _ (crc_foldl_lt xs hp) (crc_foldl_lt ys hp) e
  exact (crc_window xs ys 0 _ _ hp hp hl (by omega) (by rw [h1])).2 rfl
/-- A row of the right form is a frame where its sum fits. -/
theorem takeF_form {n : Nat} {s4 q : List UInt8} (h4 : s4.length = 4) (hq : q.length = n) (hn : n ≤ 4096) :
    takeF (uintL n ++ s4 ++ q) = if s4 = sum4 (sumL q) then some (q, (uintL n).length + 4 + n) else none := by
  have hu : takeU (uintL n ++ s4 ++ q) = (n, (uintL n).length) := by rw [List.append_assoc]; exact takeU_uintL _ (by omega) _
  have hpos : (uintL n).length ≠ 0 := by
    obtain ⟨pre, c, h, _⟩ := uintL_form n
    rw [h]; simp
  have hd : (uintL n ++ s4 ++ q).drop ((uintL n).length + 4) = q := by rw [List.drop_left' (by simp [h4])]
  have hlen : (uintL n ++ s4 ++ q).length = (uintL n).length + 4 + n := by simp [h4, hq]; omega
  unfold takeF
  rw [hu]
  simp only
  rw [if_neg (by omega), hd, List.take_of_length_le (by omega), List.take_of_length_le (by omega)]
  by_cases e : s4 = sum4 (sumL q)
  · rw [if_pos e, if_pos (by rw [e, sealL, hq])]
  · rw [if_neg e, if_neg]
    intro h
    rw [sealL, hq] at h
    exact e (List.append_cancel_left (List.append_cancel_right h)).symm
end Go.Proofs.Ytcdaioljddaopaa
