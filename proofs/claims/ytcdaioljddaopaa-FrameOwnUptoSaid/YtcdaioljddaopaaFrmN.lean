/- The number at the front, as a plain function on a list of bytes. -/
import Derived.Test.YtcdaioljddaopaaFrmM
namespace Go.Proofs.Ytcdaioljddaopaa

/-- The value of a row of bytes of seven bits each, the least first. -/
def valp : List UInt8 → Nat
  | [] => 0
  | c :: r => c.toNat % 128 + 128 * valp r
theorem valp_append : ∀ (a b : List UInt8), valp (a ++ b) = valp a + 128 ^ a.length * valp b
  | [], b => by simp [valp]
  | c :: a, b => by
    simp only [List.cons_append, valp, valp_append a b, List.length_cons, Nat.pow_succ]
    rw [Nat.mul_add, Nat.add_assoc, ← Nat.mul_assoc, Nat.mul_comm 128 (128 ^ a.length)]
theorem valp_lt : ∀ (a : List UInt8), valp a < 128 ^ a.length
  | [] => by simp [valp]
  | c :: a => by
    have := valp_lt a
    simp only [valp, List.length_cons, Nat.pow_succ]
    have h : c.toNat % 128 < 128 := Nat.mod_lt _ (by omega)
    omega
/-- The value (of whatever size) and the size of what stands at the front. -/
def takeL : List UInt8 → Option (Nat × Nat)
  | [] => none
  | c :: r => if c.toNat < 128 then some (c.toNat, 1) else (takeL r).map fun x => (c.toNat % 128 + 128 * x.1, x.2 + 1)
theorem takeL_append : ∀ (pre r : List UInt8), (∀ x ∈ pre, 128 ≤ x.toNat) → takeL (pre ++ r) = (takeL r).map fun x => (valp pre + 128 ^ pre.length * x.1, pre.length + x.2)
  | [], r, _ => by cases h : takeL r <;> simp [valp, h]
  | c :: pre, r, hp => by
    have hc := hp c (by simp)
    have ih := takeL_append pre r fun x hx => hp x (by simp [hx])
    simp only [List.cons_append, takeL]
    rw [if_neg (by omega), ih]
    cases h : takeL r with
    | none => rfl
    | some x =>
      simp only [Option.map_some, valp, List.length_cons, Nat.pow_succ]
      congr 1
      refine Prod.ext ?_ ?_
      · show _ = _
        simp only [Nat.mul_add]
        rw [← Nat.mul_assoc, Nat.mul_comm 128 (128 ^ pre.length)]
        omega
      · show _ = _
        simp only
        omega
theorem takeL_size : ∀ {b : List UInt8} {v s : Nat}, takeL b = some (v, s) → 1 ≤ s ∧ s ≤ b.length
  | c :: r, v, s, h => by
    simp only [takeL] at h
    split at h
    · simp only [Option.some.injEq, Prod.mk.injEq] at h
      obtain ⟨_, rfl⟩ := h
      simp
    · cases h2 : takeL r with
      | none => rw [h2] at h; cases h
      | some x =>
        rw [h2] at h
        simp only [Option.map_some, Option.some.injEq, Prod.mk.injEq] at h
        obtain ⟨_, rfl⟩ := h
        have := takeL_size (v := x.1) (s := x.2) h2
        simp only [List.length_cons]
        omega
/-- The number at the front and its size; 0, 0: there is none. -/
def takeU (b : List UInt8) : Nat × Nat :=
  match takeL b with
  | none => (0, 0)
  | some (v, s) => if s ≤ 10 ∧ v < 18446744073709551616 ∧ (s = 1 ∨ (b.getD (s - 1) 0).toNat ≠ 0) then (v, s) else (0, 0)
theorem takeU_none {b : List UInt8} (h : ∀ x ∈ b, 128 ≤ x.toNat) : takeU b = (0, 0) := by
  have := takeL_append b [] h
  rw [List.append_nil] at this
  simp [takeU, this, takeL]
theorem takeU_long {pre r : List UInt8} (h : ∀ x ∈ pre, 128 ≤ x.toNat) (hl : 10 ≤ pre.length) : takeU (pre ++ r) = (0, 0) := by
  have := takeL_append pre r h
  cases h2 : takeL r with
  | none => simp [takeU, this, h2]
  | some x =>
    have h3 := takeL_size (v := x.1) (s := x.2) h2
    simp only [takeU, this, h2, Option.map_some]
    rw [if_neg (by omega)]
theorem takeU_one {pre r : List UInt8} {c : UInt8} (h : ∀ x ∈ pre, 128 ≤ x.toNat) (hc : c.toNat < 128) :
    takeU (pre ++ c :: r) = if pre.length + 1 ≤ 10 ∧ valp pre + 128 ^ pre.length * c.toNat < 18446744073709551616 ∧ (pre.length = 0 ∨ c.toNat ≠ 0) then (valp pre + 128 ^ pre.length * c.toNat, pre.length + 1) else (0, 0) := by
  have := takeL_append pre (c :: r) h
  have e : takeL (c :: r) = some (c.toNat, 1) := by simp only [takeL]; rw [if_pos hc]
  rw [e] at this
  simp only [takeU, this, Option.map_some]
  have e2 : (pre ++ c :: r).getD (pre.length + 1 - 1) 0 = c := by simp [List.getD]
  rw [e2]
  by_cases h1 : pre.length + 1 ≤ 10 ∧ valp pre + 128 ^ pre.length * c.toNat < 18446744073709551616 ∧ (pre.length = 0 ∨ c.toNat ≠ 0)
  · rw [if_pos h1, if_pos ⟨h1.1, h1.2.1, by omega⟩]
  · rw [if_neg h1, if_neg (fun h2 => h1 ⟨h2.1, h2.2.1, by omega⟩)]
/-- Two too great: the tenth byte above 1. -/
theorem takeU_big {pre r : List UInt8} {c : UInt8} (h : ∀ x ∈ pre, 128 ≤ x.toNat) (hl : pre.length = 9) (hc : 2 ≤ c.toNat % 128) : takeU (pre ++ c :: r) = (0, 0) := by
  by_cases h1 : c.toNat < 128
  · rw [takeU_one h h1, if_neg]
    rintro ⟨_, h2, _⟩
    rw [hl] at h2
    omega
  · have e : pre ++ c :: r = (pre ++ [c]) ++ r := by simp
    rw [e]
    refine takeU_long ?_ (by simp; omega)
    intro x hx
    rcases List.mem_append.1 hx with hx | hx
    · exact h x hx
    · rw [List.mem_singleton.1 hx]; omega

/-! ### The bytes of a number are its one form -/
theorem valp_uintL : ∀ (n : Nat), valp (uintL n) = n := by
  intro n
  induction n using Nat.strongRecOn with
  | ind n ih =>
    rcases Nat.lt_or_ge n 128 with h | h
    · rw [uintL_lt h]
      simp [valp]
      omega
    · rw [uintL_ge h]
      simp only [valp]
      rw [ih (n / 128) (by omega)]
      have : (UInt8.ofNat (n % 128 + 128)).toNat = n % 128 + 128 := by simp; omega
      rw [this]
      omega
theorem uintL_form : ∀ (n : Nat), ∃ pre c, uintL n = pre ++ [c] ∧ (∀ x ∈ pre, 128 ≤ UInt8.toNat x) ∧ c.toNat < 128 ∧ (pre.length = 0 ∨ c.toNat ≠ 0) ∧ (n ≠ 0 → c.toNat ≠ 0) := by
  intro n
  induction n using Nat.strongRecOn with
  | ind n ih =>
    rcases Nat.lt_or_ge n 128 with h | h
    · refine ⟨[], UInt8.ofNat n, by rw [uintL_lt h]; rfl, by simp, by simp; omega, .inl rfl, fun h0 => by simp; omega⟩
    · obtain ⟨pre, c, e, h1, h2, _, h4⟩ := ih (n / 128) (by omega)
      refine ⟨UInt8.ofNat (n % 128 + 128) :: pre, c, by rw [uintL_ge h, e]; rfl, ?_, h2, .inr (h4 (by omega)), fun _ => h4 (by omega)⟩
      intro x hx
      rcases List.mem_cons.1 hx with rfl | hx
      · simp; omega
      · exact h1 x hx
theorem uintL_valp : ∀ (pre : List UInt8) (c : UInt8), (∀ x ∈ pre, 128 ≤ x.toNat) → c.toNat < 128 → (pre.length = 0 ∨ c.toNat ≠ 0) → uintL (valp (pre ++ [c])) = pre ++ [c]
  | [], c, _, hc, _ => by
    simp only [List.nil_append, valp]
    rw [uintL_lt (by omega)]
    congr 1
    apply UInt8.toNat.inj
    simp
    omega
  | p :: pre, c, h1, hc, h2 => by
    have hp := h1 p (by simp)
    have ih := uintL_valp pre c (fun x hx => h1 x (by simp [hx])) hc (by simp at h2; omega)
    have hpos : 0 < valp (pre ++ [c]) := by
      rw [valp_append]
      simp only [valp]
      have : 0 < 128 ^ pre.length := Nat.pow_pos (by omega)
      have h3 : 0 < c.toNat % 128 + 128 * 0 := by simp at h2; omega
      have := Nat.mul_pos this h3
      omega
    simp only [List.cons_append, valp]
    have hm : p.toNat % 128 < 128 := Nat.mod_lt _ (by omega)
    rw [uintL_ge (by omega), show (p.toNat % 128 + 128 * valp (pre ++ [c])) / 128 = valp (pre ++ [c]) by omega, ih,
      show (p.toNat % 128 + 128 * valp (pre ++ [c])) % 128 + 128 = p.toNat by have := p.toNat_lt; omega]
    simp
/-- A number is read back whatever stands behind it. -/
theorem takeU_uintL (n : Nat) (hn : n < 18446744073709551616) (r : List UInt8) : takeU (uintL n ++ r) = (n, (uintL n).length) := by
  obtain ⟨pre, c, e, h1, h2, h3, _⟩ := uintL_form n
  have hl := uintL_len64 hn
  have hv := valp_uintL n
  rw [e] at hl hv ⊢
  rw [valp_append] at hv
  simp only [valp] at hv
  simp only [List.length_append, List.length_cons, List.length_nil] at hl
  rw [List.append_assoc]
  show takeU (pre ++ c :: r) = _
  have e2 : c.toNat % 128 + 128 * 0 = c.toNat := by omega
  rw [e2] at hv
  rw [takeU_one h1 h2, hv, if_pos ⟨by omega, hn, h3⟩]
  simp
/-- The reference's way: written again, it is the same. -/
theorem takeU_ref {pre r : List UInt8} {c : UInt8} (h : ∀ x ∈ pre, 128 ≤ x.toNat) (hc : c.toNat < 128) (hl : pre.length ≤ 9) :
    takeU (pre ++ c :: r) = if uintL (valp (pre ++ [c]) % 18446744073709551616) = pre ++ [c] then (valp (pre ++ [c]) % 18446744073709551616, pre.length + 1) else (0, 0) := by
  rw [takeU_one h hc]
  have ev : valp (pre ++ [c]) = valp pre + 128 ^ pre.length * c.toNat := by
    rw [valp_append]
    simp only [valp]
    rw [show c.toNat % 128 + 128 * 0 = c.toNat by omega]
  rw [← ev]
  by_cases h1 : valp (pre ++ [c]) < 18446744073709551616 ∧ (pre.length = 0 ∨ c.toNat ≠ 0)
  · rw [if_pos ⟨by omega, h1⟩, Nat.mod_eq_of_lt h1.1, if_pos (uintL_valp pre c h hc h1.2)]
  · rw [if_neg (fun h2 => h1 h2.2), if_neg]
    intro e
    have e1 : valp (pre ++ [c]) = valp (pre ++ [c]) % 18446744073709551616 := by
      conv => lhs; rw [← e, valp_uintL]
    obtain ⟨pre', c', e2, _, _, h3, _⟩ := uintL_form (valp (pre ++ [c]) % 18446744073709551616)
    rw [e] at e2
    have e3 : pre = pre' ∧ [c] = [c'] := List.append_inj' e2 rfl
    obtain ⟨rfl, e4⟩ := e3
    injection e4 with e4 _
    subst e4
    exact h1 ⟨by rw [e1]; exact Nat.mod_lt _ (by omega), h3⟩
theorem takeU_le (b : List UInt8) : (takeU b).2 ≤ b.length ∧ (takeU b).2 ≤ 10 ∧ (takeU b).1 < 18446744073709551616 := by
  unfold takeU
  cases h : takeL b with
  | none => simp
  | some x =>
    have := takeL_size (v := x.1) (s := x.2) h
    simp only
    split
    · exact ⟨this.2, by omega, by omega⟩
    · simp
end Go.Proofs.Ytcdaioljddaopaa
