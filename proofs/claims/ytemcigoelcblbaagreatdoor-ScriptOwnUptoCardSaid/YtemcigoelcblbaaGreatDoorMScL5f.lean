/-
  Texts joined: ScT.
-/
import Derived.Test.YtemcigoelcblbaaGreatDoorMScL5e
/- numbers written and read, plain -/
namespace Go.Proofs.YtemcigoelcblbaaGreatDoor
open Go.Lib
theorem dec_step {m : Nat} (h : 10 ≤ m) : decDigits m = decDigits (m / 10) ++ [UInt8.ofNat (48 + m % 10)] := by
  rw [decDigits, dif_neg (by omega)]
theorem dec_digit : ∀ (m : Nat), ∀ x ∈ decDigits m, 48 ≤ x.toNat ∧ x.toNat ≤ 57 := by
  intro m
  induction m using Nat.strongRecOn with
  | _ m ih =>
    intro x hx
    by_cases h : m < 10
    · rw [decDigits, dif_pos h] at hx
      obtain rfl := List.mem_singleton.1 hx
      simp
      omega
    · rw [dec_step (by omega)] at hx
      rcases List.mem_append.1 hx with hx | hx
      · exact ih (m / 10) (by omega) x hx
      · obtain rfl := List.mem_singleton.1 hx
        simp
        omega
theorem dec_ne (m : Nat) : decDigits m ≠ [] := by
  intro e
  have := decDigits_length m
  rw [e] at this
  have := nDigits_pos m
  simp at *
  omega
theorem parse_dec : ∀ (m : Nat), m < 18446744073709551616 → ∀ r, parseUint10 0 (decDigits m ++ r) = parseUint10 m r := by
  intro m
  induction m using Nat.strongRecOn with
  | _ m ih =>
    intro hm r
    by_cases h : m < 10
    · rw [decDigits, dif_pos h, List.singleton_append, parseUint10]
      have hd : (UInt8.ofNat (48 + m)).toNat = 48 + m := by simp; omega
      rw [hd, if_pos (by omega), if_neg (by omega), if_neg (by omega)]
      congr 1
      omega
    · rw [dec_step (by omega), List.append_assoc, ih (m / 10) (by omega) (by omega), List.singleton_append, parseUint10]
      have hd : (UInt8.ofNat (48 + m % 10)).toNat = 48 + m % 10 := by simp; omega
      rw [hd, if_pos (by omega), if_neg (by omega), if_neg (by omega)]
      congr 1
      omega
theorem parseMag_dec {m : Nat} (hm : m < 18446744073709551616) : parseMag (decDigits m) = .ok m := by
  unfold parseMag
  rw [if_neg (dec_ne m)]
  have := parse_dec m hm []
  rw [List.append_nil] at this
  rw [this]
  rfl
theorem atoi_itoa {n : Int} (h : -9223372036854775808 ≤ n ∧ n ≤ 9223372036854775807) : atoiAll (itoa n) = .ok n := by
  unfold itoa
  split
  · rename_i hn
    rw [atoiAll_minus, parseMag_dec (by omega)]
    unfold signed
    dsimp only
    rw [if_neg (by omega)]
    congr 1
    omega
  · rename_i hn
    cases hd : decDigits n.toNat with
    | nil => exact absurd hd (dec_ne _)
    | cons c r =>
      have hc := dec_digit n.toNat c (by rw [hd]; exact List.mem_cons_self)
      have hp := parseMag_dec (m := n.toNat) (by omega)
      rw [hd] at hp
      rw [atoiAll_plain c r (by omega) (by omega), hp]
      unfold signless
      dsimp only
      rw [if_neg (by omega)]
      congr 1
      omega
theorem numP_of {n : Int} (h : -9223372036854775808 ≤ n ∧ n ≤ 9223372036854775807) : numP (itoa n) = some n := by
  unfold numP
  rw [atoi_itoa h]
  dsimp only
  rw [if_pos rfl]
def stepN (b : Bool) (n : Int) (x : UInt8) : Int := IntKind.i64.wrap (IntKind.i64.wrap (10 * n) + (if b then -((x.toNat : Int) - 48) else (x.toNat : Int) - 48))
/-- What the document reckons. -/
def docN (b : Bool) (l : List UInt8) : Int := l.foldl (stepN b) 0
theorem wrapJ {n : Int} (h : -9223372036854775808 ≤ n ∧ n ≤ 9223372036854775807) : IntKind.i64.wrap n = n := by
  rw [IntKind.wrap_i64]
  omega
theorem wrap_in (n : Int) : -9223372036854775808 ≤ IntKind.i64.wrap n ∧ IntKind.i64.wrap n ≤ 9223372036854775807 := by
  rw [IntKind.wrap_i64]
  omega
theorem docN_dec (b : Bool) : ∀ m : Nat, m ≤ 9223372036854775808 → (b = false → m < 9223372036854775808) → docN b (decDigits m) = if b then -(m : Int) else m := by
  intro m
  induction m using Nat.strongRecOn with
  | _ m ih =>
    intro hm hb
    by_cases h : m < 10
    · have hd : (UInt8.ofNat (48 + m)).toNat = 48 + m := by simp; omega
      rw [decDigits, dif_pos h]
      show stepN b 0 _ = _
      unfold stepN
      rw [hd, show IntKind.i64.wrap (10 * 0) = 0 from wrapJ (by omega)]
      cases b
      · simp only [Bool.false_eq_true, if_false]
        rw [wrapJ (by omega)]
        omega
      · simp only [if_true]
        rw [wrapJ (by omega)]
        omega
    · have hd : (UInt8.ofNat (48 + m % 10)).toNat = 48 + m % 10 := by simp; omega
      rw [dec_step (by omega)]
      unfold docN at ih ⊢
      rw [List.foldl_append, ih (m / 10) (by omega) (by omega) (by omega)]
      show stepN b _ _ = _
      unfold stepN
      rw [hd]
      cases b
      · have := hb rfl
        simp only [Bool.false_eq_true, if_false]
        rw [show IntKind.i64.wrap (10 * ((m / 10 : Nat) : Int)) = 10 * ((m / 10 : Nat) : Int) from wrapJ (by omega), wrapJ (by omega)]
        omega
      · simp only [if_true]
        rw [show IntKind.i64.wrap (10 * -((m / 10 : Nat) : Int)) = 10 * -((m / 10 : Nat) : Int) from wrapJ (by omega), wrapJ (by omega)]
        omega
/-- The digits of a text, and whether a '-' stands ahead. -/
def negB (w : List UInt8) : Bool := decide (w.head? = some 45)
def bodyB (w : List UInt8) : List UInt8 := w.drop (if negB w then 1 else 0)
theorem num_body {w : List UInt8} {v : Int} (h : numP w = some v) : docN (negB w) (bodyB w) = v ∧ (∀ x ∈ bodyB w, 48 ≤ x.toNat ∧ x.toNat ≤ 57) ∧ w.length ≤ 21 := by
  obtain ⟨hw, hb⟩ := numP_itoa h
  have hl := itoa_length_le v hb.1 hb.2
  rw [hw] at hl
  unfold itoa at hw
  split at hw
  · rename_i hn
    have h1 : negB w = true := by unfold negB; rw [← hw]; rfl
    have h2 : bodyB w = decDigits v.natAbs := by unfold bodyB; rw [h1, ← hw]; rfl
    rw [h1, h2, docN_dec true _ (by omega) (by intro e; cases e)]
    refine ⟨by simp only [if_true]; omega, dec_digit _, hl⟩
  · rename_i hn
    have h1 : negB w = false := by
      unfold negB
      refine decide_eq_false fun e => ?_
      rw [← hw] at e
      cases hd : decDigits v.toNat with
      | nil => exact dec_ne _ hd
      | cons c r =>
        rw [hd] at e
        obtain rfl : c = 45 := Option.some.inj e
        have := dec_digit v.toNat 45 (by rw [hd]; exact List.mem_cons_self)
        exact absurd this.1 (by decide)
    have h2 : bodyB w = decDigits v.toNat := by unfold bodyB; rw [h1, ← hw]; rfl
    rw [h1, h2, docN_dec false _ (by omega) (by omega)]
    refine ⟨by simp only [Bool.false_eq_true, if_false]; omega, dec_digit _, hl⟩
theorem doc_num (w : List UInt8) : decide (itoa (docN (negB w) (bodyB w)) = w) = (numP w).isSome := by
  have hin : -9223372036854775808 ≤ docN (negB w) (bodyB w) ∧ docN (negB w) (bodyB w) ≤ 9223372036854775807 := by
    unfold docN
    generalize bodyB w = l
    rcases List.eq_nil_or_concat l with rfl | ⟨l', x, rfl⟩
    · exact ⟨by show (-9223372036854775808 : Int) ≤ 0; decide, by show (0 : Int) ≤ 9223372036854775807; decide⟩
    · rw [List.concat_eq_append, List.foldl_append]
      exact wrap_in _
  cases h : numP w with
  | some v =>
    rw [(num_body h).1, decide_eq_true (numP_itoa h).1]
    rfl
  | none =>
    rw [decide_eq_false (fun e => by rw [← e, numP_of hin] at h; cases h)]
    rfl
theorem docN_in (b : Bool) (l : List UInt8) : -9223372036854775808 ≤ docN b l ∧ docN b l ≤ 9223372036854775807 := by
  unfold docN
  rcases List.eq_nil_or_concat l with rfl | ⟨l', x, rfl⟩
  · exact ⟨by show (-9223372036854775808 : Int) ≤ 0; decide, by show (0 : Int) ≤ 9223372036854775807; decide⟩
  · rw [List.concat_eq_append, List.foldl_append]
    exact wrap_in _
end Go.Proofs.YtemcigoelcblbaaGreatDoor
