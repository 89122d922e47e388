/- walk: frame.TakeUint -/
import Derived.Test.YtcdaioljddaopaaFrmB
import Derived.Test.YtcdaioljddaopaaFrmN
import Derived.Laws.Bits64b
namespace Go.Proofs.Ytcdaioljddaopaa
open Go.RowKit

theorem and127_all : ∀ k : Fin 256, bits BinOp.and IntKind.u8 (k.val : Int) 127 = ((k.val % 128 : Nat) : Int) := by decide +kernel
theorem and127 (x : UInt8) : bits BinOp.and IntKind.u8 (x.toNat : Int) 127 = ((x.toNat % 128 : Nat) : Int) := and127_all ⟨x.toNat, x.toNat_lt⟩
theorem all_take {l : List UInt8} {i : Nat} (h : ∀ j, j < i → 128 ≤ (l.getD j 0).toNat) (hi : i ≤ l.length) : ∀ x ∈ l.take i, 128 ≤ UInt8.toNat x := by
  intro x hx
  obtain ⟨j, hj, e⟩ := List.mem_iff_getElem.1 hx
  simp only [List.length_take] at hj
  have := h j (by omega)
  rw [List.getElem_take] at e
  rw [List.getD_eq_getElem?_getD, List.getElem?_eq_getElem (by omega), Option.getD_some, e] at this
  exact this
theorem split_at {l : List UInt8} {i : Nat} (hi : i < l.length) : l = l.take i ++ l.getD i 0 :: l.drop (i + 1) := by
  rw [List.getD_eq_getElem?_getD, List.getElem?_eq_getElem hi, Option.getD_some, ← List.drop_eq_getElem_cons hi, List.take_append_drop]
theorem take_snoc {l : List UInt8} {i : Nat} (hi : i < l.length) : l.take (i + 1) = l.take i ++ [l.getD i 0] := by
  rw [List.getD_eq_getElem?_getD, List.getElem?_eq_getElem hi, Option.getD_some, List.take_add_one, List.getElem?_eq_getElem hi]
  rfl

theorem pow7 (i : Nat) : 128 ^ i = 2 ^ (7 * i) := by rw [Nat.pow_mul]
theorem part_lt {m p i : Nat} (hm : m < 128 ^ i) (hp : p < 128) (hok : i ≤ 8 ∨ (i = 9 ∧ p < 2)) : m + 128 ^ i * p < 18446744073709551616 := by
  rcases hok with h | ⟨rfl, h⟩
  · have h1 : m + 128 ^ i * p < 128 ^ i * 128 := by
      have : 128 ^ i * p + 128 ^ i ≤ 128 ^ i * 128 := by
        rw [← Nat.mul_succ]
        exact Nat.mul_le_mul_left _ (by omega)
      omega
    have h2 : 128 ^ i ≤ 128 ^ 8 := Nat.pow_le_pow_right (by omega) h
    omega
  · omega
theorem or7 {m p i : Nat} (hm : m < 128 ^ i) (hp : p < 128) (hok : i ≤ 8 ∨ (i = 9 ∧ p < 2)) :
    bits BinOp.or IntKind.u64 (m : Int) (IntKind.u64.wrap ((p : Int) * 2 ^ (7 * i))) = ((m + 128 ^ i * p : Nat) : Int) := by
  have h := part_lt hm hp hok
  have e : (p : Int) * 2 ^ (7 * i) = ((p * 2 ^ (7 * i) : Nat) : Int) := by simp
  have h2 : p * 2 ^ (7 * i) = 128 ^ i * p := by rw [pow7, Nat.mul_comm]
  rw [e, IntKind.wrap_u64, Int.emod_eq_of_lt (by omega) (by rw [h2]; omega), bits_or_u64_nat _ _ (by omega) (by rw [h2]; omega), h2]
  congr 1
  rw [pow7] at hm ⊢
  rw [Nat.or_comm, ← Nat.two_pow_add_eq_or_of_lt hm]
  omega

set_option maxRecDepth 100000 in
set_option maxHeartbeats 2000000 in
theorem takeUint_any (A : Option Addr) (n c : Nat) (l : List UInt8) (w : World) (hx : Reads w w.heap.size 1 A n (u8s l)) (hn : n ≤ maxLen) :
    Calls Try.prog 13 #[.slice A n c] w fun e w' => e = .returned (.tuple #[.int .u64 (takeU l).1, .int .i64 (takeU l).2]) ∧ w = w' := by
  have hlen := hx.len_
  unfold maxLen at hn
  have HX := Lib.hid hx
  clear hx
  go_enter Try.func13, Try.ntmps13
  go_wp2_with fail
  go_loopw [4, 10] (fun nv iv wr => ∃ (m i : Nat), nv = .int .u64 m ∧ iv = .int .i64 i ∧ i ≤ 10 ∧ i ≤ n ∧ m = valp (l.take i) ∧ (∀ j, j < i → 128 ≤ (l.getD j 0).toNat) ∧ w = wr) (fun _ iv _ => n - (intOf iv).toNat)
  case atStart => exact ⟨0, 0, rfl, rfl, by omega, by omega, rfl, by omega, rfl⟩
  case round =>
    obtain ⟨m, i, rfl, rfl, hi, hin, hm, hall, rfl⟩ := hrel
    have HM := Lib.hid hm
    have HA := Lib.hid hall
    clear hm hall
    by_cases h : (i : Int) < n
    · obtain ⟨ad, rfl, hb, hc⟩ := HX.out.u8_ (k := i) (by omega)
      have hsp := split_at (l := l) (i := i) (by omega)
      have hal := all_take HA.out (by omega)
      have hv := valp_lt (l.take i)
      rw [List.length_take, show min i l.length = i by omega, ← HM.out] at hv
      have HS := Lib.hid hsp
      have HL := Lib.hid hal
      have HV := Lib.hid hv
      clear hsp hal hv
      generalize hxx : l.getD i 0 = x at hc
      have h127 := and127 x
      have hx1 : (x.toNat : Int) < 256 := by have := x.toNat_lt; omega
      have hx2 : ((x.toNat % 128 : Nat) : Int) < 128 := by omega
      go_wp2_with fail
      refine (len64_any ((x.toNat : Int) % 128) w (by omega) (by omega)).mono ?_
      rintro e w1 ⟨rfl, rfl⟩
      have hb7 := bitLen_le ⟨((x.toNat : Int) % 128).toNat, by omega⟩
      have hb9 := bitLen_ge ⟨((x.toNat : Int) % 128).toNat, by omega⟩
      dsimp only at hb7 hb9
      generalize hbl : Lib.bitLen ((x.toNat : Int) % 128).toNat = bl at hb7 hb9
      by_cases hok : i ≤ 8 ∨ (i = 9 ∧ x.toNat % 128 < 2)
      · have ht : ¬ (64 : Int) < 7 * (i : Int) + bl := by
          rcases hok with h1 | ⟨h1, h2⟩
          · omega
          · have : ¬ 7 * 9 + bl > 64 := fun h3 => by have := hb9.1 h3; omega
            omega
        have hor := or7 (m := m) (p := x.toNat % 128) (i := i) HV.out (by omega) hok
        have hlt := part_lt (m := m) (p := x.toNat % 128) (i := i) HV.out (by omega) hok
        rw [show (((x.toNat % 128 : Nat) : Int)) = (x.toNat : Int) % 128 by omega] at hor
        obtain ⟨M, hM⟩ : ∃ M, M = m + 128 ^ i * (x.toNat % 128) := ⟨_, rfl⟩
        rw [← hM] at hor hlt
        have HM2 := Lib.hid hM
        have HOK := Lib.hid hok
        have HB9 := Lib.hid hb9
        clear hM hok hb9
        have hi9 : i ≤ 9 := by have := HOK.out; omega
        by_cases hx128 : (x.toNat : Int) < 128
        · have hone := takeU_one (pre := l.take i) (r := l.drop (i + 1)) (c := x) HL.out (by omega)
          rw [List.length_take, show min i l.length = i by omega, ← HM.out, ← hxx, ← HS.out, hxx] at hone
          have hpx : x.toNat % 128 = x.toNat := by omega
          have hM3 := HM2.out
          rw [hpx] at hM3
          rw [← hM3] at hone
          have HON := Lib.hid hone
          clear hone hpx hM3
          by_cases hz0 : x.toNat = 0
          · have hz : ((x.toNat : Int) == 0) = true := by rw [hz0]; rfl
            have HZ := Lib.hid hz0
            clear hz0
            by_cases hi0 : (0 : Int) < (i : Int)
            · go_wp2_with fail
              go_ret2
              have := HON.out
              rw [if_neg (by have := HZ.out; omega)] at this
              rw [this]
              exact ⟨rfl, rfl⟩
            · go_wp2_with fail
              go_ret2
              have := HON.out
              rw [if_pos ⟨by omega, hlt, .inl (by omega)⟩] at this
              rw [this]
              exact ⟨rfl, rfl⟩
          · have hz : ((x.toNat : Int) == 0) = false := by simpa using hz0
            have HZ := Lib.hid hz0
            clear hz0
            go_wp2_with fail
            go_ret2
            have := HON.out
            rw [if_pos ⟨by omega, hlt, .inr HZ.out⟩] at this
            rw [this]
            exact ⟨rfl, rfl⟩
        · go_wp2_with fail
          go_roundw
          case rel =>
            refine ⟨M, i + 1, rfl, by simp, by omega, by omega, ?_, ?_, trivial⟩
            · rw [take_snoc (by omega), valp_append, ← HM.out, hxx, HM2.out, List.length_take, show min i l.length = i by omega]
              simp only [valp]
              rw [Nat.mul_zero, Nat.add_zero]
            · intro j hj
              rcases Nat.lt_or_ge j i with h1 | h1
              · exact HA.out j h1
              · obtain rfl : j = i := by omega
                rw [hxx]
                omega
          case measure => simp [intOf]; omega
      · have ht : (64 : Int) < 7 * (i : Int) + bl := by
          rcases Nat.lt_or_ge i 10 with h1 | h1
          · have : 7 * 9 + bl > 64 := hb9.2 (by omega)
            omega
          · omega
        go_wp2_with fail
        go_ret2
        have hx9 : takeU l = (0, 0) := by
          rw [HS.out, hxx]
          rcases Nat.lt_or_ge i 10 with h1 | h1
          · exact takeU_big HL.out (by rw [List.length_take]; omega) (by omega)
          · exact takeU_long HL.out (by rw [List.length_take]; omega)
        rw [hx9]
        exact ⟨rfl, rfl⟩
    · go_wp2_with fail
      go_ret2
      have hx9 : takeU l = (0, 0) := by
        have := all_take HA.out (by omega)
        rw [List.take_of_length_le (by omega)] at this
        exact takeU_none this
      rw [hx9]
      exact ⟨rfl, rfl⟩
end Go.Proofs.Ytcdaioljddaopaa
