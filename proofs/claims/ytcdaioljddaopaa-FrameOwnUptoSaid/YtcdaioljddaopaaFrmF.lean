/- walk: convoyref01.Sum -/
import Derived.Test.YtcdaioljddaopaaFrmE
namespace Go.Proofs.Ytcdaioljddaopaa
open Go.RowKit

set_option maxRecDepth 100000 in
set_option maxHeartbeats 2000000 in
theorem refSum_any (A : Option Addr) (n c : Nat) (l : List UInt8) (w : World) (hx : Reads w w.heap.size 1 A n (u8s l)) (hn : n ≤ maxLen) :
    Calls Try.prog 18 #[.slice A n c] w fun e w' => e = .returned (.int .u32 (sumL l)) ∧ w = w' := by
  have hlen := hx.len_
  unfold maxLen at hn
  have HX := Lib.hid hx
  clear hx
  go_enter Try.func18, Try.ntmps18
  go_wp2_with fail
  go_loopw [3, 4] (fun cv iv wr => ∃ (i : Nat), cv = .int .u32 ((crcL (l.take i) : Nat) : Int) ∧ iv = .int .i64 i ∧ i ≤ n ∧ w = wr) (fun _ iv _ => n - (intOf iv).toNat)
  case atStart => exact ⟨0, by simp [crcL], rfl, by omega, rfl⟩
  case round =>
    obtain ⟨i, rfl, rfl, hi, rfl⟩ := hrel
    by_cases h : (i : Int) < n
    · obtain ⟨ad, rfl, hb, hc0⟩ := HX.out.u8_ (k := i) (by omega)
      obtain ⟨x, hx⟩ : ∃ x, x = l.getD i 0 := ⟨_, rfl⟩
      rw [← hx] at hc0
      have hx1 : (x.toNat : Int) < 256 := by have := x.toNat_lt; omega
      have hcl := crcL_lt (l.take i)
      obtain ⟨c', hcc⟩ : ∃ c', c' = crcL (l.take i) := ⟨_, rfl⟩
      rw [← hcc] at hcl
      have hnext : crcL (l.take (i + 1)) = refN x.toNat 8 c' := by
        rw [take_snoc (by omega), crcL_snoc, ← hcc, ← hx, refN_byte]
      have HNX := Lib.hid hnext
      rw [← hcc]
      clear hcc hnext hx
      go_wp2_with fail
      go_loopw [3, 5] (fun cv kv wx => ∃ (k : Nat), cv = .int .u32 ((refN x.toNat k c' : Nat) : Int) ∧ kv = .int .i64 k ∧ k ≤ 8 ∧ w = wx) (fun _ kv _ => 8 - (intOf kv).toNat)
      case atStart => exact ⟨0, rfl, rfl, by omega, rfl⟩
      case round =>
        obtain ⟨k, rfl, rfl, hk, rfl⟩ := hrel
        by_cases hk8 : (k : Int) < 8
        · have hc := refN_lt x.toNat k (c := c') hcl
          obtain ⟨c2, hcc⟩ : ∃ c, c = refN x.toNat k c' := ⟨_, rfl⟩
          rw [← hcc] at hc
          have hnext : refN x.toNat (k + 1) c' = refStep x.toNat k c2 := by rw [hcc]; rfl
          rw [← hcc]
          have HN := Lib.hid hnext
          clear hnext hcc
          have hxd : x.toNat / 2 ^ k < 256 := Nat.lt_of_le_of_lt (Nat.div_le_self _ _) (by omega)
          have f1 := u32_xor_nat (x.toNat / 2 ^ k) c2 (by omega) hc
          have hcast : ((x.toNat / 2 ^ k : Nat) : Int) = (x.toNat : Int) / 2 ^ k := by simp
          rw [hcast] at f1
          have f3 := u32_xor_nat (c2 / 2) 3988292384 (by omega) (by omega)
          have f4 : bits BinOp.xor IntKind.u32 ((c2 : Int) / 2) 3988292384 = ((c2 / 2 ^^^ 3988292384 : Nat) : Int) := f3
          obtain ⟨y, hy⟩ : ∃ y, y = x.toNat / 2 ^ k ^^^ c2 := ⟨_, rfl⟩
          rw [← hy] at f1
          have HY := Lib.hid hy
          clear hy hcast f3 hxd
          by_cases hodd : y % 2 = 1
          · have f2 : ((y : Int) % 2 == 1) = true := by rw [beq_iff_eq]; omega
            have HO := Lib.hid hodd
            clear hodd
            go_wp2_with fail
            go_roundw
            case rel =>
              refine ⟨k + 1, ?_, by simp, by omega, trivial⟩
              rw [HN.out]
              unfold refStep
              rw [if_pos (by rw [← HY.out]; exact HO.out)]
            case measure => simp [intOf]; omega
          · have f2 : ((y : Int) % 2 == 1) = false := by rw [beq_eq_false_iff_ne]; omega
            have HO := Lib.hid hodd
            clear hodd
            go_wp2_with fail
            go_roundw
            case rel =>
              refine ⟨k + 1, ?_, by simp, by omega, trivial⟩
              rw [HN.out]
              unfold refStep
              rw [if_neg (by rw [← HY.out]; exact HO.out)]
              simp
            case measure => simp [intOf]; omega
        · obtain rfl : k = 8 := by omega
          go_wp2_with fail
          go_roundw
          case rel => exact ⟨i + 1, by rw [HNX.out], by simp, by omega, trivial⟩
          case measure => simp [intOf]; omega
    · obtain rfl : i = n := by omega
      have hcl := crcL_lt (l.take i)
      have hf := u32_xor_nat (crcL (l.take i)) 4294967295 hcl (by omega)
      rw [xor_ones hcl] at hf
      have hf2 : bits BinOp.xor IntKind.u32 ((crcL (l.take i) : Nat) : Int) 4294967295 = ((4294967295 - crcL (l.take i) : Nat) : Int) := hf
      clear hf
      go_wp2_with fail
      go_ret
      have e := List.take_of_length_le (show l.length ≤ i by omega)
      rw [e]
      exact ⟨rfl, rfl⟩
end Go.Proofs.Ytcdaioljddaopaa
