/- walks: bloom.Hash, convoyref05.Hash, RotateLeft32, convoyref05.Places -/
import Derived.Test.YtmlkjeaoaanogaaRows
import Derived.Test.YtmlkjeaoaanogaaBlmP
import Derived.Test.YtmlkjeaoaanogaaLibL
import Derived.Test.YtmlkjeaoaanogaaLibI
import Derived.WalkSpells
import Derived.WalkLawsBesides
import Derived.BigQuiet
import Derived.Laws.BitsAllLaws
namespace Go.Proofs.Ytmlkjeaoaanogaa
open Go.RowKit

theorem elem_u8 : Elem Try.prog 25 5 1 1 := elem_of (by kernel_rfl)
theorem elem_ints : Elem Try.prog 36 3 1 8 := elem_of (by kernel_rfl)
theorem u32_in {n : Nat} (h : n < 4294967296) : IntKind.u32.wrap (n : Int) = (n : Int) := by rw [IntKind.wrap_u32]; omega
theorem or_mul (a b i m : Nat) (hm : m = 2 ^ i) (h : a < m) : a ||| (b * m) = b * m + a := by
  subst hm
  rw [Nat.or_comm, ← Nat.shiftLeft_eq, Nat.shiftLeft_add_eq_or_of_lt h]
theorem take_snoc_s (s : ByteArray) (k : Nat) (h : k < s.size) : s.data.toList.take (k + 1) = s.data.toList.take k ++ [s[k]] := by
  rw [List.take_succ_eq_append_getElem (by simpa using h)]; rfl

set_option maxHeartbeats 1000000 in
theorem hash_any (s : ByteArray) (w : World) (hs : s.size ≤ maxLen) :
    Calls Try.prog 12 #[.string s] w fun e w' => e = .returned (.int .u32 (hashL s.data.toList)) ∧ w = w' := by
  unfold maxLen at hs
  go_enter Try.func12, Try.ntmps12
  go_wp2_with fail
  go_loop [3, 7] (fun hv iv => ∃ (k : Nat), k ≤ s.size ∧ iv = .int .i64 k ∧ hv = .int .u32 ((hashL (s.data.toList.take k) : Nat) : Int)) (fun _ iv => s.size - (intOf iv).toNat)
  case atStart => exact ⟨0, Nat.zero_le _, rfl, rfl⟩
  case round =>
    obtain ⟨k, hk, rfl, rfl⟩ := hrel
    have hlt := hashL_lt (s.data.toList.take k)
    by_cases h : k < s.size
    · have hsn := hashL_snoc (s.data.toList.take k) s[k]
      rw [← take_snoc_s s k h] at hsn
      obtain ⟨x, hx⟩ : ∃ x, x = hashL (s.data.toList.take k) := ⟨_, rfl⟩
      rw [← hx] at hlt hsn ⊢
      have HS := Lib.hid hsn
      clear hsn hx
      have f1 := u32_xor_nat x s[k].toNat hlt (by have := s[k].toNat_lt; omega)
      have hx2 := hash_xor_lt (c := s[k]) hlt
      obtain ⟨y, hy⟩ : ∃ y, y = x ^^^ s[k].toNat := ⟨_, rfl⟩
      rw [← hy] at f1 hx2
      have HY := Lib.hid hy
      clear hy
      have hc : (s[k].toNat : Int) < 256 := by have := s[k].toNat_lt; omega
      have hst : hashStep x s[k] = y * 16777619 % 4294967296 := by unfold hashStep; rw [← HY.out]
      have HST := Lib.hid hst
      clear hst
      go_wp2_with fail
      go_round
      case rel => exact ⟨k + 1, by omega, by go_num, by rw [HS.out, HST.out]; go_num⟩
      case measure => simp [intOf]; omega
    · go_wp2_with fail
      go_ret
      exact ⟨ret_int (by rw [List.take_of_length_le (by simp; omega)]), rfl⟩

theorem i64_xor_small {x c : Nat} (hx : x < 4294967296) (hc : c < 256) : bits BinOp.xor IntKind.i64 (x : Int) (c : Int) = ((x ^^^ c : Nat) : Int) := by
  have hx2 : x ^^^ c < 2 ^ 32 := Nat.xor_lt_two_pow hx (by omega)
  have h1 : (BitVec.ofInt 64 (x : Int)).toNat = x := by rw [BitVec.ofInt_natCast, BitVec.toNat_ofNat]; exact Nat.mod_eq_of_lt (by omega)
  have h2 : (BitVec.ofInt 64 (c : Int)).toNat = c := by rw [BitVec.ofInt_natCast, BitVec.toNat_ofNat]; exact Nat.mod_eq_of_lt (by omega)
  show IntKind.i64.wrap ((BitVec.ofInt 64 (x : Int) ^^^ BitVec.ofInt 64 (c : Int)).toNat : Int) = _
  rw [BitVec.toNat_xor, h1, h2]
  exact IntWalk.i64_in _ (by omega)

set_option maxHeartbeats 1000000 in
theorem refHash_any (s : ByteArray) (w : World) (hs : s.size ≤ maxLen) :
    Calls Try.prog 13 #[.string s] w fun e w' => e = .returned (.int .i64 (hashL s.data.toList)) ∧ w = w' := by
  unfold maxLen at hs
  go_enter Try.func13, Try.ntmps13
  go_wp2_with fail
  go_loop [3, 4] (fun hv iv => ∃ (k : Nat), k ≤ s.size ∧ iv = .int .i64 k ∧ hv = .int .i64 ((hashL (s.data.toList.take k) : Nat) : Int)) (fun _ iv => s.size - (intOf iv).toNat)
  case atStart => exact ⟨0, Nat.zero_le _, rfl, rfl⟩
  case round =>
    obtain ⟨k, hk, rfl, rfl⟩ := hrel
    have hlt := hashL_lt (s.data.toList.take k)
    by_cases h : k < s.size
    · have hsn := hashL_snoc (s.data.toList.take k) s[k]
      rw [← take_snoc_s s k h] at hsn
      obtain ⟨x, hx⟩ : ∃ x, x = hashL (s.data.toList.take k) := ⟨_, rfl⟩
      rw [← hx] at hlt hsn ⊢
      have HS := Lib.hid hsn
      clear hsn hx
      have f1 := i64_xor_small hlt s[k].toNat_lt
      have hx2 := hash_xor_lt (c := s[k]) hlt
      obtain ⟨y, hy⟩ : ∃ y, y = x ^^^ s[k].toNat := ⟨_, rfl⟩
      rw [← hy] at f1 hx2
      have HY := Lib.hid hy
      clear hy
      have hc : (s[k].toNat : Int) < 256 := by have := s[k].toNat_lt; omega
      have hst : hashStep x s[k] = y * 16777619 % 4294967296 := by unfold hashStep; rw [← HY.out]
      have HST := Lib.hid hst
      clear hst
      go_wp2_with fail
      go_round
      case rel => exact ⟨k + 1, by omega, by go_num, by rw [HS.out, HST.out]; go_num⟩
      case measure => simp [intOf]; omega
    · go_wp2_with fail
      go_ret
      exact ⟨ret_int (by rw [List.take_of_length_le (by simp; omega)]), rfl⟩

set_option maxHeartbeats 1000000 in
theorem rotate_any (h : Nat) (w : World) (hh : h < 4294967296) :
    Calls Try.prog 19 #[.int .u32 h, .int .i64 (-17)] w fun e w' => e = .returned (.int .u32 (turnN h)) ∧ w = w' := by
  have f0 : bits BinOp.and IntKind.u64 (IntKind.u64.wrap (-17)) 31 = 15 := by decide +kernel
  go_enter Try.func19, Try.ntmps19
  go_wp2_with fail
  go_ret
  refine ⟨congrArg Ending.returned (congrArg (Value.int IntKind.u32) ?_), rfl⟩
  have e1 : (h : Int) * 32768 % 4294967296 = ((h % 131072 * 32768 : Nat) : Int) := by omega
  have e2 : (h : Int) / 131072 = ((h / 131072 : Nat) : Int) := by omega
  rw [e1, e2, u32_or_nat _ _ (by omega) (by omega), Nat.or_comm, or_mul _ _ 15 32768 (by decide) (by omega)]
  unfold turnN
  omega

/-- A list of places as numbers. -/
def natInts (ps : List Nat) : List Int := ps.map fun (p : Nat) => (p : Int)
theorem natInts_length (ps : List Nat) : (natInts ps).length = ps.length := by simp [natInts]
theorem turnN_lt {h : Nat} (hh : h < 4294967296) : turnN h < 4294967296 := by unfold turnN; omega

set_option maxHeartbeats 1000000 in
theorem refPlaces_any (s : ByteArray) (n k : Nat) (w : World) (hs : s.size ≤ maxLen) (hn : 0 < n) (hn2 : n ≤ 8388608) (hk : k ≤ 255) :
    Calls Try.prog 17 #[.string s, .int .i64 n, .int .i64 k] w fun e w' => ∃ A c, e = .returned (.slice A k c) ∧ Own w' w.heap.size 3 1 A k c (ints (natInts (placesL s.data.toList n k))) ∧ Below w.heap.size w w' := by
  go_enter Try.func17, Try.ntmps17
  go_wp2_with fail
  refine (refHash_any s w hs).mono ?_
  rintro e w' ⟨rfl, rfl⟩
  have hh := hashL_lt s.data.toList
  have htl := turnN_lt hh
  have hpd : placesL s.data.toList n k = plcs (turnN (hashL s.data.toList)) n k (hashL s.data.toList) := rfl
  have HPD := Lib.hid hpd
  clear hpd
  obtain ⟨h0, h0e⟩ : ∃ h0, h0 = hashL s.data.toList := ⟨_, rfl⟩
  rw [← h0e] at hh htl HPD ⊢
  have hti : (h0 : Int) / 131072 + (h0 : Int) % 131072 * 32768 = ((turnN h0 : Nat) : Int) := by unfold turnN; omega
  obtain ⟨t, ht⟩ : ∃ t, t = turnN h0 := ⟨_, rfl⟩
  rw [← ht] at hti htl HPD
  clear h0e ht
  go_wp2_with fail
  clear hti
  go_loopw [7, 9, 10] (fun hv ov iv wr => ∃ (i : Nat) (A : Option Addr) (c : Nat), hv = .int .i64 ((hAt t i h0 : Nat) : Int) ∧ iv = .int .i64 i ∧ i ≤ k ∧ ov = .slice A i c ∧ Own wr w.heap.size 3 1 A i c (ints (natInts (plcs t n i h0))) ∧ Below w.heap.size w wr) (fun _ _ iv _ => k - (intOf iv).toNat)
  case atStart => exact ⟨0, none, 0, rfl, rfl, by omega, rfl, Own.nil_ _ _ _ _, Below.refl _ _⟩
  case round =>
    obtain ⟨i, A, c, rfl, rfl, hi, rfl, ho, hb⟩ := hrel
    have hlt := hAt_lt t i h0 hh
    have hnx : hAt t (i + 1) h0 = (hAt t i h0 + t) % 4294967296 := rfl
    have hsn := plcs_snoc t n i h0
    obtain ⟨x, hx⟩ : ∃ x, x = hAt t i h0 := ⟨_, rfl⟩
    rw [← hx] at hlt hnx hsn ⊢
    have HX := Lib.hid hnx
    have HSN := Lib.hid hsn
    have HO := Lib.hid ho
    have HB := Lib.hid hb
    have hz := hb.size
    clear hx hnx hsn ho hb
    by_cases hik : (i : Int) < (k : Int)
    · have hn0 : ((n : Int) == 0) = false := by rw [beq_eq_false_iff_ne]; omega
      go_wp2_with (at_builtin; refine halt_ ?_)
      refine unhalt ?_
      refine wpList_app elem_ints (HO.out.alloc _) (reads_new (cs := #[_]) wr 3 1 rfl) (by simp [Value.oneCell']) (by omega) (by simp; omega) _ _ rfl rfl rfl rfl ?_
      intro A2 c2 w2 ho hup hat
      have HB2 := Lib.hid (below_app (HB.out.alloc hz _) (by simp; omega) (HO.out.alloc _) (Nat.le_refl _) hup)
      have HO2 := Lib.hid ho
      clear ho hup hat
      go_wp2_with fail
      go_roundw
      case rel => exact ⟨i + 1, A2, c2, by rw [HX.out]; go_num, by go_num, by omega, rfl, by have := HO2.out; rw [HSN.out]; simpa [natInts, ints] using this, HB2.out⟩
      case measure => simp [intOf]; omega
    · obtain rfl : i = k := by omega
      go_wp2_with fail
      go_ret
      exact ⟨A, c, rfl, by rw [HPD.out]; exact HO.out, HB.out⟩
end Go.Proofs.Ytmlkjeaoaanogaa
