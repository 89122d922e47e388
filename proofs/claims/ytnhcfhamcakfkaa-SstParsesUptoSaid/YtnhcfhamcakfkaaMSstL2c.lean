/-
  Texts joined: BlmP, BlmA, BlmB, BlmD, BlmE, BlmC, BlmF, BlmQ.
-/
import Derived.Test.YtnhcfhamcakfkaaMSstL2a
import Derived.Test.YtnhcfhamcakfkaaRows
import Derived.WalkSpells
import Derived.WalkLawsBesides
import Derived.BigQuiet
import Derived.Laws.BitsAllLaws
import Derived.RangeFuncNested
import Derived.RangeFuncBound
import Derived.RangeFuncBox
import Derived.RangeFuncCalls
import Derived.RangeFuncLeaves
import Derived.Shelf.Abstract
import Derived.Shelf.RegionOpen
import Derived.OwnWalkIn
import Derived.TacticsInMore
import Derived.LoopNIn
import Derived.LoopIn
import Derived.StillTailTactics
import Derived.Lib.SlBytesConst
/- Filters of keys as plain functions. -/
namespace Go.Proofs.Ytnhcfhamcakfkaa

def hashStep (h : Nat) (c : UInt8) : Nat := (h ^^^ c.toNat) * 16777619 % 4294967296
def hashL (l : List UInt8) : Nat := l.foldl hashStep 2166136261
theorem hashL_snoc (l : List UInt8) (c : UInt8) : hashL (l ++ [c]) = hashStep (hashL l) c := by unfold hashL; rw [List.foldl_append, List.foldl_cons, List.foldl_nil]
theorem hash_foldl_lt : ∀ (l : List UInt8) {h : Nat}, h < 4294967296 → l.foldl hashStep h < 4294967296
  | [], _, h => h
  | _ :: l, _, _ => hash_foldl_lt l (Nat.mod_lt _ (by decide))
theorem hashL_lt (l : List UInt8) : hashL l < 4294967296 := hash_foldl_lt l (by decide)
theorem hash_xor_lt {h : Nat} {c : UInt8} (hh : h < 4294967296) : h ^^^ c.toNat < 4294967296 := Nat.xor_lt_two_pow (n := 32) hh (by have := c.toNat_lt; omega)
def turnN (h : Nat) : Nat := h / 131072 + h % 131072 * 32768
def plcs (t n : Nat) : Nat → Nat → List Nat
  | 0, _ => []
  | k + 1, h => h % n :: plcs t n k ((h + t) % 4294967296)
/-- The state behind k places. -/
def hAt (t : Nat) : Nat → Nat → Nat
  | 0, h => h
  | k + 1, h => (hAt t k h + t) % 4294967296
theorem hAt_lt (t : Nat) : ∀ (k h : Nat), h < 4294967296 → hAt t k h < 4294967296
  | 0, _, h => h
  | _ + 1, _, _ => Nat.mod_lt _ (by omega)
theorem hAt_step (t : Nat) : ∀ (k h : Nat), hAt t (k + 1) h = hAt t k ((h + t) % 4294967296)
  | 0, _ => rfl
  | k + 1, h => by
    show (hAt t (k + 1) h + t) % 4294967296 = _
    rw [hAt_step t k h]
    rfl
theorem plcs_snoc (t n : Nat) : ∀ (k h : Nat), plcs t n (k + 1) h = plcs t n k h ++ [hAt t k h % n]
  | 0, h => rfl
  | k + 1, h => by
    rw [plcs, plcs_snoc t n k, ← hAt_step]
    rfl
theorem plcs_length (t n : Nat) : ∀ (k h : Nat), (plcs t n k h).length = k
  | 0, _ => rfl
  | k + 1, h => by simp [plcs, plcs_length t n k]
theorem plcs_lt (t n : Nat) (hn : 0 < n) : ∀ (k h : Nat), ∀ p ∈ plcs t n k h, p < n
  | 0, _, _, hp => by simp [plcs] at hp
  | k + 1, h, p, hp => by
    simp only [plcs, List.mem_cons] at hp
    rcases hp with rfl | hp
    · exact Nat.mod_lt _ hn
    · exact plcs_lt t n hn k _ p hp
def plcsS (t n : Nat) (hn : 0 < n) : Nat → Nat → List { x : Nat // x < n }
  | 0, _ => []
  | k + 1, h => ⟨h % n, Nat.mod_lt _ hn⟩ :: plcsS t n hn k ((h + t) % 4294967296)
theorem plcsS_map (t n : Nat) (hn : 0 < n) : ∀ (k h : Nat), (plcsS t n hn k h).map (·.1) = plcs t n k h
  | 0, _ => rfl
  | k + 1, h => by rw [plcsS, plcs, List.map_cons, plcsS_map t n hn k]
theorem plcsS_snoc (t n : Nat) (hn : 0 < n) : ∀ (k h : Nat), plcsS t n hn (k + 1) h = plcsS t n hn k h ++ [⟨hAt t k h % n, Nat.mod_lt _ hn⟩]
  | 0, h => rfl
  | k + 1, h => by
    have e : hAt t k ((h + t) % 4294967296) = hAt t (k + 1) h := (hAt_step t k h).symm
    rw [plcsS, plcsS_snoc t n hn k]
    simp only [e]
    rfl
theorem plcsS_length (t n : Nat) (hn : 0 < n) (k h : Nat) : (plcsS t n hn k h).length = k := by rw [← List.length_map (f := (·.1)), plcsS_map, plcs_length]
theorem plcsS_prefix (t n : Nat) (hn : 0 < n) (h : Nat) {i k : Nat} (hik : i ≤ k) : plcsS t n hn i h <+: plcsS t n hn k h := by
  induction k with
  | zero => obtain rfl : i = 0 := by omega
            exact List.prefix_refl _
  | succ k ih =>
    rcases Nat.lt_or_ge i (k + 1) with h1 | h1
    · rw [plcsS_snoc]
      exact (ih (by omega)).trans (List.prefix_append _ _)
    · obtain rfl : i = k + 1 := by omega
      exact List.prefix_refl _
/-- The k places of a key among n bits. -/
def placesL (key : List UInt8) (n k : Nat) : List Nat := plcs (turnN (hashL key)) n k (hashL key)
def placesS (key : List UInt8) {n : Nat} (hn : 0 < n) (k : Nat) : List { x : Nat // x < n } := plcsS (turnN (hashL key)) n hn k (hashL key)
theorem placesS_map (key : List UInt8) {n : Nat} (hn : 0 < n) (k : Nat) : (placesS key hn k).map (·.1) = placesL key n k := plcsS_map _ _ _ _ _
theorem placesL_length (key : List UInt8) (n k : Nat) : (placesL key n k).length = k := plcs_length _ _ _ _
theorem placesL_lt (key : List UInt8) {n : Nat} (k : Nat) (hn : 0 < n) : ∀ p ∈ placesL key n k, p < n := plcs_lt _ _ hn _ _
def bitOf (p : Nat) : UInt8 := UInt8.ofNat (2 ^ (p % 8))
def setBit (f : List UInt8) (p : Nat) : List UInt8 := f.set (p / 8) (f.getD (p / 8) 0 ||| bitOf p)
def hasBit (f : List UInt8) (p : Nat) : Bool := (f.getD (p / 8) 0).toNat / 2 ^ (p % 8) % 2 == 1
theorem setBit_length (f : List UInt8) (p : Nat) : (setBit f p).length = f.length := by simp [setBit]
theorem setBits_length (ps : List Nat) : ∀ (f : List UInt8), (ps.foldl setBit f).length = f.length := by
  induction ps with
  | nil => intro f; rfl
  | cons p ps ih => intro f; rw [List.foldl_cons, ih, setBit_length]
def bitsL (size k : Nat) (keys : List (List UInt8)) (f : List UInt8) : List UInt8 := keys.foldl (fun f key => (placesL key (8 * size) k).foldl setBit f) f
theorem bitsL_length (size k : Nat) (keys : List (List UInt8)) : ∀ (f : List UInt8), (bitsL size k keys f).length = f.length := by
  induction keys with
  | nil => intro f; rfl
  | cons p ps ih => intro f; rw [bitsL, List.foldl_cons, ← bitsL, ih, setBits_length]
theorem bitsL_snoc (size k : Nat) (keys : List (List UInt8)) (key : List UInt8) (f : List UInt8) : bitsL size k (keys ++ [key]) f = (placesL key (8 * size) k).foldl setBit (bitsL size k keys f) := by simp [bitsL]
def perN (per : Int) : Nat := (min (max per 1) 24).toNat
def sizeN (n per : Nat) : Nat := (max 64 (n * per) + 7) / 8
def kN (per : Nat) : Nat := max 1 (per * 69 / 100)
theorem perN_le (per : Int) : 1 ≤ perN per ∧ perN per ≤ 24 := by unfold perN; omega
theorem kN_le {per : Nat} (h : per ≤ 24) : 1 ≤ kN per ∧ kN per ≤ 16 := by unfold kN; omega
theorem sizeN_le {n per : Nat} (hn : n ≤ 65536) (hp : per ≤ 24) : 8 ≤ sizeN n per ∧ sizeN n per ≤ 196609 := by
  have : n * per ≤ 65536 * 24 := Nat.mul_le_mul hn hp
  unfold sizeN
  omega
/-- The filter of keys. -/
def buildL (keys : List (List UInt8)) (per : Int) : List UInt8 :=
  (bitsL (sizeN (keys.take 65536).length (perN per)) (kN (perN per)) (keys.take 65536) (List.replicate (sizeN (keys.take 65536).length (perN per) + 1) 0)).set (sizeN (keys.take 65536).length (perN per)) (UInt8.ofNat (kN (perN per)))
/-- May the key be among them? -/
def mayL (f : List UInt8) (key : List UInt8) : Bool :=
  if f.length < 2 ∨ 1048577 ≤ f.length ∨ (f.getD (f.length - 1) 0).toNat < 1 ∨ 16 < (f.getD (f.length - 1) 0).toNat then true
  else (placesL key (8 * (f.length - 1)) (f.getD (f.length - 1) 0).toNat).all (hasBit f)
end Go.Proofs.Ytnhcfhamcakfkaa
/- walks: bloom.Hash, convoyref05.Hash, RotateLeft32, convoyref05.Places -/
namespace Go.Proofs.Ytnhcfhamcakfkaa
open Go.RowKit

theorem elem_u8 : Elem Try.prog 25 5 1 1 := elem_of (by kernel_rfl)
theorem elem_ints : Elem Try.prog 84 3 1 8 := elem_of (by kernel_rfl)
theorem u32_in {n : Nat} (h : n < 4294967296) : IntKind.u32.wrap (n : Int) = (n : Int) := by rw [IntKind.wrap_u32]; omega
theorem or_mul (a b i m : Nat) (hm : m = 2 ^ i) (h : a < m) : a ||| (b * m) = b * m + a := by
  subst hm
  rw [Nat.or_comm, ← Nat.shiftLeft_eq, Nat.shiftLeft_add_eq_or_of_lt h]
theorem take_snoc_s (s : ByteArray) (k : Nat) (h : k < s.size) : s.data.toList.take (k + 1) = s.data.toList.take k ++ [s[k]] := by
  rw [List.take_succ_eq_append_getElem (by simpa using h)]; rfl

set_option maxHeartbeats 1000000 in
theorem hash_any (s : ByteArray) (w : World) (hs : s.size ≤ maxLen) :
    Calls Try.prog 70 #[.string s] w fun e w' => e = .returned (.int .u32 (hashL s.data.toList)) ∧ w = w' := by
  unfold maxLen at hs
  go_enter Try.func70, Try.ntmps70
  go_wp2_with fail
  go_loop [3, 7] (fun hv iv => ∃ (k : Nat), k ≤ s.size ∧ iv = .int .i64 k ∧ hv = .int .u32 ((hashL (s.data.toList.take k) : Nat) : Int)) (fun _ iv => s.size - (intOf iv).toNat)
  case atStart => exact ⟨0, Nat.zero_le _, rfl, rfl⟩
  case round =>
    obtain ⟨k, hk, rfl, rfl⟩ := hrel
    have hlt := hashL_lt (s.data.toList.take k)
    by_cases h : k < s.size
    · have hsn := hashL_snoc (s.data.toList.take k) s[k]
      rw [← take_snoc_s s k h] at hsn
      obtain ⟨x, hx⟩ : ∃ x, x = hashL (s.data.toList.take k) := ⟨_, rfl⟩
      rw [← hx] at hlt hsn ⊢
      have HS := Lib.hid hsn
      clear hsn hx
      have f1 := u32_xor_nat x s[k].toNat hlt (by have := s[k].toNat_lt; omega)
      have hx2 := hash_xor_lt (c := s[k]) hlt
      obtain ⟨y, hy⟩ : ∃ y, y = x ^^^ s[k].toNat := ⟨_, rfl⟩
      rw [← hy] at f1 hx2
      have HY := Lib.hid hy
      clear hy
      have hc : (s[k].toNat : Int) < 256 := by have := s[k].toNat_lt; omega
      have hst : hashStep x s[k] = y * 16777619 % 4294967296 := by unfold hashStep; rw [← HY.out]
      have HST := Lib.hid hst
      clear hst
      go_wp2_with fail
      go_round
      case rel => exact ⟨k + 1, by omega, by go_num, by rw [HS.out, HST.out]; go_num⟩
      case measure => simp [intOf]; omega
    · go_wp2_with fail
      go_ret
      exact ⟨ret_int (by rw [List.take_of_length_le (by simp; omega)]), rfl⟩

theorem i64_xor_small {x c : Nat} (hx : x < 4294967296) (hc : c < 256) : bits BinOp.xor IntKind.i64 (x : Int) (c : Int) = ((x ^^^ c : Nat) : Int) := by
  have hx2 : x ^^^ c < 2 ^ 32 := Nat.xor_lt_two_pow hx (by omega)
  have h1 : (BitVec.ofInt 64 (x : Int)).toNat = x := by rw [BitVec.ofInt_natCast, BitVec.toNat_ofNat]; exact Nat.mod_eq_of_lt (by omega)
  have h2 : (BitVec.ofInt 64 (c : Int)).toNat = c := by rw [BitVec.ofInt_natCast, BitVec.toNat_ofNat]; exact Nat.mod_eq_of_lt (by omega)
  show IntKind.i64.wrap ((BitVec.ofInt 64 (x : Int) ^^^ BitVec.ofInt 64 (c : Int)).toNat : Int) = _
  rw [BitVec.toNat_xor, h1, h2]
  exact IntWalk.i64_in _ (by omega)

set_option maxHeartbeats 1000000 in
theorem refHash_any (s : ByteArray) (w : World) (hs : s.size ≤ maxLen) :
    Calls Try.prog 67 #[.string s] w fun e w' => e = .returned (.int .i64 (hashL s.data.toList)) ∧ w = w' := by
  unfold maxLen at hs
  go_enter Try.func67, Try.ntmps67
  go_wp2_with fail
  go_loop [3, 4] (fun hv iv => ∃ (k : Nat), k ≤ s.size ∧ iv = .int .i64 k ∧ hv = .int .i64 ((hashL (s.data.toList.take k) : Nat) : Int)) (fun _ iv => s.size - (intOf iv).toNat)
  case atStart => exact ⟨0, Nat.zero_le _, rfl, rfl⟩
  case round =>
    obtain ⟨k, hk, rfl, rfl⟩ := hrel
    have hlt := hashL_lt (s.data.toList.take k)
    by_cases h : k < s.size
    · have hsn := hashL_snoc (s.data.toList.take k) s[k]
      rw [← take_snoc_s s k h] at hsn
      obtain ⟨x, hx⟩ : ∃ x, x = hashL (s.data.toList.take k) := ⟨_, rfl⟩
      rw [← hx] at hlt hsn ⊢
      have HS := Lib.hid hsn
      clear hsn hx
      have f1 := i64_xor_small hlt s[k].toNat_lt
      have hx2 := hash_xor_lt (c := s[k]) hlt
      obtain ⟨y, hy⟩ : ∃ y, y = x ^^^ s[k].toNat := ⟨_, rfl⟩
      rw [← hy] at f1 hx2
      have HY := Lib.hid hy
      clear hy
      have hc : (s[k].toNat : Int) < 256 := by have := s[k].toNat_lt; omega
      have hst : hashStep x s[k] = y * 16777619 % 4294967296 := by unfold hashStep; rw [← HY.out]
      have HST := Lib.hid hst
      clear hst
      go_wp2_with fail
      go_round
      case rel => exact ⟨k + 1, by omega, by go_num, by rw [HS.out, HST.out]; go_num⟩
      case measure => simp [intOf]; omega
    · go_wp2_with fail
      go_ret
      exact ⟨ret_int (by rw [List.take_of_length_le (by simp; omega)]), rfl⟩

set_option maxHeartbeats 1000000 in
theorem rotate_any (h : Nat) (w : World) (hh : h < 4294967296) :
    Calls Try.prog 71 #[.int .u32 h, .int .i64 (-17)] w fun e w' => e = .returned (.int .u32 (turnN h)) ∧ w = w' := by
  have f0 : bits BinOp.and IntKind.u64 (IntKind.u64.wrap (-17)) 31 = 15 := by decide +kernel
  go_enter Try.func71, Try.ntmps71
  go_wp2_with fail
  go_ret
  refine ⟨congrArg Ending.returned (congrArg (Value.int IntKind.u32) ?_), rfl⟩
  have e1 : (h : Int) * 32768 % 4294967296 = ((h % 131072 * 32768 : Nat) : Int) := by omega
  have e2 : (h : Int) / 131072 = ((h / 131072 : Nat) : Int) := by omega
  rw [e1, e2, u32_or_nat _ _ (by omega) (by omega), Nat.or_comm, or_mul _ _ 15 32768 (by decide) (by omega)]
  unfold turnN
  omega

/-- A list of places as numbers. -/
def natInts (ps : List Nat) : List Int := ps.map fun (p : Nat) => (p : Int)
theorem natInts_length (ps : List Nat) : (natInts ps).length = ps.length := by simp [natInts]
theorem turnN_lt {h : Nat} (hh : h < 4294967296) : turnN h < 4294967296 := by unfold turnN; omega

set_option maxHeartbeats 1000000 in
theorem refPlaces_any (s : ByteArray) (n k : Nat) (w : World) (hs : s.size ≤ maxLen) (hn : 0 < n) (hn2 : n ≤ 8388608) (hk : k ≤ 255) :
    Calls Try.prog 51 #[.string s, .int .i64 n, .int .i64 k] w fun e w' => ∃ A c, e = .returned (.slice A k c) ∧ Own w' w.heap.size 3 1 A k c (ints (natInts (placesL s.data.toList n k))) ∧ Below w.heap.size w w' := by
  go_enter Try.func51, Try.ntmps51
  go_wp2_with fail
  refine (refHash_any s w hs).mono ?_
  rintro e w' ⟨rfl, rfl⟩
  have hh := hashL_lt s.data.toList
  have htl := turnN_lt hh
  have hpd : placesL s.data.toList n k = plcs (turnN (hashL s.data.toList)) n k (hashL s.data.toList) := rfl
  have HPD := Lib.hid hpd
  clear hpd
  obtain ⟨h0, h0e⟩ : ∃ h0, h0 = hashL s.data.toList := ⟨_, rfl⟩
  rw [← h0e] at hh htl HPD ⊢
  have hti : (h0 : Int) / 131072 + (h0 : Int) % 131072 * 32768 = ((turnN h0 : Nat) : Int) := by unfold turnN; omega
  obtain ⟨t, ht⟩ : ∃ t, t = turnN h0 := ⟨_, rfl⟩
  rw [← ht] at hti htl HPD
  clear h0e ht
  go_wp2_with fail
  clear hti
  go_loopw [7, 9, 10] (fun hv ov iv wr => ∃ (i : Nat) (A : Option Addr) (c : Nat), hv = .int .i64 ((hAt t i h0 : Nat) : Int) ∧ iv = .int .i64 i ∧ i ≤ k ∧ ov = .slice A i c ∧ Own wr w.heap.size 3 1 A i c (ints (natInts (plcs t n i h0))) ∧ Below w.heap.size w wr) (fun _ _ iv _ => k - (intOf iv).toNat)
  case atStart => exact ⟨0, none, 0, rfl, rfl, by omega, rfl, Own.nil_ _ _ _ _, Below.refl _ _⟩
  case round =>
    obtain ⟨i, A, c, rfl, rfl, hi, rfl, ho, hb⟩ := hrel
    have hlt := hAt_lt t i h0 hh
    have hnx : hAt t (i + 1) h0 = (hAt t i h0 + t) % 4294967296 := rfl
    have hsn := plcs_snoc t n i h0
    obtain ⟨x, hx⟩ : ∃ x, x = hAt t i h0 := ⟨_, rfl⟩
    rw [← hx] at hlt hnx hsn ⊢
    have HX := Lib.hid hnx
    have HSN := Lib.hid hsn
    have HO := Lib.hid ho
    have HB := Lib.hid hb
    have hz := hb.size
    clear hx hnx hsn ho hb
    by_cases hik : (i : Int) < (k : Int)
    · have hn0 : ((n : Int) == 0) = false := by rw [beq_eq_false_iff_ne]; omega
      go_wp2_with (at_builtin; refine halt_ ?_)
      refine unhalt ?_
      refine wpList_app elem_ints (HO.out.alloc _) (reads_new (cs := #[_]) wr 3 1 rfl) (by simp [Value.oneCell']) (by omega) (by simp; omega) _ _ rfl rfl rfl rfl ?_
      intro A2 c2 w2 ho hup hat
      have HB2 := Lib.hid (below_app (HB.out.alloc hz _) (by simp; omega) (HO.out.alloc _) (Nat.le_refl _) hup)
      have HO2 := Lib.hid ho
      clear ho hup hat
      go_wp2_with fail
      go_roundw
      case rel => exact ⟨i + 1, A2, c2, by rw [HX.out]; go_num, by go_num, by omega, rfl, by have := HO2.out; rw [HSN.out]; simpa [natInts, ints] using this, HB2.out⟩
      case measure => simp [intOf]; omega
    · obtain rfl : i = k := by omega
      go_wp2_with fail
      go_ret
      exact ⟨A, c, rfl, by rw [HPD.out]; exact HO.out, HB.out⟩
end Go.Proofs.Ytnhcfhamcakfkaa
/- walks: bloom.places and what it answers -/
namespace Go.Proofs.Ytnhcfhamcakfkaa
open Go.RowKit Go.Shelf
attribute [local go_sem] Oper.semAt_some

/-- What 'places' reads between two rounds. -/
def KN (Bn : Nat) (W W' : World) : Prop := W'.cell? ⟨Bn, 0, none⟩ = W.cell? ⟨Bn, 0, none⟩
theorem KN.trans {Bn : Nat} {A B C : World} (h : KN Bn A B) (k : KN Bn B C) : KN Bn A C := Eq.trans k h
theorem KN.put {Bn n : Nat} (hB : Bn < n) (W : World) (l : Nat) (o o' : Obj) (hl : n ≤ l) (_ : W.heap[l]? = some o) (_ : o.isCells = false) (_ : o.isWalk = false) : KN Bn W (W.putObj l o') := by
  have hg : W.grownBy (W.putObj l o') (some l) := grownBy_putObj' W l o'
  rcases Nat.lt_or_ge Bn W.heap.size with h | h
  · exact World.cell?_of_block (a := ⟨Bn, 0, none⟩) (hg.block Bn h (fun e => by injection e with e; omega))
  · have e1 : W.heap[Bn]? = none := Array.getElem?_eq_none h
    have e2 : (W.putObj l o').heap[Bn]? = none := by
      apply Array.getElem?_eq_none
      simpa [World.putObj] using h
    unfold KN
    simp [World.cell?, e1, e2]

set_option maxRecDepth 100000 in
set_option maxHeartbeats 2000000 in
theorem places1_in (m : Nat) (hm : 1 ≤ m) (l Bk Bc Bn : Nat) (s : ByteArray) (hs : s.size ≤ maxLen) (N k : Nat) (hN : 0 < N) (hN2 : N ≤ 8388608) (hk : k ≤ 255) (J Jx : List { x : Nat // x < N } → World → Prop)
    (hY : ∀ pre (x : { x : Nat // x < N }) W, J pre W → pre.length < k → YieldAt Fence.wide (m - 1) Try.prog l #[.int .u32 (x.1 : Int)] W fun e W' =>
      (e = .returned (.bool true) ∧ J (pre ++ [x]) W' ∧ KN Bn W W') ∨ (e = .returned (.bool false) ∧ Jx (pre ++ [x]) W'))
    (W : World) (c1 : W.cell? ⟨Bk, 0, none⟩ = some (.string s)) (c2 : W.cell? ⟨Bc, 0, none⟩ = some (.int .i64 k)) (c3 : W.cell? ⟨Bn, 0, none⟩ = some (.int .u32 N)) (h0 : J [] W) :
    CallsIn Fence.wide m Try.prog 69 #[.func (.yield l) #[] #[], .pointer (some ⟨Bk, 0, none⟩), .pointer (some ⟨Bc, 0, none⟩), .pointer (some ⟨Bn, 0, none⟩)] W fun e W' => (∃ v, e = .returned v) ∧
      ((∃ ys, ys = placesS s.data.toList hN k ∧ J ys W') ∨ (∃ pre, pre <+: placesS s.data.toList hN k ∧ Jx pre W')) := by
  have hh := hashL_lt s.data.toList
  have htl := turnN_lt hh
  have hpd : placesS s.data.toList hN k = plcsS (turnN (hashL s.data.toList)) N hN k (hashL s.data.toList) := rfl
  rw [hpd]
  have hha := hash_any s W hs
  have hro := rotate_any (hashL s.data.toList) W hh
  obtain ⟨h0', h0e⟩ : ∃ h0, h0 = hashL s.data.toList := ⟨_, rfl⟩
  rw [← h0e] at hh htl hha hro ⊢
  obtain ⟨t, ht⟩ : ∃ t, t = turnN h0' := ⟨_, rfl⟩
  rw [← ht] at htl hro ⊢
  have HHA := Lib.hid hha
  have HRO := Lib.hid hro
  clear hpd h0e ht hha hro
  refine callsIn_of_wp Try.func69 rfl trivial ?_ rfl
  simp only [Try.ntmps69, List.size_toArray, List.length_cons, List.length_nil, Nat.reduceAdd, Nat.reduceSub, Array.replicate_succ, Array.replicate_zero, List.push_toArray, List.append_toArray, List.nil_append, List.cons_append]
  gi_wp2_with fail
  refine ⟨trivial, (callsIn_wide.2 HHA.out).mono ?_⟩
  rintro e w' ⟨rfl, rfl⟩
  gi_wp2_with fail
  refine ⟨trivial, (callsIn_wide.2 HRO.out).mono ?_⟩
  rintro e w' ⟨rfl, rfl⟩
  gi_wp2_with fail
  gi_loopw [5, 12] (fun hv iv wr => ∃ i : Nat, i ≤ k ∧ iv = .int .i64 i ∧ hv = .int .u32 ((hAt t i h0' : Nat) : Int) ∧ J (plcsS t N hN i h0') wr ∧ KN Bn W wr)
    (fun _ iv _ => k - (intOf iv).toNat)
  case atStart => exact ⟨0, Nat.zero_le _, rfl, rfl, h0, rfl⟩
  case round =>
    obtain ⟨i, hi, rfl, rfl, hJs, hnx⟩ := hrel
    have hlt := hAt_lt t i h0' hh
    have hnext : hAt t (i + 1) h0' = (hAt t i h0' + t) % 4294967296 := rfl
    have hsn := plcsS_snoc t N hN i h0'
    have hpl := plcsS_length t N hN i h0'
    obtain ⟨x, hx⟩ : ∃ x, x = hAt t i h0' := ⟨_, rfl⟩
    rw [← hx] at hlt hnext hsn ⊢
    have HX := Lib.hid hnext
    have HSN := Lib.hid hsn
    have HJ := Lib.hid hJs
    have HNX := Lib.hid hnx
    clear hnext hsn hx hJs
    by_cases hik : i < k
    · have c4 : wr.cell? ⟨Bn, 0, none⟩ = some (.int .u32 N) := Eq.trans hnx c3
      have hn0 : ((N : Int) == 0) = false := by rw [beq_eq_false_iff_ne]; omega
      obtain ⟨fn, tmps, assign, body, hy, hR⟩ := hY _ ⟨x % N, Nat.mod_lt _ hN⟩ wr HJ.out (by rw [hpl]; exact hik)
      have HR := Lib.hid hR
      dsimp only at hy
      rw [show (((x % N : Nat)) : Int) = (x : Int) % (N : Int) from by omega] at hy
      clear hR hnx hpl
      gi_wp2_with fail
      refine HR.out.mono ?_
      rintro e W3 (⟨rfl, hJ3, hk3⟩ | ⟨rfl, hJx3⟩)
      · have HJ3 := Lib.hid hJ3
        have HK3 := Lib.hid (KN.trans HNX.out hk3)
        clear hJ3 hk3 c4 hy
        gi_wp2_with fail
        go_roundw
        case rel => exact ⟨i + 1, by omega, by go_num, by rw [HX.out]; go_num, by rw [HSN.out]; exact HJ3.out, HK3.out⟩
        case measure => simp [intOf]; omega
      · gi_wp2_with fail
        refine bodyPost_ret (results_none rfl _ _ _) rfl ?_
        refine ⟨⟨_, rfl⟩, .inr ⟨_, ?_, hJx3⟩⟩
        rw [← HSN.out]
        exact plcsS_prefix t N hN h0' (by omega)
    · obtain rfl : i = k := by omega
      gi_wp2_with fail
      go_end0
      exact ⟨⟨_, rfl⟩, .inl ⟨_, rfl, HJ.out⟩⟩

/-- What 'places' answers gives the places, one by one. -/
theorem places_stops (m : Nat) (hm : 1 ≤ m) (Bk Bc Bn : Nat) (w : World) (hbk : Bk < w.heap.size) (hbc : Bc < w.heap.size) (hbn : Bn < w.heap.size) (s : ByteArray) (hs : s.size ≤ maxLen) (N k : Nat) (hN : 0 < N) (hN2 : N ≤ 8388608) (hk : k ≤ 255)
    (c1 : w.cell? ⟨Bk, 0, none⟩ = some (.string s)) (c2 : w.cell? ⟨Bc, 0, none⟩ = some (.int .i64 k)) (c3 : w.cell? ⟨Bn, 0, none⟩ = some (.int .u32 N)) :
    SeqStopsK Fence.wide m Try.prog 69 #[.pointer (some ⟨Bk, 0, none⟩), .pointer (some ⟨Bc, 0, none⟩), .pointer (some ⟨Bn, 0, none⟩)] (fun x : { x : Nat // x < N } => #[Value.int .u32 (x.1 : Int)]) (KN Bn) (fun ys => ys = placesS s.data.toList hN k) (fun pre => pre <+: placesS s.data.toList hN k) k w :=
  fun l J Jx W hW _ _ hY h0 => by
    have hb := hW
    exact places1_in m hm l Bk Bc Bn s hs N k hN hN2 hk J Jx hY W ((hb.cell (p := ⟨Bk, 0, none⟩) hbk).trans c1) ((hb.cell (p := ⟨Bc, 0, none⟩) hbc).trans c2) ((hb.cell (p := ⟨Bn, 0, none⟩) hbn).trans c3) h0

set_option maxHeartbeats 1000000 in
theorem places_any (s : ByteArray) (N k : Int) (w : World) :
    Calls Try.prog 58 #[.string s, .int .u32 N, .int .i64 k] w fun e w' => e = .returned (.func (.func 69) #[] #[.pointer (some ⟨w.heap.size, 0, none⟩), .pointer (some ⟨w.heap.size + 1 + 1, 0, none⟩), .pointer (some ⟨w.heap.size + 1, 0, none⟩)]) ∧
      w' = ((w.alloc (.cells #[.string s] 9)).alloc (.cells #[.int .u32 N] 87)).alloc (.cells #[.int .i64 k] 3) := by
  go_enter Try.func58, Try.ntmps58
  go_wp2_with fail
  go_ret
  exact ⟨rfl, rfl⟩
end Go.Proofs.Ytnhcfhamcakfkaa
/- walk: bloom.Build -/
namespace Go.Proofs.Ytnhcfhamcakfkaa
open Go.RowKit Go.Shelf
attribute [local go_sem] Oper.semAt_some

theorem zero_u8 : (Try.prog.info? 5).bind (·.zero) = some (.int .u8 0) := by kernel_rfl
theorem size_str : (Try.prog.info? 9).map (·.size) = some 1 := by kernel_rfl
def keysL (ks : List ByteArray) : List (List UInt8) := ks.map fun s => s.data.toList

/-- Between two keys. -/
def BI (w : World) (sz k : Nat) (A : Option Addr) (n c : Nat) (ks : List ByteArray) (a : Act) (w' : World) : Prop :=
  ∃ (i : Nat) (rs : List Nat), a.tmps.size = 63 ∧ a.tmps.getD 5 undef = .int .i64 sz ∧ a.tmps.getD 6 undef = .int .i64 k ∧ a.tmps.getD 7 undef = .pointer (some ⟨w.heap.size + 1, 0, none⟩) ∧ a.tmps.getD 33 undef = .slice A n c ∧ a.tmps.getD 34 undef = .int .i64 n ∧ a.tmps.getD 35 undef = .int .i64 i ∧ i ≤ n ∧
    a.defers = marks rs ∧ Marked w.heap.size rs w' ∧ Blk w' (w.heap.size + 1) 25 #[.slice (some ⟨w.heap.size, 0, none⟩) (sz + 1) (sz + 1)] ∧
    Blk w' w.heap.size 5 (u8s (bitsL sz k (keysL (ks.take i)) (List.replicate (sz + 1) 0))).toArray ∧ Below w.heap.size w w'

set_option maxRecDepth 100000 in
set_option maxHeartbeats 4000000 in
theorem build_any (A : Option Addr) (n c : Nat) (ks : List ByteArray) (per : Int) (w : World) (hx : Reads w w.heap.size 1 A n (strs ks)) (hn : n ≤ 65536) (hnc : n ≤ c) (hs : ∀ s ∈ ks, s.size ≤ maxLen) :
    Calls Try.prog 34 #[.slice A n c, .int .i64 per] w fun e w' => ∃ A' c', e = .returned (.slice A' (buildL (keysL ks) per).length c') ∧ Own w' w.heap.size 5 1 A' (buildL (keysL ks) per).length c' (u8s (buildL (keysL ks) per)) ∧ Below w.heap.size w w' := by
  have hlen : ks.length = n := by have := hx.1; rw [strs_length] at this; omega
  have HX := Lib.hid hx
  have HL := Lib.hid hlen
  have HS := Lib.hid hs
  clear hx hlen hs
  have hp := perN_le per
  have hpi : ((perN per : Nat) : Int) = min (max per 1) 24 := by unfold perN; omega
  obtain ⟨P, hP⟩ : ∃ P, P = perN per := ⟨_, rfl⟩
  rw [← hP] at hp hpi
  have hsz := sizeN_le hn hp.2
  have hszd : sizeN n P = (max 64 (n * P) + 7) / 8 := rfl
  have hkk := kN_le hp.2
  have hkd : kN P = max 1 (P * 69 / 100) := rfl
  obtain ⟨sz, hsze⟩ : ∃ sz, sz = sizeN n P := ⟨_, rfl⟩
  obtain ⟨k, hke⟩ : ∃ k, k = kN P := ⟨_, rfl⟩
  rw [← hsze] at hsz hszd
  rw [← hke] at hkk hkd
  have h24 : n * P ≤ 65536 * 24 := Nat.mul_le_mul hn hp.2
  have hm1 : (if per < 1 then (1 : Int) else per) = max per 1 := by omega
  have hm2 : (if (24 : Int) < max per 1 then (24 : Int) else max per 1) = (P : Int) := by omega
  have hm3 : (if (65536 : Int) < (n : Int) then (65536 : Int) else (n : Int)) = (n : Int) := by omega
  obtain ⟨q, hq⟩ : ∃ q, q = n * P := ⟨_, rfl⟩
  have hqi : (n : Int) * (P : Int) = (q : Int) := by rw [hq]; simp
  rw [← hq] at hszd h24
  obtain ⟨m6, hm6⟩ : ∃ m, m = max 64 q := ⟨_, rfl⟩
  have hm4 : (if (64 : Int) < (q : Int) then (q : Int) else 64) = (m6 : Int) := by omega
  have hm68 : m6 ≤ 1572864 := by omega
  obtain ⟨m7, hm7⟩ : ∃ m, m = m6 + 7 := ⟨_, rfl⟩
  have hm5 : (m6 : Int) + 7 = (m7 : Int) := by omega
  have hm8 : (m7 : Int) / 8 = (sz : Int) := by omega
  have hm78 : m7 ≤ 1572871 := by omega
  obtain ⟨p69, hp69⟩ : ∃ m, m = P * 69 := ⟨_, rfl⟩
  have hp1 : (P : Int) * 69 = (p69 : Int) := by omega
  have hp6 : p69 ≤ 1656 := by omega
  obtain ⟨p100, hp100⟩ : ∃ m, m = p69 / 100 := ⟨_, rfl⟩
  have hp2 : (p69 : Int) / 100 = (p100 : Int) := by omega
  have hp3 : (if (1 : Int) < (p100 : Int) then (p100 : Int) else 1) = (k : Int) := by omega
  have hmk := fun w => run_make1 (P := Try.prog) elem_u8 (.int .u8 0) zero_u8 rfl (sz + 1) (by omega) w
  rw [show (((sz + 1 : Nat)) : Int) = (sz : Int) + 1 by omega] at hmk
  have HE := Lib.hid (And.intro hP (And.intro hsze hke))
  have hsz2 : sz ≤ 196609 := hsz.2
  have hsz1 : 8 ≤ sz := hsz.1
  have hk2 : k ≤ 16 := hkk.2
  have hk1 : 1 ≤ k := hkk.1
  have hP2 : P ≤ 24 := hp.2
  have hsh := cut_high (P := Try.prog) (n := n) (hi := n) (c := c) Try.underlying44 size_str A hnc
  clear hP hsze hke hszd hkd hpi hq hm6 hm7 hp69 hp100 hsz hkk hp
  obtain ⟨fd, hfd⟩ : ∃ fd : Nat, 6 ≤ fd := ⟨6, Nat.le_refl _⟩
  refine (callsIn_wide (n := fd)).1 ?_
  refine callsIn_of_wp_marks Try.func34 rfl trivial ?_ rfl
  simp only [Try.ntmps34, List.size_toArray, List.length_cons, List.length_nil, Nat.reduceAdd, Nat.reduceSub, Array.replicate_succ, Array.replicate_zero, List.push_toArray, List.append_toArray, List.nil_append, List.cons_append]
  gi_wp2_with fail
  clear hmk hm1 hm2 hm3 hqi hm4 hm5 hm8 hp1 hp2 hp3 hsh
  refine wpIn_loop (BI w sz k A n c ks) (fun a _ => n - (intOf (a.tmps.getD 35 undef)).toNat) ?_ ?_
  · refine ⟨0, [], rfl, rfl, rfl, rfl, rfl, rfl, rfl, by omega, rfl, Marked.nil _ _, Blk.new_ (by simp) _ _, ?_, ((Below.refl _ w).alloc (Nat.le_refl _) _).alloc (by simp) _⟩
    have h := (Blk.new w 5 (Array.replicate (sz + 1) (Value.int .u8 0))).alloc (.cells #[.slice (some ⟨w.heap.size, 0, none⟩) (sz + 1) (sz + 1)] 25)
    simpa [keysL, bitsL, u8s] using h
  · rintro ⟨⟨tl⟩, ds⟩ wr ⟨i, rs, hsize, e5, e6, e7, e33, e34, e35, hi, hds, hmk, hbx, hbd, hb⟩
    match tl, hsize with
    | x0 :: x1 :: x2 :: x3 :: x4 :: x5 :: x6 :: x7 :: x8 :: x9 :: x10 :: x11 :: x12 :: x13 :: x14 :: x15 :: x16 :: x17 :: x18 :: x19 :: x20 :: x21 :: x22 :: x23 :: x24 :: x25 :: x26 :: x27 :: x28 :: x29 :: x30 :: x31 :: x32 :: x33 :: x34 :: x35 :: x36 :: x37 :: x38 :: x39 :: x40 :: x41 :: x42 :: x43 :: x44 :: x45 :: x46 :: x47 :: x48 :: x49 :: x50 :: x51 :: x52 :: x53 :: x54 :: x55 :: x56 :: x57 :: x58 :: x59 :: x60 :: x61 :: x62 :: [], _ =>
    obtain rfl : x5 = _ := e5
    obtain rfl : x6 = _ := e6
    obtain rfl : x7 = _ := e7
    obtain rfl : x33 = _ := e33
    obtain rfl : x34 = _ := e34
    obtain rfl : x35 = _ := e35
    obtain rfl : ds = _ := hds
    have HMK := Lib.hid hmk
    have HBX := Lib.hid hbx
    have HBD := Lib.hid hbd
    have HB := Lib.hid hb
    clear hmk hbx hbd hb
    by_cases hin : (i : Int) < (n : Int)
    · obtain ⟨ad, rfl, hbk, hcell⟩ := (HX.out.below HB.out).str_ (k := i) (by omega)
      have hi0 : (0 : Int) ≤ (i : Int) := by omega
      obtain ⟨N, hNe⟩ : ∃ N, N = 8 * sz := ⟨_, rfl⟩
      have hN8 : 8 * (sz : Int) = (N : Int) := by omega
      have hN0 : 0 < N := by omega
      have hN2 : N ≤ 8388608 := by omega
      have HNE := Lib.hid hNe
      obtain ⟨s, hse⟩ : ∃ s, s = ks.getD i .empty := ⟨_, rfl⟩
      rw [← hse] at hcell
      have HSE := Lib.hid hse
      clear hNe hse
      have hss : s.size ≤ maxLen := by
        rw [HSE.out]
        have hl : i < ks.length := by rw [HL.out]; omega
        have := HS.out ks[i] (List.getElem_mem hl)
        simpa [List.getD, List.getElem?_eq_getElem hl] using this
      (repeat gi_step)
      refine ⟨trivial, fun _ => (by omega), (callsIn_wide.2 (places_any s N k wr)).mono ?_⟩
      rintro e w' ⟨rfl, hw'⟩
      have bK := ((Blk.new wr 9 #[.string s]).alloc (.cells #[.int .u32 N] 87)).alloc (.cells #[.int .i64 k] 3)
      have bN := (Blk.new_ (w := wr.alloc (.cells #[.string s] 9)) (g := wr.heap.size + 1) (by simp) 87 #[.int .u32 N]).alloc (.cells #[.int .i64 k] 3)
      have bC := Blk.new_ (w := (wr.alloc (.cells #[.string s] 9)).alloc (.cells #[.int .u32 N] 87)) (g := wr.heap.size + 1 + 1) (by simp) 3 #[.int .i64 k]
      have hup := (((Upd.refl (fun _ => False) wr).alloc (.cells #[.string s] 9)).alloc (.cells #[.int .u32 N] 87)).alloc (.cells #[.int .i64 k] 3)
      have hz3 : w'.heap.size = wr.heap.size + 3 := by rw [hw']; simp
      rw [← hw'] at bK bN bC hup
      have c1 := bK.c1.1
      have c2 := bC.c1.1
      have c3 := bN.c1.1
      have HMK3 := Lib.hid (HMK.out.upd hup (fun _ _ h => h))
      have HBX3 := Lib.hid (HBX.out.upd hup (fun h => h))
      have HBD3 := Lib.hid (HBD.out.upd hup (fun h => h))
      have HB3 := Lib.hid (HB.out.trans (hup.none_.mono HB.out.size))
      have hzw := HB.out.size
      have hmd : ∀ D ∈ rs, D < w'.heap.size := fun D hD => (HMK3.out.2 D hD).2.1
      have HMD := Lib.hid hmd
      have hgz := HBX3.out.lt
      have hsr : setBit = setBit := rfl
      clear bK bN bC hup hmd HMK HBX HBD hw' hcell hsr
      gi_wp2_with fail
      refine wpIn_rangeFunc_ownG rfl (by omega) (gf := 69) (lb := #[.pointer (some ⟨wr.heap.size, 0, none⟩), .pointer (some ⟨wr.heap.size + 1 + 1, 0, none⟩), .pointer (some ⟨wr.heap.size + 1, 0, none⟩)]) rfl trivial (enters_of Try.func69 (by kernel_rfl) rfl)
        (places_stops (fd - 1) (by omega) wr.heap.size (wr.heap.size + 1 + 1) (wr.heap.size + 1) w' (by omega) (by omega) (by omega) s hss N k hN0 hN2 (by omega) c1 c2 c3) KN.trans (KN.put (by omega)) (Below.refl _ _) (fun _ => rfl)
        (fun (pre : List { x : Nat // x < N }) W => Blk W (w.heap.size + 1) 25 #[.slice (some ⟨w.heap.size, 0, none⟩) (sz + 1) (sz + 1)] ∧
          Blk W w.heap.size 5 (u8s ((pre.map (·.1)).foldl setBit (bitsL sz k (keysL (ks.take i)) (List.replicate (sz + 1) 0)))).toArray ∧ Marked w.heap.size rs W ∧ Below w.heap.size w W)
        (fun _ _ _ => False)
        (fun _ _ _ _ hs hg hr => ⟨blk_grown hs.1 hg hr, blk_grown hs.2.1 hg hr, marked_grown hs.2.2.1 HMD.out hg (fun r e => (hr r e).1), hs.2.2.2.grown hg hs.2.2.2.size (fun r e => by have := (hr r e).1; omega)⟩)
        (fun _ _ _ _ _ hs _ _ => hs)
        ⟨HBX3.out, HBD3.out, HMK3.out, HB3.out⟩ ?a1 ?assign ?body ?done ?stop
      case assign =>
        intro l x W K hK
        (repeat gi_step)
        exact hK
      case body =>
        rintro l pre ⟨xv, hxv⟩ W ⟨hbx, hbd, hmk, hB⟩ _
        dsimp only at *
        obtain ⟨j, hj⟩ : ∃ j, j = xv / 8 := ⟨_, rfl⟩
        obtain ⟨r, hr⟩ : ∃ r, r = xv % 8 := ⟨_, rfl⟩
        have hjx : (xv : Int) / 8 = (j : Int) := by omega
        have hrx : (xv : Int) % 8 = (r : Int) := by omega
        have hjs : (j : Int) < (sz : Int) + 1 := by have := HNE.out; omega
        have hr8 : r < 8 := by omega
        obtain ⟨cur, hcur⟩ : ∃ cur, cur = (pre.map (·.1)).foldl setBit (bitsL sz k (keysL (ks.take i)) (List.replicate (sz + 1) 0)) := ⟨_, rfl⟩
        have hcl : cur.length = sz + 1 := by rw [hcur, setBits_length, bitsL_length, List.length_replicate]
        rw [← hcur] at hbd
        have cbx := hbx.c1
        have cj := hbd.cell j
        have fj := hbd.frozen j
        obtain ⟨b, hb⟩ : ∃ b, b = cur.getD j 0 := ⟨_, rfl⟩
        rw [List.getElem?_toArray, u8s_get, show cur[j]? = some b by rw [hb, List.getD_eq_getElem?_getD, List.getElem?_eq_getElem (by omega)]; rfl] at cj
        simp only [Option.map_some] at cj
        obtain ⟨cb, fb⟩ := cbx
        have HCUR := Lib.hid (And.intro hcur (And.intro hb (And.intro hj (And.intro hr hcl))))
        have HBXB := Lib.hid hbx
        have HBDB := Lib.hid hbd
        have HMKB := Lib.hid hmk
        clear hcur hb hj hr hcl hbx hbd hmk
        have hb256 : (b.toNat : Int) < 256 := by have := b.toNat_lt; omega
        have hor : bits BinOp.or IntKind.u8 (b.toNat : Int) (2 ^ r % 256) = ((b.toNat ||| (bitOf xv).toNat : Nat) : Int) := by
          have e1 : ((2 : Int) ^ r % 256) = ((2 ^ r % 256 : Nat) : Int) := by simp
          have e2 : (bitOf xv).toNat = 2 ^ r % 256 := by unfold bitOf; rw [← HCUR.out.2.2.2.1]; simp
          rw [e1, u8_or_nat _ _ b.toNat_lt (by omega), e2]
        have hset := HBDB.out.set_ j (.int .u8 ((b.toNat ||| (bitOf xv).toNat : Nat) : Int))
        have hsb : ((u8s cur).toArray.setIfInBounds j (.int .u8 ((b.toNat ||| (bitOf xv).toNat : Nat) : Int))) = (u8s (setBit cur xv)).toArray := by
          unfold setBit
          rw [← HCUR.out.2.2.1, ← HCUR.out.2.1]
          rw [← UInt8.toNat_or]
          simp [u8s, List.map_set]
        rw [hsb] at hset
        have HSET := Lib.hid hset
        have hgB : w.heap.size < W.heap.size := HBDB.out.lt
        clear hset hsb
        have hgx : Blk (W.setCell ⟨w.heap.size, j, none⟩ (.int .u8 ((b.toNat ||| (bitOf xv).toNat : Nat) : Int))) (w.heap.size + 1) 25 #[.slice (some ⟨w.heap.size, 0, none⟩) (sz + 1) (sz + 1)] := HBXB.out.far (by simp) _
        have HGX := Lib.hid hgx
        have hmg : Marked w.heap.size rs (W.setCell ⟨w.heap.size, j, none⟩ (.int .u8 ((b.toNat ||| (bitOf xv).toNat : Nat) : Int))) :=
          HMKB.out.upd (S := fun q => q = w.heap.size) (Upd.setCell (S := fun q => q = w.heap.size) (Upd.refl _ _) (p := ⟨w.heap.size, j, none⟩) (fun _ => rfl) _) (fun D hD e => by
            subst e
            have h1 := (HMKB.out.2 _ hD).2.2
            have h2 := HBDB.out
            unfold Blk at h2
            rw [h2] at h1
            cases h1)
        have HMG := Lib.hid hmg
        clear hgx hmg
        (repeat gi_step)
        refine ⟨(KeepsOthers.setCell _ _ _).from _, ?_, HGX.out, ?_, HMG.out, hB.setCell (p := ⟨w.heap.size, j, none⟩) (Nat.le_refl _) _⟩
        · exact World.cell?_setCell_other W ⟨w.heap.size, j, none⟩ ⟨wr.heap.size + 1, 0, none⟩ _ (fun e => by injection e with e1; omega)
        · rw [List.map_append, List.foldl_append, ← HCUR.out.1]
          exact HSET.out
      case done =>
        rintro D ys W hD rfl ⟨hbx, hbd, hmk, hB⟩ hK
        have hbit : (placesS s.data.toList hN0 k).map (·.1) = placesL s.data.toList (8 * sz) k := by rw [placesS_map, HNE.out]
        rw [hbit, ← bitsL_snoc] at hbd
        have hDW : D < W.heap.size := by
          rcases Nat.lt_or_ge D W.heap.size with h | h
          · exact h
          · rw [Array.getElem?_eq_none h] at hK; cases hK
        have hmk2 : Marked w.heap.size (D :: rs) W := by
          refine ⟨List.nodup_cons.2 ⟨fun h => ?_, hmk.1⟩, fun E hE => ?_⟩
          · have := HMD.out D h
            omega
          · rcases List.mem_cons.1 hE with rfl | hE
            · exact ⟨by omega, hDW, hK⟩
            · exact hmk.2 E hE
        have hkey : keysL (ks.take (i + 1)) = keysL (ks.take i) ++ [s.data.toList] := by
          have hl : i < ks.length := by rw [HL.out]; omega
          rw [HSE.out, List.take_succ_eq_append_getElem hl]
          unfold keysL
          rw [List.map_append]
          simp [List.getD, List.getElem?_eq_getElem hl]
        rw [← hkey] at hbd
        have HM2 := Lib.hid hmk2
        have HB2 := Lib.hid hbd
        have HX2 := Lib.hid hbx
        clear hbit hmk2 hbd hbx hkey hmk hK
        (repeat gi_step)
        refine ⟨⟨i + 1, D :: rs, rfl, rfl, rfl, rfl, rfl, rfl, by simp [Array.getD], by omega, rfl, HM2.out, HX2.out, HB2.out, hB⟩, ?_⟩
        simp [intOf, Array.getD]
        omega
      case stop =>
        rintro D c pre W _ _ h _
        exact h.elim
    · have hie : i = n := by omega
      have htk : ks.take i = ks := List.take_of_length_le (by rw [HL.out]; omega)
      obtain ⟨cur, hcur⟩ : ∃ cur, cur = bitsL sz k (keysL ks) (List.replicate (sz + 1) 0) := ⟨_, rfl⟩
      have hcl : cur.length = sz + 1 := by rw [hcur, bitsL_length, List.length_replicate]
      have hbd := HBD.out
      rw [htk, ← hcur] at hbd
      have hbuild : buildL (keysL ks) per = cur.set sz (UInt8.ofNat k) := by
        have h1 : (keysL ks).take 65536 = keysL ks := List.take_of_length_le (by simp [keysL, HL.out]; omega)
        have h2 : (keysL ks).length = n := by simp [keysL, HL.out]
        unfold buildL
        rw [h1, h2, ← HE.out.1, ← HE.out.2.1, ← HE.out.2.2, hcur]
      have hbl : (buildL (keysL ks) per).length = sz + 1 := by rw [hbuild, List.length_set, hcl]
      have cj := hbd.cell sz
      have fj := hbd.frozen sz
      obtain ⟨b, hb⟩ : ∃ b, cur[sz]? = some b := ⟨_, List.getElem?_eq_getElem (by omega)⟩
      rw [List.getElem?_toArray, u8s_get, hb] at cj
      simp only [Option.map_some] at cj
      obtain ⟨cb, fb⟩ := HBX.out.c1
      have hset := hbd.set_ sz (.int .u8 (k : Int))
      have hsb : ((u8s cur).toArray.setIfInBounds sz (.int .u8 (k : Int))) = (u8s (buildL (keysL ks) per)).toArray := by
        rw [hbuild]
        have : (k : Int) = ((UInt8.ofNat k).toNat : Int) := by simp; omega
        rw [this]
        simp [u8s, List.map_set]
      rw [hsb] at hset
      have hgx : w.heap.size + 1 ≠ w.heap.size := by omega
      have HSET := Lib.hid hset
      have HBXS := Lib.hid (HBX.out.far (p := ⟨w.heap.size, sz, none⟩) hgx (.int .u8 (k : Int)))
      have HMG := Lib.hid (HMK.out.upd (S := fun q => q = w.heap.size) (Upd.setCell (S := fun q => q = w.heap.size) (Upd.refl _ _) (p := ⟨w.heap.size, sz, none⟩) (fun _ => rfl) (.int .u8 (k : Int))) (fun D hD e => by
        subst e
        have h1 := (HMK.out.2 _ hD).2.2
        have h2 := HBD.out
        unfold Blk at h2
        rw [h2] at h1
        cases h1))
      have HBS := Lib.hid (HB.out.setCell (p := ⟨w.heap.size, sz, none⟩) (Nat.le_refl _) (.int .u8 (k : Int)))
      have HBL := Lib.hid hbl
      have hk256 : (k : Int) % 256 = (k : Int) := by omega
      have hne1 : ¬ w.heap.size + 1 = w.heap.size := by omega
      clear hcur hcl hbuild hbl hb hset hsb hbd htk hgx hie
      (repeat gi_step)
      refine leaves_marks w.heap.size rs _ HMG.out (fun w2 hb2 hc2 => ⟨_, results_tmp rfl _ _ _, ?_⟩)
      have hblk : Blk w2 w.heap.size 5 (u8s (buildL (keysL ks) per)).toArray := hc2 _ _ _ _ HSET.out
      have ho := Own.of_blk (base := w.heap.size) (size := 1) (n := sz + 1) (c := sz + 1) hblk (Nat.le_refl _) (Nat.le_refl _) (by unfold maxLen; omega) (by simp [u8s, HBL.out])
      rw [HBL.out]
      refine ⟨_, _, rfl, ?_, HBS.out.trans hb2⟩
      have e : (u8s (buildL (keysL ks) per)).toArray.toList.take ((sz + 1) * 1) = u8s (buildL (keysL ks) per) := by
        rw [List.take_of_length_le (by simp [u8s, HBL.out])]
      rwa [e] at ho
end Go.Proofs.Ytnhcfhamcakfkaa
/- walks: convoyref05.Build, convoyref05.May -/
namespace Go.Proofs.Ytnhcfhamcakfkaa
open Go.RowKit

theorem setBit_or {cur : List UInt8} {p j r : Nat} {b : UInt8} (hj : j = p / 8) (hr : r = p % 8) (hb : b = cur.getD j 0) :
    bits BinOp.or IntKind.u8 (b.toNat : Int) (2 ^ r % 256) = ((b.toNat ||| (bitOf p).toNat : Nat) : Int) ∧ ((u8s cur).toArray.setIfInBounds j (.int .u8 ((b.toNat ||| (bitOf p).toNat : Nat) : Int))) = (u8s (setBit cur p)).toArray := by
  constructor
  · have e1 : ((2 : Int) ^ r % 256) = ((2 ^ r % 256 : Nat) : Int) := by simp
    have e2 : (bitOf p).toNat = 2 ^ r % 256 := by unfold bitOf; rw [← hr]; simp
    rw [e1, u8_or_nat _ _ b.toNat_lt (by omega), e2]
  · unfold setBit
    rw [← hj, ← hb, ← UInt8.toNat_or]
    simp [u8s, List.map_set]
theorem natInts_get (ps : List Nat) {j : Nat} (hj : j < ps.length) : (ints (natInts ps))[j]? = some (.int .i64 ((ps.getD j 0 : Nat) : Int)) := by
  simp [ints, natInts, List.getD, List.getElem?_eq_getElem hj]

set_option maxRecDepth 100000 in
set_option maxHeartbeats 4000000 in
theorem refBuild_any (A : Option Addr) (n c : Nat) (ks : List ByteArray) (per : Int) (w : World) (hx : Reads w w.heap.size 1 A n (strs ks)) (hn : n ≤ 65536) (hs : ∀ s ∈ ks, s.size ≤ maxLen) :
    Calls Try.prog 22 #[.slice A n c, .int .i64 per] w fun e w' => ∃ A' c', e = .returned (.slice A' (buildL (keysL ks) per).length c') ∧ Own w' w.heap.size 5 1 A' (buildL (keysL ks) per).length c' (u8s (buildL (keysL ks) per)) ∧ Below w.heap.size w w' := by
  have hlen : ks.length = n := by have := hx.1; rw [strs_length] at this; omega
  have HX := Lib.hid hx
  have HL := Lib.hid hlen
  have HS := Lib.hid hs
  clear hx hlen hs
  have hp := perN_le per
  have hpi : ((perN per : Nat) : Int) = max (min 24 per) 1 := by unfold perN; omega
  obtain ⟨P, hP⟩ : ∃ P, P = perN per := ⟨_, rfl⟩
  rw [← hP] at hp hpi
  have hsz := sizeN_le hn hp.2
  have hszd : sizeN n P = (max 64 (n * P) + 7) / 8 := rfl
  have hkk := kN_le hp.2
  have hkd : kN P = max 1 (P * 69 / 100) := rfl
  obtain ⟨sz, hsze⟩ : ∃ sz, sz = sizeN n P := ⟨_, rfl⟩
  obtain ⟨k, hke⟩ : ∃ k, k = kN P := ⟨_, rfl⟩
  rw [← hsze] at hsz hszd
  rw [← hke] at hkk hkd
  have h24 : n * P ≤ 65536 * 24 := Nat.mul_le_mul hn hp.2
  have hm1 : (if per < 24 then per else (24 : Int)) = min 24 per := by omega
  have hm2 : (if (1 : Int) < min 24 per then min 24 per else 1) = (P : Int) := by omega
  have hm3 : (if (65536 : Int) < (n : Int) then (65536 : Int) else (n : Int)) = (n : Int) := by omega
  obtain ⟨q, hq⟩ : ∃ q, q = n * P := ⟨_, rfl⟩
  have hqi : (n : Int) * (P : Int) = (q : Int) := by rw [hq]; simp
  rw [← hq] at hszd h24
  obtain ⟨m6, hm6⟩ : ∃ m, m = max 64 q := ⟨_, rfl⟩
  have hm4 : (if (64 : Int) < (q : Int) then (q : Int) else 64) = (m6 : Int) := by omega
  have hm68 : m6 ≤ 1572864 := by omega
  obtain ⟨m7, hm7⟩ : ∃ m, m = m6 + 7 := ⟨_, rfl⟩
  have hm5 : (m6 : Int) + 7 = (m7 : Int) := by omega
  have hm8 : (m7 : Int) / 8 = (sz : Int) := by omega
  have hm78 : m7 ≤ 1572871 := by omega
  obtain ⟨p69, hp69⟩ : ∃ m, m = P * 69 := ⟨_, rfl⟩
  have hp1 : (P : Int) * 69 = (p69 : Int) := by omega
  have hp6 : p69 ≤ 1656 := by omega
  obtain ⟨p100, hp100⟩ : ∃ m, m = p69 / 100 := ⟨_, rfl⟩
  have hp2 : (p69 : Int) / 100 = (p100 : Int) := by omega
  have hp3 : (if (1 : Int) < (p100 : Int) then (p100 : Int) else 1) = (k : Int) := by omega
  have hmk := fun w => run_make1 (P := Try.prog) elem_u8 (.int .u8 0) zero_u8 rfl (sz + 1) (by omega) w
  rw [show (((sz + 1 : Nat)) : Int) = (sz : Int) + 1 by omega] at hmk
  have HE := Lib.hid (And.intro hP (And.intro hsze hke))
  have hsz2 : sz ≤ 196609 := hsz.2
  have hsz1 : 8 ≤ sz := hsz.1
  have hk2 : k ≤ 16 := hkk.2
  have hk1 : 1 ≤ k := hkk.1
  have hP2 : P ≤ 24 := hp.2
  clear hP hsze hke hszd hkd hpi hq hm6 hm7 hp69 hp100 hsz hkk hp
  go_enter Try.func22, Try.ntmps22
  go_wp2_with fail
  clear hmk hm1 hm2 hm3 hqi hm4 hm5 hm8 hp1 hp2 hp3
  go_loopw [9] (fun iv wr => ∃ i : Nat, iv = .int .i64 i ∧ i ≤ n ∧ Blk wr w.heap.size 5 (u8s (bitsL sz k (keysL (ks.take i)) (List.replicate (sz + 1) 0))).toArray ∧ Below w.heap.size w wr) (fun iv _ => n - (intOf iv).toNat)
  case atStart =>
    refine ⟨0, rfl, by omega, ?_, (Below.refl _ w).alloc (Nat.le_refl _) _⟩
    have h := Blk.new w 5 (Array.replicate (sz + 1) (Value.int .u8 0))
    simpa [keysL, bitsL, u8s] using h
  case round =>
    obtain ⟨i, rfl, hi, hbd, hb⟩ := hrel
    have HBD := Lib.hid hbd
    have HB := Lib.hid hb
    clear hbd hb
    by_cases hin : (i : Int) < (n : Int)
    · obtain ⟨ad, rfl, hbk, hcell⟩ := (HX.out.below HB.out).str_ (k := i) (by omega)
      have hi0 : (0 : Int) ≤ (i : Int) := by omega
      obtain ⟨N, hNe⟩ : ∃ N, N = 8 * sz := ⟨_, rfl⟩
      have hN8 : 8 * (sz : Int) = (N : Int) := by omega
      have hN0 : 0 < N := by omega
      have hN2 : N ≤ 8388608 := by omega
      obtain ⟨s, hse⟩ : ∃ s, s = ks.getD i .empty := ⟨_, rfl⟩
      rw [← hse] at hcell
      have hl : i < ks.length := by rw [HL.out]; omega
      have hss : s.size ≤ maxLen := by
        rw [hse]
        have := HS.out ks[i] (List.getElem_mem hl)
        simpa [List.getD, List.getElem?_eq_getElem hl] using this
      have hkey : keysL (ks.take (i + 1)) = keysL (ks.take i) ++ [s.data.toList] := by
        rw [hse, List.take_succ_eq_append_getElem hl]
        unfold keysL
        rw [List.map_append]
        simp [List.getD, List.getElem?_eq_getElem hl]
      have HKEY := Lib.hid hkey
      have HNE := Lib.hid hNe
      clear hNe hse hkey hl
      go_wp2_with fail
      refine (refPlaces_any s N k wr hss hN0 hN2 (by omega)).mono ?_
      rintro e w2 ⟨A2, c2, rfl, ho, hb⟩
      have hpl := placesL_length s.data.toList N k
      have hplt := placesL_lt s.data.toList k hN0
      have hps : placesL s.data.toList N k = placesL s.data.toList (8 * sz) k := by rw [HNE.out]
      obtain ⟨ps, hpse⟩ : ∃ ps, ps = placesL s.data.toList N k := ⟨_, rfl⟩
      rw [← hpse] at ho hpl hplt hps
      obtain ⟨gl, rfl, hg1, hg2, -, -⟩ := ho.some_ (by omega)
      have HO := Lib.hid (ho.mono HB.out.size)
      have HPL := Lib.hid hpl
      have HPT := Lib.hid hplt
      have HPS := Lib.hid hps
      have HBD2 := Lib.hid (HBD.out.below hb HBD.out.lt)
      have hgw : w.heap.size < gl := by have := HBD.out.lt; omega
      have HB2 := Lib.hid (HB.out.trans (hb.mono HB.out.size))
      clear ho hpl hplt hps hb hcell hpse hg1 hg2
      obtain ⟨cur, hcur⟩ : ∃ cur, cur = bitsL sz k (keysL (ks.take i)) (List.replicate (sz + 1) 0) := ⟨_, rfl⟩
      have hcl : cur.length = sz + 1 := by rw [hcur, bitsL_length, List.length_replicate]
      rw [← hcur] at HBD2
      have HCL := Lib.hid hcl
      have HCUR := Lib.hid hcur
      clear hcl hcur
      go_wp2_with fail
      obtain ⟨wo, hwo⟩ : ∃ wo : World, wo = wr := ⟨_, rfl⟩
      clear hwo
      go_loopw [11] (fun jv wq => ∃ j : Nat, jv = .int .i64 j ∧ j ≤ k ∧ Blk wq w.heap.size 5 (u8s ((ps.take j).foldl setBit cur)).toArray ∧ Own wq w.heap.size 3 1 (some ⟨gl, 0, none⟩) k c2 (ints (natInts ps)) ∧ Below w.heap.size w wq) (fun jv _ => k - (intOf jv).toNat)
      case atStart => exact ⟨0, rfl, by omega, HBD2.out, HO.out, HB2.out⟩
      case round =>
        obtain ⟨j, rfl, hj, hbd, ho, hb⟩ := hrel
        obtain ⟨cj, hcj⟩ : ∃ cj, cj = (ps.take j).foldl setBit cur := ⟨_, rfl⟩
        have hcjl : cj.length = sz + 1 := by rw [hcj, setBits_length, HCL.out]
        rw [← hcj] at hbd
        have HJ := Lib.hid hcj
        have HBJ := Lib.hid hbd
        have HOJ := Lib.hid ho
        have HB3 := Lib.hid hb
        clear hcj hbd ho hb
        by_cases hjk : (j : Int) < (k : Int)
        · have hj0 : (0 : Int) ≤ (j : Int) := by omega
          have hjl : j < ps.length := by rw [HPL.out]; omega
          obtain ⟨p, hpe⟩ : ∃ p, p = ps.getD j 0 := ⟨_, rfl⟩
          have hpl2 : p < N := by
            rw [hpe]
            have := HPT.out ps[j] (List.getElem_mem hjl)
            simpa [List.getD, List.getElem?_eq_getElem hjl] using this
          have cl := HOJ.out.cell rfl (natInts_get ps hjl)
          rw [← hpe] at cl
          have htake : ps.take (j + 1) = ps.take j ++ [p] := by
            rw [hpe, List.take_succ_eq_append_getElem hjl]
            simp [List.getD, List.getElem?_eq_getElem hjl]
          have HT := Lib.hid htake
          obtain ⟨a, ha⟩ : ∃ a, a = p / 8 := ⟨_, rfl⟩
          obtain ⟨r, hr⟩ : ∃ r, r = p % 8 := ⟨_, rfl⟩
          have hax : (p : Int) / 8 = (a : Int) := by omega
          have hrx : (p : Int) % 8 = (r : Int) := by omega
          have htm : (p : Int).tmod 8 = (r : Int) := by rw [Int.tmod_eq_emod_of_nonneg (by omega)]; exact hrx
          have has : (a : Int) < (sz : Int) + 1 := by have := HNE.out; omega
          have ha0 : (0 : Int) ≤ (a : Int) := by omega
          have hr0 : (0 : Int) ≤ (r : Int) := by omega
          have hr8 : (r : Int) < 8 := by omega
          have hwa : IntKind.i64.wrap (a : Int) = (a : Int) := IntWalk.i64_in _ (by omega)
          have hwr : IntKind.i64.wrap (r : Int) = (r : Int) := IntWalk.i64_in _ (by omega)
          have hwp : IntKind.i64.wrap (p : Int) = (p : Int) := IntWalk.i64_in _ (by omega)
          obtain ⟨b, hbe⟩ : ∃ b, b = cj.getD a 0 := ⟨_, rfl⟩
          have cb := HBJ.out.cell a
          have fb := HBJ.out.frozen a
          rw [List.getElem?_toArray, u8s_get, show cj[a]? = some b by rw [hbe, List.getD_eq_getElem?_getD, List.getElem?_eq_getElem (by omega)]; rfl] at cb
          simp only [Option.map_some] at cb
          obtain ⟨hor, hsb⟩ := setBit_or (cur := cj) ha hr hbe
          have hset := HBJ.out.set_ a (.int .u8 ((b.toNat ||| (bitOf p).toNat : Nat) : Int))
          rw [hsb] at hset
          have HSET := Lib.hid hset
          have hb256 : (b.toNat : Int) < 256 := by have := b.toNat_lt; omega
          have HOS := Lib.hid (HOJ.out.far (p := ⟨w.heap.size, a, none⟩) (fun e => by injection e with e; dsimp only at e; omega) (.int .u8 ((b.toNat ||| (bitOf p).toNat : Nat) : Int)))
          have HBS := Lib.hid (HB3.out.setCell (p := ⟨w.heap.size, a, none⟩) (Nat.le_refl _) (.int .u8 ((b.toNat ||| (bitOf p).toNat : Nat) : Int)))
          clear hpe htake ha hr hbe hsb hset hjl hcjl
          go_wp2_with fail
          go_still_tail 22, (by kernel_rfl)
          change wpList _ _ _ _ _ wr.drew
          go_wp2_with fail
          go_roundw
          case rel => exact ⟨j + 1, by go_num, by omega, by rw [HT.out, List.foldl_append, ← HJ.out]; exact HSET.out.drew, HOS.out.drew, HBS.out.drew⟩
          case measure => simp [intOf]; omega
        · have hjk2 : j = k := by omega
          have htk : ps.take j = ps := List.take_of_length_le (by rw [HPL.out]; omega)
          have hnext : cj = bitsL sz k (keysL (ks.take (i + 1))) (List.replicate (sz + 1) 0) := by
            rw [HJ.out, htk, HCUR.out, HKEY.out, bitsL_snoc, HPS.out]
          have hbn := HBJ.out
          rw [hnext] at hbn
          have HBN := Lib.hid hbn
          clear hjk2 htk hnext hbn
          go_wp2_with fail
          go_roundw
          case rel => exact ⟨i + 1, by go_num, by omega, HBN.out, HB3.out⟩
          case measure => simp [intOf]; omega
    · have htk : ks.take i = ks := List.take_of_length_le (by rw [HL.out]; omega)
      obtain ⟨cur, hcur⟩ : ∃ cur, cur = bitsL sz k (keysL ks) (List.replicate (sz + 1) 0) := ⟨_, rfl⟩
      have hcl : cur.length = sz + 1 := by rw [hcur, bitsL_length, List.length_replicate]
      have hbd := HBD.out
      rw [htk, ← hcur] at hbd
      have hbuild : buildL (keysL ks) per = cur.set sz (UInt8.ofNat k) := by
        have h1 : (keysL ks).take 65536 = keysL ks := List.take_of_length_le (by simp [keysL, HL.out]; omega)
        have h2 : (keysL ks).length = n := by simp [keysL, HL.out]
        unfold buildL
        rw [h1, h2, ← HE.out.1, ← HE.out.2.1, ← HE.out.2.2, hcur]
      have hbl : (buildL (keysL ks) per).length = sz + 1 := by rw [hbuild, List.length_set, hcl]
      have cj := hbd.cell sz
      have fj := hbd.frozen sz
      obtain ⟨b, hb⟩ : ∃ b, cur[sz]? = some b := ⟨_, List.getElem?_eq_getElem (by omega)⟩
      rw [List.getElem?_toArray, u8s_get, hb] at cj
      simp only [Option.map_some] at cj
      have hset := hbd.set_ sz (.int .u8 (k : Int))
      have hsb : ((u8s cur).toArray.setIfInBounds sz (.int .u8 (k : Int))) = (u8s (buildL (keysL ks) per)).toArray := by
        rw [hbuild]
        have : (k : Int) = ((UInt8.ofNat k).toNat : Int) := by simp; omega
        rw [this]
        simp [u8s, List.map_set]
      rw [hsb] at hset
      have ho := Own.of_blk (base := w.heap.size) (size := 1) (n := sz + 1) (c := sz + 1) hset (Nat.le_refl _) (Nat.le_refl _) (by unfold maxLen; omega) (by simp [u8s, hbl])
      have e : (u8s (buildL (keysL ks) per)).toArray.toList.take ((sz + 1) * 1) = u8s (buildL (keysL ks) per) := by
        rw [List.take_of_length_le (by simp [u8s, hbl])]
      rw [e] at ho
      have HO := Lib.hid ho
      have HBS := Lib.hid (HB.out.setCell (p := ⟨w.heap.size, sz, none⟩) (Nat.le_refl _) (.int .u8 (k : Int)))
      have HBL := Lib.hid hbl
      have hk256 : (k : Int) % 256 = (k : Int) := by omega
      clear hcur hcl hbuild hbl hb hset hsb hbd htk ho e
      go_wp2_with fail
      go_ret
      rw [HBL.out]
      exact ⟨_, _, rfl, HO.out, HBS.out⟩
end Go.Proofs.Ytnhcfhamcakfkaa
/- walk: bloom.May -/
namespace Go.Proofs.Ytnhcfhamcakfkaa
open Go.RowKit Go.Shelf
attribute [local go_sem] Oper.semAt_some

theorem hasBit_byte : ∀ (b : Fin 256) (r : Fin 8), bits BinOp.and IntKind.u8 ((b.val / 2 ^ r.val : Nat) : Int) 1 = ((b.val / 2 ^ r.val % 2 : Nat) : Int) := by decide +kernel

set_option maxRecDepth 100000 in
set_option maxHeartbeats 4000000 in
theorem may_any (A : Option Addr) (n c : Nat) (f : List UInt8) (s : ByteArray) (w : World) (hx : Reads w w.heap.size 1 A n (u8s f)) (hn : n ≤ maxLen) (hs : s.size ≤ maxLen) :
    Calls Try.prog 52 #[.slice A n c, .string s] w fun e w' => e = .returned (.bool (mayL f s.data.toList)) ∧ Below w.heap.size w w' := by
  have hlen := hx.len_
  have HX := Lib.hid hx
  have HL := Lib.hid hlen
  clear hx hlen
  unfold maxLen at hn
  obtain ⟨fd, hfd⟩ : ∃ fd : Nat, 6 ≤ fd := ⟨6, Nat.le_refl _⟩
  refine (callsIn_wide (n := fd)).1 ?_
  refine callsIn_of_wp_marks Try.func52 rfl trivial ?_ rfl
  simp only [Try.ntmps52, List.size_toArray, List.length_cons, List.length_nil, Nat.reduceAdd, Nat.reduceSub, Array.replicate_succ, Array.replicate_zero, List.push_toArray, List.append_toArray, List.nil_append, List.cons_append]
  have hb0 : ∀ v, Below w.heap.size w ((w.alloc (.cells #[.slice A n c] 25)).alloc (.cells #[.bool v] 4)) := fun v => ((Below.refl _ w).alloc (Nat.le_refl _) _).alloc (by simp) _
  have HB0 := Lib.hid hb0
  clear hb0
  by_cases hn2 : n < 2
  · have h1 : (n : Int) - 1 < 1 := by omega
    have hm : mayL f s.data.toList = true := by unfold mayL; rw [if_pos (.inl (by rw [HL.out]; exact hn2))]
    have HM := Lib.hid hm
    clear hm
    gi_wp2_with fail
    exact ⟨.bool true, by simp [results, Try.results52, go_sem], by rw [HM.out], HB0.out true⟩
  · obtain ⟨sz, rfl⟩ : ∃ sz, n = sz + 1 := ⟨n - 1, by omega⟩
    obtain ⟨ad, rfl, hbk, hcell⟩ := HX.out.u8_ (k := sz) (by omega)
    have hmd : mayL f s.data.toList = if sz + 1 < 2 ∨ 1048577 ≤ sz + 1 ∨ (f.getD sz 0).toNat < 1 ∨ 16 < (f.getD sz 0).toNat then true else (placesL s.data.toList (8 * sz) (f.getD sz 0).toNat).all (hasBit f) := by
      unfold mayL
      rw [HL.out]
      rfl
    obtain ⟨kb, hkb⟩ : ∃ kb, kb = f.getD sz 0 := ⟨_, rfl⟩
    rw [← hkb] at hcell hmd
    have hc0 : ∀ v, ((w.alloc (.cells #[.slice (some ad) (sz + 1) c] 25)).alloc (.cells #[.bool v] 4)).cell? (ad.add sz) = some (.int .u8 kb.toNat) := fun v => by
      rw [(HB0.out v).cell (by rw [block_of_add]; exact hbk)]
      exact hcell
    have hc1 := hc0 false
    have HM := Lib.hid hmd
    have hkb256 : (kb.toNat : Int) < 256 := by have := kb.toNat_lt; omega
    clear hmd hkb hc0 hcell
    by_cases hbig : (1048576 : Int) ≤ (sz : Int)
    · have hm : mayL f s.data.toList = true := by rw [HM.out, if_pos (.inr (.inl (by omega)))]
      have HM2 := Lib.hid hm
      clear hm
      gi_wp2_with fail
      exact ⟨.bool true, by simp [results, Try.results52, go_sem], by rw [HM2.out], HB0.out true⟩
    · by_cases hk1 : (kb.toNat : Int) < 1
      · have hm : mayL f s.data.toList = true := by rw [HM.out, if_pos (.inr (.inr (.inl (by omega))))]
        have HM2 := Lib.hid hm
        clear hm
        gi_wp2_with fail
        exact ⟨.bool true, by simp [results, Try.results52, go_sem], by rw [HM2.out], HB0.out true⟩
      · by_cases hk2 : (16 : Int) < (kb.toNat : Int)
        · have hm : mayL f s.data.toList = true := by rw [HM.out, if_pos (.inr (.inr (.inr (by omega))))]
          have HM2 := Lib.hid hm
          clear hm
          gi_wp2_with fail
          exact ⟨.bool true, by simp [results, Try.results52, go_sem], by rw [HM2.out], HB0.out true⟩
        · have hm : mayL f s.data.toList = (placesL s.data.toList (8 * sz) kb.toNat).all (hasBit f) := by rw [HM.out, if_neg (by omega)]
          have HM2 := Lib.hid hm
          clear hm HM
          have hsz1 : ¬ (sz : Int) < 1 := by omega
          obtain ⟨N, hNe⟩ : ∃ N, N = 8 * sz := ⟨_, rfl⟩
          have hN8 : 8 * (sz : Int) = (N : Int) := by omega
          have hN0 : 0 < N := by omega
          have hN2 : N ≤ 8388608 := by omega
          have HNE := Lib.hid hNe
          clear hNe
          gi_wp2_with fail
          refine ⟨trivial, fun _ => (by omega), (callsIn_wide.2 (places_any s N kb.toNat _)).mono ?_⟩
          rintro e w' ⟨rfl, rfl⟩
          have bF := Boxed.new w 25 (.slice (some ad) (sz + 1) c)
          have bR := Boxed.new (w.alloc (.cells #[.slice (some ad) (sz + 1) c] 25)) 4 (.bool false)
          have bF2 := bF.alloc (.cells #[.bool false] 4)
          have hBw := HB0.out false
          obtain ⟨w2, hw2⟩ : ∃ w2, w2 = (w.alloc (.cells #[.slice (some ad) (sz + 1) c] 25)).alloc (.cells #[.bool false] 4) := ⟨_, rfl⟩
          have hz2 : w2.heap.size = w.heap.size + 1 + 1 := by rw [hw2]; simp
          rw [World.size_alloc] at bR
          rw [← hw2] at bF2 bR hBw ⊢
          have bK := Boxed.new w2 9 (.string s)
          have bN := Boxed.new (w2.alloc (.cells #[.string s] 9)) 87 (.int .u32 N)
          have bC := Boxed.new ((w2.alloc (.cells #[.string s] 9)).alloc (.cells #[.int .u32 N] 87)) 3 (.int .i64 (kb.toNat : Int))
          have bK2 := (bK.alloc (.cells #[.int .u32 N] 87)).alloc (.cells #[.int .i64 (kb.toNat : Int)] 3)
          have bN2 := bN.alloc (.cells #[.int .i64 (kb.toNat : Int)] 3)
          have bF3 := ((bF2.alloc (.cells #[.string s] 9)).alloc (.cells #[.int .u32 N] 87)).alloc (.cells #[.int .i64 (kb.toNat : Int)] 3)
          have bR3 := ((bR.alloc (.cells #[.string s] 9)).alloc (.cells #[.int .u32 N] 87)).alloc (.cells #[.int .i64 (kb.toNat : Int)] 3)
          have hB3 := ((hBw.alloc hBw.size (.cells #[.string s] 9)).alloc (by simp; omega) (.cells #[.int .u32 N] 87)).alloc (by simp; omega) (.cells #[.int .i64 (kb.toNat : Int)] 3)
          simp only [World.size_alloc] at bN bC bN2
          obtain ⟨w3, hw3⟩ : ∃ w3, w3 = ((w2.alloc (.cells #[.string s] 9)).alloc (.cells #[.int .u32 N] 87)).alloc (.cells #[.int .i64 (kb.toNat : Int)] 3) := ⟨_, rfl⟩
          have hz3 : w3.heap.size = w.heap.size + 5 := by rw [hw3]; simp [hz2]
          rw [← hw3] at bK2 bN2 bC bF3 bR3 hB3 ⊢
          simp only [hz2] at bK2 bN2 bC ⊢
          clear hw2 hz2 hw3 bK bN bF2 bR bF hBw hc1
          gi_wp2_with fail
          refine wpIn_rangeFunc_ownG rfl (by omega) (gf := 69) (lb := #[.pointer (some ⟨w.heap.size + 1 + 1, 0, none⟩), .pointer (some ⟨w.heap.size + 1 + 1 + 1 + 1, 0, none⟩), .pointer (some ⟨w.heap.size + 1 + 1 + 1, 0, none⟩)]) rfl trivial (enters_of Try.func69 (by kernel_rfl) rfl)
            (places_stops (fd - 1) (by omega) (w.heap.size + 1 + 1) (w.heap.size + 1 + 1 + 1 + 1) (w.heap.size + 1 + 1 + 1) w3 (by omega) (by omega) (by omega) s hs N kb.toNat hN0 hN2 (by omega) bK2.cell bC.cell bN2.cell) KN.trans (KN.put (by omega)) (Below.refl _ _) (fun _ => rfl)
            (fun (pre : List { x : Nat // x < N }) W => ((∀ x ∈ pre, hasBit f x.1 = true) ∧ W.cell? ⟨w.heap.size, 0, none⟩ = some (.slice (some ad) (sz + 1) c) ∧ W.cell? ⟨w.heap.size + 1, 0, none⟩ = some (.bool false) ∧ W.frozen? ⟨w.heap.size + 1, 0, none⟩ = false) ∧ Below w.heap.size w W)
            (fun c (pre : List { x : Nat // x < N }) W => (c = .ret ∧ (∃ x ∈ pre, hasBit f x.1 = false) ∧ W.cell? ⟨w.heap.size + 1, 0, none⟩ = some (.bool false)) ∧ Below w.heap.size w W)
            (OwnFrom.and (Own.from (fun s A B row hs hg hr => ⟨hs.1, cell_kept hs.2.1 hg hr, cell_kept hs.2.2.1 hg hr, (frozen_kept hs.2.2.1 hg hr).trans hs.2.2.2⟩) _) (ownFrom_below (Nat.le_refl _) (by omega)))
            (fun c => OwnFrom.and (Own.from (fun s A B row hs hg hr => ⟨hs.1, hs.2.1, cell_kept hs.2.2 hg hr⟩) _) (ownFrom_below (Nat.le_refl _) (by omega)))
            ⟨⟨by simp, bF3.cell, bR3.cell, bR3.frozen⟩, hB3⟩ ?a1 ?assign ?body ?done ?stop
          case assign =>
            intro l x W K hK
            gi_wp2
            exact hK
          case body =>
            rintro l pre ⟨xv, hxv⟩ W ⟨⟨hp, hcf, hcr, hfr⟩, hB⟩ _
            dsimp only at *
            obtain ⟨j, hj⟩ : ∃ j, j = xv / 8 := ⟨_, rfl⟩
            obtain ⟨r, hr⟩ : ∃ r, r = xv % 8 := ⟨_, rfl⟩
            have hjx : (xv : Int) / 8 = (j : Int) := by omega
            have hrx : (xv : Int) % 8 = (r : Int) := by omega
            have hjs : (j : Int) < (sz : Int) + 1 := by have := HNE.out; omega
            have hr8 : r < 8 := by omega
            obtain ⟨ad', e, hbk', hcj⟩ := HX.out.u8_ (k := j) (by omega)
            injection e with e
            subst e
            have hcw := (hB.cell (p := ad.add j) (by rw [block_of_add]; exact hbk)).trans hcj
            have hbit : hasBit f xv = ((f.getD j 0).toNat / 2 ^ r % 2 == 1) := by unfold hasBit; rw [hj, hr]
            obtain ⟨b, hb⟩ : ∃ b, b = f.getD j 0 := ⟨_, rfl⟩
            rw [← hb] at hcw hcj hbit
            have HBIT := Lib.hid hbit
            have HP := Lib.hid hp
            have hb256 : (b.toNat : Int) < 256 := by have := b.toNat_lt; omega
            clear hbit hp hb hj hr hcj hbk'
            have hand : bits BinOp.and IntKind.u8 ((b.toNat : Int) / 2 ^ r) 1 = ((b.toNat / 2 ^ r % 2 : Nat) : Int) := by
              have h := hasBit_byte ⟨b.toNat, b.toNat_lt⟩ ⟨r, hr8⟩
              dsimp only at h
              rw [← h]
              simp
            obtain ⟨v, hv⟩ : ∃ v, v = b.toNat / 2 ^ r % 2 := ⟨_, rfl⟩
            have hv2 : v < 2 := by omega
            rw [← hv] at hand
            have HV := Lib.hid hv
            clear hv
            by_cases hv0 : v = 0
            · subst hv0
              (repeat gi_step)
              exact ⟨(KeepsOthers.setCell _ _ _).from _, ⟨rfl, ⟨⟨xv, hxv⟩, by simp, by rw [HBIT.out, ← HV.out]; rfl⟩, World.cell?_setCell_same' _ _ _ (by rw [hcr]; rfl)⟩, hB.setCell (p := ⟨w.heap.size + 1, 0, none⟩) (by simp) _⟩
            · obtain rfl : v = 1 := by omega
              (repeat gi_step)
              refine ⟨(KeepsOthers.refl _).from _, rfl, ⟨fun y hy => ?_, hcf, hcr, hfr⟩, hB⟩
              rcases List.mem_append.1 hy with hy | hy
              · exact HP.out y hy
              · rw [List.mem_singleton.1 hy]
                show hasBit f xv = true
                rw [HBIT.out, ← HV.out]
                rfl
          case done =>
            rintro D ys W hD rfl ⟨⟨hp, _, hcr, hfr⟩, hB⟩ hK
            have hall : (placesL s.data.toList (8 * sz) kb.toNat).all (hasBit f) = true := by
              rw [← HNE.out, ← placesS_map _ hN0, List.all_map, List.all_eq_true]
              exact fun x hx => hp x hx
            (repeat gi_step)
            have hK' := (KeepsOthers.setCell W ⟨w.heap.size + 1, 0, none⟩ (.bool true)).same D _ hK rfl
            refine ⟨by simp, .inl ⟨_, _, rfl, run_takeDeferred hK', ?_⟩⟩
            have hc5 := cell_kept (World.cell?_setCell_same' W ⟨w.heap.size + 1, 0, none⟩ (.bool true) (by rw [hcr]; rfl)) (grownBy_putObj' _ D (.deferred none)) (fun r e => by cases e; exact ⟨_, hK', rfl⟩)
            refine ⟨.bool true, ?_, by rw [HM2.out, hall], (hB.setCell (p := ⟨w.heap.size + 1, 0, none⟩) (by simp) _).trans (belowK_b (w := w) (Nat.le_refl _) _ D _ _ (by omega) hK' rfl rfl)⟩
            simp [results, Try.results52, go_sem, hc5]
          case stop =>
            rintro D c pre W hD hpre ⟨⟨rfl, ⟨x, hx, hxb⟩, hcr⟩, hB⟩ hK
            have hall : (placesL s.data.toList (8 * sz) kb.toNat).all (hasBit f) = false := by
              rw [← HNE.out, ← placesS_map _ hN0, List.all_map, List.all_eq_false]
              exact ⟨x, hpre.subset hx, by simp [hxb]⟩
            (repeat gi_step)
            refine ⟨by simp, .inl ⟨_, _, rfl, run_takeDeferred hK, ?_⟩⟩
            have hc5 := cell_kept hcr (grownBy_putObj' _ D (.deferred none)) (fun r e => by cases e; exact ⟨_, hK, rfl⟩)
            refine ⟨.bool false, ?_, by rw [HM2.out, hall], hB.trans (belowK_b (w := w) (Nat.le_refl _) W D _ _ (by omega) hK rfl rfl)⟩
            simp [results, Try.results52, go_sem, hc5]
end Go.Proofs.Ytnhcfhamcakfkaa
/- walks: convoyref05.May, convoylaw05.cut, awake -/
namespace Go.Proofs.Ytnhcfhamcakfkaa
open Go.RowKit

set_option maxRecDepth 100000 in
set_option maxHeartbeats 4000000 in
theorem refMay_any (A : Option Addr) (n c : Nat) (f : List UInt8) (s : ByteArray) (w : World) (hx : Reads w w.heap.size 1 A n (u8s f)) (hn : n ≤ maxLen) (hs : s.size ≤ maxLen) :
    Calls Try.prog 21 #[.slice A n c, .string s] w fun e w' => e = .returned (.bool (mayL f s.data.toList)) ∧ Below w.heap.size w w' := by
  have hlen := hx.len_
  have HX := Lib.hid hx
  have HL := Lib.hid hlen
  clear hx hlen
  unfold maxLen at hn
  by_cases hn2 : n < 2
  · have h1 : (n : Int) - 1 < 1 := by omega
    have hm : mayL f s.data.toList = true := by unfold mayL; rw [if_pos (.inl (by rw [HL.out]; exact hn2))]
    have HM := Lib.hid hm
    clear hm
    go_enter Try.func21, Try.ntmps21
    go_wp2_with fail
    go_ret
    exact ⟨by rw [HM.out]; rfl, Below.refl _ _⟩
  · obtain ⟨sz, rfl⟩ : ∃ sz, n = sz + 1 := ⟨n - 1, by omega⟩
    obtain ⟨ad, rfl, hbk, hcell⟩ := HX.out.u8_ (k := sz) (by omega)
    have hmd : mayL f s.data.toList = if sz + 1 < 2 ∨ 1048577 ≤ sz + 1 ∨ (f.getD sz 0).toNat < 1 ∨ 16 < (f.getD sz 0).toNat then true else (placesL s.data.toList (8 * sz) (f.getD sz 0).toNat).all (hasBit f) := by
      unfold mayL
      rw [HL.out]
      rfl
    obtain ⟨kb, hkb⟩ : ∃ kb, kb = f.getD sz 0 := ⟨_, rfl⟩
    rw [← hkb] at hcell hmd
    have HM := Lib.hid hmd
    have hkb256 : (kb.toNat : Int) < 256 := by have := kb.toNat_lt; omega
    have hsz1 : ¬ (sz : Int) < 1 := by omega
    clear hmd hkb
    by_cases hbig : (1048576 : Int) ≤ (sz : Int)
    · have hm : mayL f s.data.toList = true := by rw [HM.out, if_pos (.inr (.inl (by omega)))]
      have HM2 := Lib.hid hm
      clear hm
      go_enter Try.func21, Try.ntmps21
      go_wp2_with fail
      go_ret
      exact ⟨by rw [HM2.out]; rfl, Below.refl _ _⟩
    · by_cases hk1 : (kb.toNat : Int) < 1
      · have hm : mayL f s.data.toList = true := by rw [HM.out, if_pos (.inr (.inr (.inl (by omega))))]
        have HM2 := Lib.hid hm
        clear hm
        go_enter Try.func21, Try.ntmps21
        go_wp2_with fail
        go_ret
        exact ⟨by rw [HM2.out]; rfl, Below.refl _ _⟩
      · by_cases hk2 : (16 : Int) < (kb.toNat : Int)
        · have hm : mayL f s.data.toList = true := by rw [HM.out, if_pos (.inr (.inr (.inr (by omega))))]
          have HM2 := Lib.hid hm
          clear hm
          go_enter Try.func21, Try.ntmps21
          go_wp2_with fail
          go_ret
          exact ⟨by rw [HM2.out]; rfl, Below.refl _ _⟩
        · have hm : mayL f s.data.toList = (placesL s.data.toList (8 * sz) kb.toNat).all (hasBit f) := by rw [HM.out, if_neg (by omega)]
          have HM2 := Lib.hid hm
          obtain ⟨N, hNe⟩ : ∃ N, N = 8 * sz := ⟨_, rfl⟩
          have hN8 : 8 * (sz : Int) = (N : Int) := by omega
          have hN0 : 0 < N := by omega
          have hN2 : N ≤ 8388608 := by omega
          have HNE := Lib.hid hNe
          obtain ⟨k, hke⟩ : ∃ k, k = kb.toNat := ⟨_, rfl⟩
          rw [← hke] at hcell HM2 hk1 hk2 hkb256
          clear hm HM hNe hke
          go_enter Try.func21, Try.ntmps21
          go_wp2_with fail
          refine (refPlaces_any s N k w hs hN0 hN2 (by omega)).mono ?_
          rintro e w2 ⟨A2, c2, rfl, ho, hb⟩
          have hpl := placesL_length s.data.toList N k
          have hplt := placesL_lt s.data.toList k hN0
          have hps : placesL s.data.toList N k = placesL s.data.toList (8 * sz) k := by rw [HNE.out]
          rw [← hps] at HM2
          obtain ⟨ps, hpse⟩ : ∃ ps, ps = placesL s.data.toList N k := ⟨_, rfl⟩
          rw [← hpse] at ho hpl hplt HM2
          obtain ⟨gl, rfl, -, -, -, -⟩ := ho.some_ (by omega)
          have HO := Lib.hid ho
          have HPL := Lib.hid hpl
          have HPT := Lib.hid hplt
          have HX2 := Lib.hid ((HX.out.below hb).more hb.size)
          have HB := Lib.hid hb
          clear ho hpl hplt hps hb hcell hpse
          go_wp2_with fail
          go_loopw [7] (fun jv wq => ∃ j q : Nat, jv = .int .i64 j ∧ j ≤ k ∧ (ps.take j).all (hasBit f) = true ∧ wq = w2.drewN q) (fun jv _ => k - (intOf jv).toNat)
          case atStart => exact ⟨0, 0, rfl, by omega, by simp, rfl⟩
          case round =>
            obtain ⟨j, qq, rfl, hj, hall, rfl⟩ := hrel
            have HA := Lib.hid hall
            clear hall
            by_cases hjk : (j : Int) < (k : Int)
            · have hj0 : (0 : Int) ≤ (j : Int) := by omega
              have hjl : j < ps.length := by rw [HPL.out]; omega
              obtain ⟨p, hpe⟩ : ∃ p, p = ps.getD j 0 := ⟨_, rfl⟩
              have hpl2 : p < N := by
                rw [hpe]
                have := HPT.out ps[j] (List.getElem_mem hjl)
                simpa [List.getD, List.getElem?_eq_getElem hjl] using this
              have cl := HO.out.cell rfl (natInts_get ps hjl)
              rw [← hpe] at cl
              have htake : ps.take (j + 1) = ps.take j ++ [p] := by
                rw [hpe, List.take_succ_eq_append_getElem hjl]
                simp [List.getD, List.getElem?_eq_getElem hjl]
              have hmem : p ∈ ps := by
                rw [hpe]
                simp [List.getD, List.getElem?_eq_getElem hjl]
              have HT := Lib.hid htake
              have HMEM := Lib.hid hmem
              obtain ⟨a, ha⟩ : ∃ a, a = p / 8 := ⟨_, rfl⟩
              obtain ⟨r, hr⟩ : ∃ r, r = p % 8 := ⟨_, rfl⟩
              have hax : (p : Int) / 8 = (a : Int) := by omega
              have hrx : (p : Int) % 8 = (r : Int) := by omega
              have htm : (p : Int).tmod 8 = (r : Int) := by rw [Int.tmod_eq_emod_of_nonneg (by omega)]; exact hrx
              have has : (a : Int) < (sz : Int) + 1 := by have := HNE.out; omega
              have ha0 : (0 : Int) ≤ (a : Int) := by omega
              have hr0 : (0 : Int) ≤ (r : Int) := by omega
              have hr8 : (r : Int) < 8 := by omega
              have hwa : IntKind.i64.wrap (a : Int) = (a : Int) := IntWalk.i64_in _ (by omega)
              have hwr : IntKind.i64.wrap (r : Int) = (r : Int) := IntWalk.i64_in _ (by omega)
              obtain ⟨ad', e, _, cb⟩ := HX2.out.u8_ (k := a) (by omega)
              injection e with e
              subst e
              have hbit : hasBit f p = ((f.getD a 0).toNat / 2 ^ r % 2 == 1) := by unfold hasBit; rw [ha, hr]
              obtain ⟨b, hbe⟩ : ∃ b, b = (f.getD a 0).toNat := ⟨_, rfl⟩
              have hb256 : (b : Int) < 256 := by have := (f.getD a 0).toNat_lt; omega
              rw [← hbe] at hbit cb
              obtain ⟨v, hv⟩ : ∃ v, v = b / 2 ^ r := ⟨_, rfl⟩
              have hvx : (b : Int) / 2 ^ r = (v : Int) := by rw [hv]; simp
              have hvb : v ≤ b := by rw [hv]; exact Nat.div_le_self _ _
              have hwv : IntKind.i64.wrap (v : Int) = (v : Int) := IntWalk.i64_in _ (by omega)
              rw [← hv] at hbit
              have HBIT := Lib.hid hbit
              clear hpe htake ha hr hbe hbit hjl hmem hv
              by_cases hv2 : v % 2 = 0
              · have hvm : (v : Int).tmod 2 = 0 := by rw [Int.tmod_eq_emod_of_nonneg (by omega)]; omega
                have hvm2 : (v : Int) % 2 = 0 := by omega
                have hf : mayL f s.data.toList = false := by
                  rw [HM2.out, List.all_eq_false]
                  exact ⟨p, HMEM.out, by rw [HBIT.out, hv2]; simp⟩
                have HF := Lib.hid hf
                have HV := Lib.hid hv2
                clear hf hv2
                go_wp2_with fail
                go_quiet (fail)
                go_wp2_with fail
                go_ret
                exact ⟨by rw [HF.out]; rfl, below_drewN (below_drewN HB.out _) _⟩
              · have hv1 : v % 2 = 1 := by omega
                have hvm : (v : Int).tmod 2 = 1 := by rw [Int.tmod_eq_emod_of_nonneg (by omega)]; omega
                have hvm2 : (v : Int) % 2 = 1 := by omega
                have hnx : (ps.take (j + 1)).all (hasBit f) = true := by
                  rw [HT.out, List.all_append, HA.out]
                  simp [HBIT.out, hv1]
                have HNX := Lib.hid hnx
                clear hnx hv1 hv2
                go_wp2_with fail
                go_quiet (fail)
                go_wp2_with fail
                go_roundw
                case rel => exact ⟨j + 1, _, by go_num, by omega, HNX.out, by first | rfl | (rw [World.drewN_drewN])⟩
                case measure => simp [intOf]; omega
            · have htk : ps.take j = ps := List.take_of_length_le (by rw [HPL.out]; omega)
              have ht : mayL f s.data.toList = true := by rw [HM2.out]; have := HA.out; rwa [htk] at this
              have HT := Lib.hid ht
              clear htk ht
              go_wp2_with fail
              go_ret
              exact ⟨by rw [HT.out]; rfl, below_drewN HB.out _⟩
end Go.Proofs.Ytnhcfhamcakfkaa
/- Filters: what they keep and what they tell, as plain lists. -/
namespace Go.Proofs.Ytnhcfhamcakfkaa

theorem hasBit_test (f : List UInt8) (q : Nat) : hasBit f q = (f.getD (q / 8) 0).toNat.testBit (q % 8) := by
  unfold hasBit
  rw [Nat.testBit_eq_decide_div_mod_eq]
  rfl
theorem bitOf_nat (p : Nat) : (bitOf p).toNat = 2 ^ (p % 8) := by
  have h : p % 8 < 8 := Nat.mod_lt _ (by omega)
  unfold bitOf
  have : 2 ^ (p % 8) < 256 := Nat.pow_lt_pow_right (a := 2) (by omega) (m := p % 8) (n := 8) h
  simp
  exact this
theorem hasBit_setBit (f : List UInt8) (p q : Nat) (hp : p / 8 < f.length) : hasBit (setBit f p) q = (hasBit f q || decide (p = q)) := by
  rw [hasBit_test, hasBit_test]
  unfold setBit
  by_cases h : p / 8 = q / 8
  · have e : (f.set (p / 8) (f.getD (p / 8) 0 ||| bitOf p)).getD (q / 8) 0 = f.getD (q / 8) 0 ||| bitOf p := by
      rw [List.getD_eq_getElem?_getD, ← h, List.getElem?_set_self hp]
      rfl
    rw [e, UInt8.toNat_or, Nat.testBit_or, bitOf_nat, Nat.testBit_two_pow]
    congr 1
    rw [Bool.eq_iff_iff]
    simp only [decide_eq_true_eq]
    constructor
    · intro h2; omega
    · rintro rfl; rfl
  · have e : (f.set (p / 8) (f.getD (p / 8) 0 ||| bitOf p)).getD (q / 8) 0 = f.getD (q / 8) 0 := by
      rw [List.getD_eq_getElem?_getD, List.getElem?_set_ne h, ← List.getD_eq_getElem?_getD]
    have hne : p ≠ q := by rintro rfl; exact h rfl
    rw [e]
    simp [hne]
theorem hasBit_bits : ∀ (ps : List Nat) (f : List UInt8) (q : Nat), (∀ p ∈ ps, p / 8 < f.length) → hasBit (ps.foldl setBit f) q = (hasBit f q || ps.contains q)
  | [], f, q, _ => by simp
  | p :: ps, f, q, h => by
    rw [List.foldl_cons, hasBit_bits ps (setBit f p) q (fun p' hp' => by rw [setBit_length]; exact h p' (by simp [hp'])), hasBit_setBit f p q (h p (by simp)), Bool.or_assoc]
    congr 1
    rw [Bool.eq_iff_iff]
    simp only [Bool.or_eq_true, decide_eq_true_eq, List.contains_eq_mem, List.mem_cons]
    constructor
    · rintro (rfl | h)
      · exact .inl rfl
      · exact .inr h
    · rintro (rfl | h)
      · exact .inl rfl
      · exact .inr h
theorem hasBit_keys (sz k : Nat) (hs : 0 < sz) : ∀ (keys : List (List UInt8)) (f : List UInt8) (q : Nat), f.length = sz + 1 → hasBit (bitsL sz k keys f) q = (hasBit f q || keys.any fun key => (placesL key (8 * sz) k).contains q)
  | [], f, q, _ => by simp [bitsL]
  | key :: keys, f, q, hl => by
    have hb : bitsL sz k (key :: keys) f = bitsL sz k keys ((placesL key (8 * sz) k).foldl setBit f) := rfl
    rw [hb, hasBit_keys sz k hs keys _ q (by rw [setBits_length]; exact hl), hasBit_bits _ _ _ (fun p hp => by have := placesL_lt key (n := 8 * sz) k (by omega) p hp; omega), List.any_cons, Bool.or_assoc]
theorem hasBit_zero (m q : Nat) : hasBit (List.replicate m 0) q = false := by
  rw [hasBit_test]
  have : (List.replicate m (0 : UInt8)).getD (q / 8) 0 = 0 := by
    rw [List.getD_eq_getElem?_getD, List.getElem?_replicate]
    split <;> rfl
  rw [this]
  simp
/-- Of the filter of not too many keys May answers by the keys' places. -/
theorem mayL_build (keys : List (List UInt8)) (per : Int) (hn : keys.length ≤ 65536) (key : List UInt8) :
    mayL (buildL keys per) key = (placesL key (8 * sizeN keys.length (perN per)) (kN (perN per))).all fun q => keys.any fun key' => (placesL key' (8 * sizeN keys.length (perN per)) (kN (perN per))).contains q := by
  have hp := perN_le per
  have hsz := sizeN_le hn hp.2
  have hk := kN_le hp.2
  unfold buildL
  rw [List.take_of_length_le hn]
  generalize sizeN keys.length (perN per) = sz at *
  generalize kN (perN per) = k at *
  obtain ⟨f, hf⟩ : ∃ f, f = bitsL sz k keys (List.replicate (sz + 1) 0) := ⟨_, rfl⟩
  have hl : f.length = sz + 1 := by rw [hf, bitsL_length, List.length_replicate]
  rw [← hf]
  have hlast : (f.set sz (UInt8.ofNat k)).getD sz 0 = UInt8.ofNat k := by rw [List.getD_eq_getElem?_getD, List.getElem?_set_self (by omega)]; rfl
  have hkn : (UInt8.ofNat k).toNat = k := by simp; omega
  unfold mayL
  rw [List.length_set, hl, show sz + 1 - 1 = sz by omega, hlast, hkn, if_neg (by omega)]
  rw [Bool.eq_iff_iff, List.all_eq_true, List.all_eq_true]
  refine forall_congr' fun q => forall_congr' fun hq => ?_
  have hq8 := placesL_lt key (n := 8 * sz) k (by omega) q hq
  have e : hasBit (f.set sz (UInt8.ofNat k)) q = hasBit f q := by
    unfold hasBit
    rw [List.getD_eq_getElem?_getD, List.getElem?_set_ne (by omega), ← List.getD_eq_getElem?_getD]
  rw [e, hf, hasBit_keys sz k (by omega) keys _ q (by simp), hasBit_zero, Bool.false_or]
theorem buildL_length (keys : List (List UInt8)) (per : Int) (hn : keys.length ≤ 65536) : (buildL keys per).length = sizeN keys.length (perN per) + 1 := by
  unfold buildL
  rw [List.length_set, bitsL_length, List.length_replicate, List.take_of_length_le hn]
theorem may_keeps (keys : List (List UInt8)) (per : Int) (hn : keys.length ≤ 65536) (key : List UInt8) (hk : key ∈ keys) : mayL (buildL keys per) key = true := by
  rw [mayL_build keys per hn, List.all_eq_true]
  intro q hq
  rw [List.any_eq_true]
  exact ⟨key, hk, by simpa using hq⟩
theorem may_none (per : Int) (key : List UInt8) : mayL (buildL [] per) key = false := by
  rw [mayL_build [] per (by simp)]
  have hk := kN_le (perN_le per).2
  generalize kN (perN per) = k at *
  obtain ⟨k', rfl⟩ : ∃ k', k = k' + 1 := ⟨k - 1, by omega⟩
  simp [placesL, plcs]
theorem may_more (few all : List (List UInt8)) (per : Int) (hn : few.length ≤ 65536) (hm : all.length ≤ 65536) (hs : sizeN few.length (perN per) = sizeN all.length (perN per)) (hsub : ∀ k ∈ few, k ∈ all) (key : List UInt8)
    (h : mayL (buildL few per) key = true) : mayL (buildL all per) key = true := by
  rw [mayL_build few per hn, hs, List.all_eq_true] at h
  rw [mayL_build all per hm, List.all_eq_true]
  intro q hq
  have := h q hq
  rw [List.any_eq_true] at this ⊢
  obtain ⟨k, h1, h2⟩ := this
  exact ⟨k, hsub k h1, h2⟩
end Go.Proofs.Ytnhcfhamcakfkaa
