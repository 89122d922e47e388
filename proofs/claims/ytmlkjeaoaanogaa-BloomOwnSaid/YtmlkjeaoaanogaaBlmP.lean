/- Filters of keys as plain functions. -/
import Derived.Test.YtmlkjeaoaanogaaLibD
namespace Go.Proofs.Ytmlkjeaoaanogaa

def hashStep (h : Nat) (c : UInt8) : Nat := (h ^^^ c.toNat) * 16777619 % 4294967296
def hashL (l : List UInt8) : Nat := l.foldl hashStep 2166136261
theorem hashL_snoc (l : List UInt8) (c : UInt8) : hashL (l ++ [c]) = hashStep (hashL l) c := by unfold hashL; rw [List.foldl_append, List.foldl_cons, List.foldl_nil]
theorem hash_foldl_lt : ∀ (l : List UInt8) {h : Nat}, h < 4294967296 → l.foldl hashStep h < 4294967296
  | [], _, h => h
  | _ :: l, _, _ => hash_foldl_lt l (Nat.mod_lt _ (by decide))
theorem hashL_lt (l : List UInt8) : hashL l < 4294967296 := hash_foldl_lt l (by decide)
theorem hash_xor_lt {h : Nat} {c : UInt8} (hh : h < 4294967296) : h ^^^ c.toNat < 4294967296 := Nat.xor_lt_two_pow (n := 32) hh (by have := c.toNat_lt; omega)
def turnN (h : Nat) : Nat := h / 131072 + h % 131072 * 32768
def plcs (t n : Nat) : Nat → Nat → List Nat
  | 0, _ => []
  | k + 1, h => h % n :: plcs t n k ((h + t) % 4294967296)
/-- The state behind k places. -/
def hAt (t : Nat) : Nat → Nat → Nat
  | 0, h => h
  | k + 1, h => (hAt t k h + t) % 4294967296
theorem hAt_lt (t : Nat) : ∀ (k h : Nat), h < 4294967296 → hAt t k h < 4294967296
  | 0, _, h => h
  | _ + 1, _, _ => Nat.mod_lt _ (by omega)
theorem hAt_step (t : Nat) : ∀ (k h : Nat), hAt t (k + 1) h = hAt t k ((h + t) % 4294967296)
  | 0, _ => rfl
  | k + 1, h => by
    show (hAt t (k + 1) h + t) % 4294967296 = _
    rw [hAt_step t k h]
    rfl
theorem plcs_snoc (t n : Nat) : ∀ (k h : Nat), plcs t n (k + 1) h = plcs t n k h ++ [hAt t k h % n]
  | 0, h => rfl
  | k + 1, h => by
    rw [plcs, plcs_snoc t n k, ← hAt_step]
    rfl
theorem plcs_length (t n : Nat) : ∀ (k h : Nat), (plcs t n k h).length = k
  | 0, _ => rfl
  | k + 1, h => by simp [plcs, plcs_length t n k]
theorem plcs_lt (t n : Nat) (hn : 0 < n) : ∀ (k h : Nat), ∀ p ∈ plcs t n k h, p < n
  | 0, _, _, hp => by simp [plcs] at hp
  | k + 1, h, p, hp => by
    simp only [plcs, List.mem_cons] at hp
    rcases hp with rfl | hp
    · exact Nat.mod_lt _ hn
    · exact plcs_lt t n hn k _ p hp
def plcsS (t n : Nat) (hn : 0 < n) : Nat → Nat → List { x : Nat // x < n }
  | 0, _ => []
  | k + 1, h => ⟨h % n, Nat.mod_lt _ hn⟩ :: plcsS t n hn k ((h + t) % 4294967296)
theorem plcsS_map (t n : Nat) (hn : 0 < n) : ∀ (k h : Nat), (plcsS t n hn k h).map (·.1) = plcs t n k h
  | 0, _ => rfl
  | k + 1, h => by rw [plcsS, plcs, List.map_cons, plcsS_map t n hn k]
theorem plcsS_snoc (t n : Nat) (hn : 0 < n) : ∀ (k h : Nat), plcsS t n hn (k + 1) h = plcsS t n hn k h ++ [⟨hAt t k h % n, Nat.mod_lt _ hn⟩]
  | 0, h => rfl
  | k + 1, h => by
    have e : hAt t k ((h + t) % 4294967296) = hAt t (k + 1) h := (hAt_step t k h).symm
    rw [plcsS, plcsS_snoc t n hn k]
    simp only [e]
    rfl
theorem plcsS_length (t n : Nat) (hn : 0 < n) (k h : Nat) : (plcsS t n hn k h).length = k := by rw [← List.length_map (f := (·.1)), plcsS_map, plcs_length]
theorem plcsS_prefix (t n : Nat) (hn : 0 < n) (h : Nat) {i k : Nat} (hik : i ≤ k) : plcsS t n hn i h <+: plcsS t n hn k h := by
  induction k with
  | zero => obtain rfl : i = 0 := by omega
            exact List.prefix_refl _
  | succ k ih =>
    rcases Nat.lt_or_ge i (k + 1) with h1 | h1
    · rw [plcsS_snoc]
      exact (ih (by omega)).trans (List.prefix_append _ _)
    · obtain rfl : i = k + 1 := by omega
      exact List.prefix_refl _
/-- The k places of a key among n bits. -/
def placesL (key : List UInt8) (n k : Nat) : List Nat := plcs (turnN (hashL key)) n k (hashL key)
def placesS (key : List UInt8) {n : Nat} (hn : 0 < n) (k : Nat) : List { x : Nat // x < n } := plcsS (turnN (hashL key)) n hn k (hashL key)
theorem placesS_map (key : List UInt8) {n : Nat} (hn : 0 < n) (k : Nat) : (placesS key hn k).map (·.1) = placesL key n k := plcsS_map _ _ _ _ _
theorem placesL_length (key : List UInt8) (n k : Nat) : (placesL key n k).length = k := plcs_length _ _ _ _
theorem placesL_lt (key : List UInt8) {n : Nat} (k : Nat) (hn : 0 < n) : ∀ p ∈ placesL key n k, p < n := plcs_lt _ _ hn _ _
def bitOf (p : Nat) : UInt8 := UInt8.ofNat (2 ^ (p % 8))
def setBit (f : List UInt8) (p : Nat) : List UInt8 := f.set (p / 8) (f.getD (p / 8) 0 ||| bitOf p)
def hasBit (f : List UInt8) (p : Nat) : Bool := (f.getD (p / 8) 0).toNat / 2 ^ (p % 8) % 2 == 1
theorem setBit_length (f : List UInt8) (p : Nat) : (setBit f p).length = f.length := by simp [setBit]
theorem setBits_length (ps : List Nat) : ∀ (f : List UInt8), (ps.foldl setBit f).length = f.length := by
  induction ps with
  | nil => intro f; rfl
  | cons p ps ih => intro f; rw [List.foldl_cons, ih, setBit_length]
def bitsL (size k : Nat) (keys : List (List UInt8)) (f : List UInt8) : List UInt8 := keys.foldl (fun f key => (placesL key (8 * size) k).foldl setBit f) f
theorem bitsL_length (size k : Nat) (keys : List (List UInt8)) : ∀ (f : List UInt8), (bitsL size k keys f).length = f.length := by
  induction keys with
  | nil => intro f; rfl
  | cons p ps ih => intro f; rw [bitsL, List.foldl_cons, ← bitsL, ih, setBits_length]
theorem bitsL_snoc (size k : Nat) (keys : List (List UInt8)) (key : List UInt8) (f : List UInt8) : bitsL size k (keys ++ [key]) f = (placesL key (8 * size) k).foldl setBit (bitsL size k keys f) := by simp [bitsL]
def perN (per : Int) : Nat := (min (max per 1) 24).toNat
def sizeN (n per : Nat) : Nat := (max 64 (n * per) + 7) / 8
def kN (per : Nat) : Nat := max 1 (per * 69 / 100)
theorem perN_le (per : Int) : 1 ≤ perN per ∧ perN per ≤ 24 := by unfold perN; omega
theorem kN_le {per : Nat} (h : per ≤ 24) : 1 ≤ kN per ∧ kN per ≤ 16 := by unfold kN; omega
theorem sizeN_le {n per : Nat} (hn : n ≤ 65536) (hp : per ≤ 24) : 8 ≤ sizeN n per ∧ sizeN n per ≤ 196609 := by
  have : n * per ≤ 65536 * 24 := Nat.mul_le_mul hn hp
  unfold sizeN
  omega
/-- The filter of keys. -/
def buildL (keys : List (List UInt8)) (per : Int) : List UInt8 :=
  (bitsL (sizeN (keys.take 65536).length (perN per)) (kN (perN per)) (keys.take 65536) (List.replicate (sizeN (keys.take 65536).length (perN per) + 1) 0)).set (sizeN (keys.take 65536).length (perN per)) (UInt8.ofNat (kN (perN per)))
/-- May the key be among them? -/
def mayL (f : List UInt8) (key : List UInt8) : Bool :=
  if f.length < 2 ∨ 1048577 ≤ f.length ∨ (f.getD (f.length - 1) 0).toNat < 1 ∨ 16 < (f.getD (f.length - 1) 0).toNat then true
  else (placesL key (8 * (f.length - 1)) (f.getD (f.length - 1) 0).toNat).all (hasBit f)
end Go.Proofs.Ytmlkjeaoaanogaa
