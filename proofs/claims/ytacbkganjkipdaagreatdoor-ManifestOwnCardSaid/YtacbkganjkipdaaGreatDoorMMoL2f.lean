/-
  Texts joined: WlN.
-/
import Derived.Test.YtacbkganjkipdaaGreatDoorMMoL2b
import Derived.Test.YtacbkganjkipdaaGreatDoorMMoL2c
import Derived.Test.YtacbkganjkipdaaGreatDoorMMoL2e
/- the log, plain -/
namespace Go.Proofs.YtacbkganjkipdaaGreatDoor
open Go.Lib
/-- The number of a segment's name; 0: it is none. -/
def numF (q : List UInt8) : Nat := (q.drop 4).foldl (fun n c => 10 * n + (c.toNat - 48)) 0
def numP (q : List UInt8) : Nat := if 1 ≤ numF q ∧ numF q ≤ 999999 ∧ nameP (numF q) = q then numF q else 0
theorem fold_dgs : ∀ (k n m : Nat), n < 10 ^ k → (dgs k n).foldl (fun n c => 10 * n + (c.toNat - 48)) m = 10 ^ k * m + n
  | 0, n, m, h => by
    obtain rfl : n = 0 := by simpa using h
    simp [dgs]
  | k + 1, n, m, h => by
    rw [dgs, List.foldl_append, fold_dgs k (n / 10) m (by rw [Nat.pow_succ] at h; omega), List.foldl_cons, List.foldl_nil]
    have hd : (UInt8.ofNat (48 + n % 10)).toNat = 48 + n % 10 := by simp; omega
    rw [hd, Nat.pow_succ, Nat.mul_add, ← Nat.mul_assoc, Nat.mul_comm 10]
    omega
/-- The segments that are there. -/
def segsN (l : List (List UInt8)) : List Nat := (l.map numP).filter fun n => decide (n ≠ 0)
def segsP (P : DrP) : List Nat := segsN (P.fs.map FiP.nm)
/-- A log: its segment, whether it is dead. -/
structure LgP where
  seg : Nat
  dead : Bool
  deriving DecidableEq, Inhabited
def segA (s n : Nat) : Nat := max s (n + 1)
def DrP.seg (P : DrP) (fr : Nat) : Nat := (segsP P).foldl segA fr
end Go.Proofs.YtacbkganjkipdaaGreatDoor
