/-
  Texts joined: WlN.
-/
import Derived.Test.YtacbkganjkipdaaGreatDoorMMpL4b
import Derived.Test.YtacbkganjkipdaaGreatDoorMMpL4c
import Derived.Test.YtacbkganjkipdaaGreatDoorMMpL4e
namespace Go.Proofs.YtacbkganjkipdaaGreatDoor
open Go.Lib
theorem fold_dgs : ∀ (k n m : Nat), n < 10 ^ k → (dgs k n).foldl (fun n c => 10 * n + (c.toNat - 48)) m = 10 ^ k * m + n
 | 0, n, m, h => by
  obtain rfl : n = 0 := by simpa using h
  simp [dgs]
 | k + 1, n, m, h => by
  rw [dgs, List.foldl_append, fold_dgs k (n / 10) m (by rw [Nat.pow_succ] at h; omega), List.foldl_cons, List.foldl_nil]
  have hd : (UInt8.ofNat (48 + n % 10)).toNat = 48 + n % 10 := by simp; omega
  rw [hd, Nat.pow_succ, Nat.mul_add, ← Nat.mul_assoc, Nat.mul_comm 10]
  omega
structure LgP where
 seg : Nat
 dead : Bool
 deriving DecidableEq, Inhabited
end Go.Proofs.YtacbkganjkipdaaGreatDoor
