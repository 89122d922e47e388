/-
  Texts joined: WlN.
-/
import Derived.Test.YtceanciekadkeaaGreatDoorMWlL4b
import Derived.Test.YtceanciekadkeaaGreatDoorMWlL4c
import Derived.Test.YtceanciekadkeaaGreatDoorMWlL4e
/- the log, plain -/
namespace Go.Proofs.YtceanciekadkeaaGreatDoor
open Go.Lib
/-- The number of a segment's name; 0: it is none. -/
def numF (q : List UInt8) : Nat := (q.drop 4).foldl (fun n c => 10 * n + (c.toNat - 48)) 0
def numP (q : List UInt8) : Nat := if 1 ≤ numF q ∧ numF q ≤ 999999 ∧ nameP (numF q) = q then numF q else 0
theorem fold_dgs : ∀ (k n m : Nat), n < 10 ^ k → (dgs k n).foldl (fun n c => 10 * n + (c.toNat - 48)) m = 10 ^ k * m + n
  | 0, n, m, h => by
    obtain rfl : n = 0 := by simpa using h
    simp [dgs]
  | k + 1, n, m, h => by
    rw [dgs, List.foldl_append, fold_dgs k (n / 10) m (by rw [Nat.pow_succ] at h; omega), List.foldl_cons, List.foldl_nil]
    have hd : (UInt8.ofNat (48 + n % 10)).toNat = 48 + n % 10 := by simp; omega
    rw [hd, Nat.pow_succ, Nat.mul_add, ← Nat.mul_assoc, Nat.mul_comm 10]
    omega
theorem numF_name {n : Nat} (h : n ≤ 999999) : numF (nameP n) = n := by
  show (dgs 6 n).foldl _ 0 = n
  rw [fold_dgs 6 n 0 (by omega)]
  omega
theorem numP_name {n : Nat} (h1 : 1 ≤ n) (h2 : n ≤ 999999) : numP (nameP n) = n := by
  unfold numP
  rw [numF_name h2, if_pos ⟨h1, h2, rfl⟩]
theorem numP_pos {q : List UInt8} (h : numP q ≠ 0) : 1 ≤ numP q ∧ numP q ≤ 999999 ∧ nameP (numP q) = q := by
  unfold numP at h ⊢
  split
  · rename_i hc
    exact hc
  · rename_i hc
    rw [if_neg hc] at h
    exact absurd rfl h
theorem numP_eq {q : List UInt8} {n : Nat} (h1 : 1 ≤ n) (h2 : n ≤ 999999) (h : nameP n = q) : numP q = n := h ▸ numP_name h1 h2
theorem nameP_good (n : Nat) : Good (nameP n) := ⟨fun e => (by have := nameP_len n; rw [e] at this; cases this), by rw [nameP_len]; omega, fun x hx => by
  rcases List.mem_append.1 hx with hx | hx
  · simp only [List.mem_cons, List.not_mem_nil, or_false] at hx
    rcases hx with rfl | rfl | rfl | rfl <;> decide
  · have := dgs_digit 6 n x hx
    exact .inr (.inl this)⟩
/-- The segments that are there. -/
def segsN (l : List (List UInt8)) : List Nat := (l.map numP).filter fun n => decide (n ≠ 0)
def segsP (P : DrP) : List Nat := segsN (P.fs.map FiP.nm)
theorem segsN_snoc (q : List UInt8) (l : List (List UInt8)) : segsN (l ++ [q]) = if numP q = 0 then segsN l else segsN l ++ [numP q] := by
  unfold segsN
  rw [List.map_append, List.filter_append]
  by_cases h : numP q = 0 <;> simp [h]
theorem segsN_len (l : List (List UInt8)) : (segsN l).length ≤ l.length := Nat.le_trans (List.length_filter_le _ _) (by simp)
theorem segsN_mem {l : List (List UInt8)} {n : Nat} (h : n ∈ segsN l) : 1 ≤ n ∧ n ≤ 999999 ∧ nameP n ∈ l := by
  obtain ⟨h1, h2⟩ := List.mem_filter.1 h
  obtain ⟨q, hq, rfl⟩ := List.mem_map.1 h1
  obtain ⟨a, b, c⟩ := numP_pos (q := q) (by simpa using h2)
  exact ⟨a, b, by rw [c]; exact hq⟩
theorem segsN_of {l : List (List UInt8)} {n : Nat} (h1 : 1 ≤ n) (h2 : n ≤ 999999) (h : nameP n ∈ l) : n ∈ segsN l :=
  List.mem_filter.2 ⟨List.mem_map.2 ⟨nameP n, h, numP_name h1 h2⟩, by simp; omega⟩
/-- A log: its segment, whether it is dead. -/
structure LgP where
  seg : Nat
  dead : Bool
  deriving DecidableEq, Inhabited
def segA (s n : Nat) : Nat := max s (n + 1)
def DrP.seg (P : DrP) (fr : Nat) : Nat := (segsP P).foldl segA fr
/-- The payloads from a number on. -/
def DrP.segB (P : DrP) (n : Nat) : List (List UInt8) := (scanF (P.bytes (nameP n))).1
def payN (P : DrP) (fr : Nat) (ns : List Nat) : List (List UInt8) := ns.flatMap fun n => if fr ≤ n then P.segB n else []
def DrP.pay (P : DrP) (fr : Nat) : List (List UInt8) := payN P fr (segsP P)
def syncL (P : DrP) (L : LgP) : DrP × LgP × Int :=
  if L.dead then (P, L, 6)
  else if 999999 < L.seg ∨ P.loose (nameP L.seg) = 0 then (P, L, 0)
  else ((P.sync (nameP L.seg)).1, { L with dead := decide ((P.sync (nameP L.seg)).2 = 6) }, (P.sync (nameP L.seg)).2)
def rollL (P : DrP) (L : LgP) : DrP × LgP × Int × Int :=
  if (syncL P L).2.2 ≠ 0 then ((syncL P L).1, (syncL P L).2.1, 0, (syncL P L).2.2)
  else ((syncL P L).1, { (syncL P L).2.1 with seg := min (syncL P L).2.1.seg 999999 + 1 }, (min (syncL P L).2.1.seg 999999 + 1 : Nat), 0)
def putL (P : DrP) (L : LgP) (b : List UInt8) : DrP × LgP × Int :=
  if 999999 < L.seg then (P, L, 5)
  else ((P.append (nameP L.seg) b).1, { L with dead := L.dead || decide ((P.append (nameP L.seg) b).2 = 6) }, (P.append (nameP L.seg) b).2)
def sizeL (P : DrP) (L : LgP) : Nat := if L.seg ≤ 999999 then (P.bytes (nameP L.seg)).length else 0
def appL (P : DrP) (L : LgP) (p : List UInt8) : DrP × LgP × Int :=
  if 4096 < p.length then (P, L, 3)
  else if L.dead then (P, L, 6)
  else if 0 < sizeL P L ∧ 1024 < sizeL P L + (sealL p).length then
    if (rollL P L).2.2.2 ≠ 0 then ((rollL P L).1, (rollL P L).2.1, (rollL P L).2.2.2) else putL (rollL P L).1 (rollL P L).2.1 (sealL p)
  else putL P L (sealL p)
theorem segA_le {s n : Nat} (h1 : s ≤ 1000000) (h2 : n ≤ 999999) : segA s n ≤ 1000000 := by
  unfold segA
  omega
theorem foldl_seg_le : ∀ {ns : List Nat} {s : Nat}, s ≤ 1000000 → (∀ n ∈ ns, n ≤ 999999) → ns.foldl segA s ≤ 1000000 ∧ s ≤ ns.foldl segA s
  | [], s, h, _ => ⟨h, Nat.le_refl _⟩
  | n :: ns, s, h, hn => by
    have h1 := segA_le h (hn n List.mem_cons_self)
    have ih := foldl_seg_le (ns := ns) h1 (fun m hm => hn m (List.mem_cons_of_mem _ hm))
    refine ⟨ih.1, Nat.le_trans ?_ ih.2⟩
    unfold segA
    omega
end Go.Proofs.YtceanciekadkeaaGreatDoor
