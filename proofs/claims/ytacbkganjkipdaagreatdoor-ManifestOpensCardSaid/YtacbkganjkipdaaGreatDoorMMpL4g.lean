/-
  Texts joined: WlQ.
-/
import Derived.Test.YtacbkganjkipdaaGreatDoorMMpL4f
namespace Go.Proofs.YtacbkganjkipdaaGreatDoor
open Go.Lib
abbrev kMan : List UInt8 := [109, 97, 110, 105, 102, 101, 115, 116]
abbrev kSst : List UInt8 := [115, 115, 116]
abbrev qCur : List UInt8 := [99, 117, 114, 114, 101, 110, 116]
abbrev qTmp : List UInt8 := [99, 117, 114, 114, 101, 110, 116, 46, 116, 109, 112]
def nameK (k : List UInt8) (n : Nat) : List UInt8 := k ++ 45 :: dgs 6 n
def numG (k q : List UInt8) : Nat := (q.drop (k.length + 1)).foldl (fun n c => 10 * n + (c.toNat - 48)) 0
def numK (k q : List UInt8) : Nat := if 1 ≤ numG k q ∧ numG k q ≤ 999999 ∧ nameK k (numG k q) = q then numG k q else 0
theorem nameK_len (k : List UInt8) (n : Nat) : (nameK k n).length = k.length + 7 := by rw [nameK, List.length_append, List.length_cons, dgs_len]
theorem nameK_drop (k : List UInt8) (n : Nat) : (nameK k n).drop (k.length + 1) = dgs 6 n := by
 unfold nameK
 rw [← List.drop_drop, List.drop_left]
 rfl
theorem numG_name {k : List UInt8} {n : Nat} (h : n ≤ 999999) : numG k (nameK k n) = n := by
 unfold numG
 rw [nameK_drop, fold_dgs 6 n 0 (by omega)]
 omega
theorem numK_name {k : List UInt8} {n : Nat} (h1 : 1 ≤ n) (h2 : n ≤ 999999) : numK k (nameK k n) = n := by
 unfold numK
 rw [numG_name h2, if_pos ⟨h1, h2, rfl⟩]
theorem numK_pos {k q : List UInt8} (h : numK k q ≠ 0) : 1 ≤ numK k q ∧ numK k q ≤ 999999 ∧ nameK k (numK k q) = q := by
 unfold numK at h ⊢
 split
 · rename_i hc
   exact hc
 · rename_i hc
   rw [if_neg hc] at h
   exact absurd rfl h
theorem numK_le (k q : List UInt8) : numK k q ≤ 999999 := by
 by_cases h : numK k q = 0
 · omega
 · exact (numK_pos h).2.1
theorem numK_eq {k q : List UInt8} {n : Nat} (h1 : 1 ≤ n) (h2 : n ≤ 999999) (h : nameK k n = q) : numK k q = n := h ▸ numK_name h1 h2
theorem nameK_good {k : List UInt8} (hk : k.length ≤ 8) (ho : ∀ x ∈ k, okB x) (n : Nat) : Good (nameK k n) := ⟨fun e => (by have := nameK_len k n; rw [e] at this; cases this), by rw [nameK_len]; omega, fun x hx => by
 unfold nameK at hx
 rcases List.mem_append.1 hx with hx | hx
 · exact ho x hx
 · rcases List.mem_cons.1 hx with rfl | hx
   · decide
   · exact .inr (.inl (dgs_digit 6 n x hx))⟩
theorem kMan_good (n : Nat) : Good (nameK kMan n) := nameK_good (by decide) (by decide) n
theorem qCur_good : Good qCur := by decide
theorem qTmp_good : Good qTmp := by decide
theorem numK_atoi {k q : List UInt8} {v : Int} (hv : atoiAll (q.drop (k.length + 1)) = .ok v) (h1 : 1 ≤ v) (h2 : v ≤ 999999) : numK k q = if nameK k v.toNat = q then v.toNat else 0 := by
 split
 · rename_i he
   exact numK_eq (by omega) (by omega) he
 · rename_i he
   refine Decidable.byContradiction fun hn => ?_
   obtain ⟨a, b, c⟩ := numK_pos hn
   refine he ?_
   rw [← c, nameK_drop] at hv
   have : atoiAll (dgs 6 (numK k q)) = .ok ((numK k q : Nat) : Int) := dgs_atoi (by omega)
   rw [this] at hv
   injection hv with hv
   rw [← hv]
   exact c
theorem numK_none {k q : List UInt8} (h : ¬ ((k ++ [45]) <+: q ∧ ∃ v, atoiAll (q.drop (k.length + 1)) = .ok v ∧ 1 ≤ v ∧ v ≤ 999999)) : numK k q = 0 := by
 refine Decidable.byContradiction fun hn => ?_
 obtain ⟨a, b, c⟩ := numK_pos hn
 refine h ⟨⟨dgs 6 (numK k q), by
  conv => rhs; rw [← c]
  unfold nameK
  rw [List.append_assoc]
  rfl⟩, numK k q, ?_, by omega, by omega⟩
 have : atoiAll (dgs 6 (numK k q)) = .ok ((numK k q : Nat) : Int) := dgs_atoi (by omega)
 rw [← c, nameK_drop, numK_name a b]
 exact this
end Go.Proofs.YtacbkganjkipdaaGreatDoor
