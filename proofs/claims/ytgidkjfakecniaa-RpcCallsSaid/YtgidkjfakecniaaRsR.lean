/- the plain law of a tick: the program's caller and the document's -/
import Derived.Test.YtgidkjfakecniaaRsQ
import Derived.Test.YtgidkjfakecniaaSlN
namespace Go.Proofs.Ytgidkjfakecniaa
open Go.RowKit
theorem tick_same {b : Bool} {t1 wt t2 s : Int} (n : Int) (hf : RS.fit ⟨b, t2, s, 0⟩) (hw : b = true → t1 = t2 ∧ wt = 2 ^ t2.toNat - s) :
    (tickF 5 b t1 wt n 0).1 = (riter (min 100 n.toNat) ⟨b, t2, s, 0⟩).b ∧ (tickF 5 b t1 wt n 0).2.2.2 = (riter (min 100 n.toNat) ⟨b, t2, s, 0⟩).k ∧
    ((riter (min 100 n.toNat) ⟨b, t2, s, 0⟩).b = true → (tickF 5 b t1 wt n 0).2.1 = (riter (min 100 n.toNat) ⟨b, t2, s, 0⟩).tr ∧ (tickF 5 b t1 wt n 0).2.2.1 = 2 ^ (riter (min 100 n.toNat) ⟨b, t2, s, 0⟩).tr.toNat - (riter (min 100 n.toNat) ⟨b, t2, s, 0⟩).s) := by
  cases b with
  | false =>
    rw [tickF_off, riter_over _ _ rfl]
    exact ⟨rfl, rfl, fun e => absurd e Bool.false_ne_true⟩
  | true =>
    obtain ⟨rfl, rfl⟩ := hw rfl
    obtain ⟨f1, f2, f3, f4⟩ := hf rfl
    dsimp only at f1 f2 f3 f4
    have hi : ∀ m : Nat, riter (min 100 m) ⟨true, t1, s, 0⟩ = riter m ⟨true, t1, s, 0⟩ := fun m => by
      rcases Nat.lt_or_ge m 100 with h | h
      · rw [Nat.min_eq_right (by omega)]
      · rw [Nat.min_eq_left h, iter_hundred hf m h]
    have ht := fun m : Nat => tick_iter m 5 ⟨true, t1, s, 0⟩ hf (fun _ => by show 6 - t1 ≤ ((5 : Nat) : Int); omega)
    rw [hi]
    rcases Int.lt_or_le 0 n with h | h
    · have := ht n.toNat
      rw [Int.toNat_of_nonneg (by omega)] at this
      exact this
    · have := ht n.toNat
      rw [show n.toNat = 0 by omega] at this ⊢
      have e : tickF 5 true t1 (2 ^ t1.toNat - s) n 0 = tickF 5 true t1 (2 ^ t1.toNat - s) ((0 : Nat) : Int) 0 := by
        rw [tickF_low (by omega), tickF_low (by omega), if_neg (by omega), if_neg (by omega)]
      rw [e]
      exact this
structure CalI where
  k : Nat
  id : Int
  b : Bool
  f0 : Int
  to : Int
  kd : Int
  i0 : Int
  vb : Int
  ep : Int
  st : Int
  xs : List Int
  A : Option Addr
  c : Nat
  D : Option Addr
  d : Nat
  t1 : Int
  wt : Int
  t2 : Int
  s : Int
def CalI.ok (W : World) (j : CalI) (k : Nat) : Prop := j.k ≤ 80 ∧ (0 ≤ j.id ∧ j.id ≤ k) ∧ j.xs.length ≤ 17592186044415 ∧ Reads W W.heap.size 1 j.D j.xs.length (ints j.xs) ∧ RS.fit ⟨j.b, j.t2, j.s, 0⟩ ∧ (j.b = true → j.t1 = j.t2 ∧ j.wt = 2 ^ j.t2.toNat - j.s)
end Go.Proofs.Ytgidkjfakecniaa
