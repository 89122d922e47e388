/- walks: frame.TakeText, convoyref01.TakeText -/
import Derived.Test.YtcdaioljddaopaaFrmH
namespace Go.Proofs.Ytcdaioljddaopaa
open Go.RowKit

/-- The text at the front, and its size. -/
def takeT (b : List UInt8) : List UInt8 × Nat :=
  if (takeU b).2 = 0 ∨ b.length - (takeU b).2 < (takeU b).1 then ([], 0) else ((b.drop (takeU b).2).take (takeU b).1, (takeU b).2 + (takeU b).1)

set_option maxRecDepth 100000 in
set_option maxHeartbeats 2000000 in
theorem takeText_any (A : Option Addr) (n c : Nat) (l : List UInt8) (w : World) (hx : Reads w w.heap.size 1 A n (u8s l)) (hn : n ≤ c) (hc : c ≤ maxLen) :
    Calls Try.prog 20 #[.slice A n c] w fun e w' => e = .returned (.tuple #[.string ⟨(takeT l).1.toArray⟩, .int .i64 (takeT l).2]) ∧ w = w' := by
  have hlen := hx.len_
  unfold maxLen at hc
  have HX := Lib.hid hx
  clear hx
  have hle := takeU_le l
  have ht : takeT l = if (takeU l).2 = 0 ∨ l.length - (takeU l).2 < (takeU l).1 then ([], 0) else ((l.drop (takeU l).2).take (takeU l).1, (takeU l).2 + (takeU l).1) := rfl
  go_enter Try.func20, Try.ntmps20
  go_wp2_with fail
  refine (takeUint_any A n c l w HX.out (by unfold maxLen; omega)).mono ?_
  rintro e w1 ⟨rfl, rfl⟩
  generalize takeU l = t at ht hle ⊢
  obtain ⟨m, s⟩ := t
  dsimp only at ht hle ⊢
  have HT := Lib.hid ht
  clear ht
  obtain ⟨hs1, hs2, hm1⟩ := hle
  by_cases hs : s = 0
  · have h1 : ((s : Int) == 0) = true := by rw [beq_iff_eq]; omega
    go_wp2_with fail
    go_ret2
    rw [HT.out, if_pos (.inl hs)]
    exact ⟨rfl, rfl⟩
  · have h1 : ((s : Int) == 0) = false := by rw [beq_eq_false_iff_ne]; omega
    by_cases hm : ((n : Int) - s) < (m : Int)
    · have hm2 : ((n : Int) - s) % 18446744073709551616 = (n : Int) - s := by omega
      go_wp2_with fail
      go_ret2
      rw [HT.out, if_pos (.inr (by omega))]
      exact ⟨rfl, rfl⟩
    · have hm2 : ((n : Int) - s) % 18446744073709551616 = (n : Int) - s := by omega
      have hr := ((HX.out.drop (k := s) (by omega)).take (k := m) (by omega))
      rw [u8s_drop, Nat.mul_one, u8s_take] at hr
      have hif : takeT l = ((l.drop s).take m, s + m) := by rw [HT.out, if_neg (by omega)]
      by_cases hcs : c = s
      · obtain rfl : m = 0 := by omega
        have hf := str_u8 (c := 0) (show Reads w w.heap.size 1 A 0 (u8s []) from ⟨rfl, fun h => absurd h (by omega)⟩)
        have HIF := Lib.hid hif
        clear hif hr
        go_wp2_with fail
        go_ret2
        rw [HIF.out]
        exact ⟨rfl, rfl⟩
      · have hf := str_u8 (c := c - s) hr
        have HIF := Lib.hid hif
        clear hif hr
        go_wp2_with fail
        go_ret2
        rw [HIF.out]
        exact ⟨by simp, rfl⟩

set_option maxRecDepth 100000 in
set_option maxHeartbeats 2000000 in
theorem refTakeText_any (A : Option Addr) (n c : Nat) (l : List UInt8) (w0 : World) (hx : Reads w0 w0.heap.size 1 A n (u8s l)) (hn : n ≤ c) (hc : c ≤ maxLen) :
    Calls Try.prog 22 #[.slice A n c] w0 fun e w' => e = .returned (.tuple #[.string ⟨(takeT l).1.toArray⟩, .int .i64 (takeT l).2]) ∧ Below w0.heap.size w0 w' := by
  have hlen := hx.len_
  unfold maxLen at hc
  have HX0 := Lib.hid hx
  clear hx
  have hle := takeU_le l
  have ht : takeT l = if (takeU l).2 = 0 ∨ l.length - (takeU l).2 < (takeU l).1 then ([], 0) else ((l.drop (takeU l).2).take (takeU l).1, (takeU l).2 + (takeU l).1) := rfl
  go_enter Try.func22, Try.ntmps22
  go_wp2_with fail
  refine (refTakeUint_any A n c l w0 HX0.out hn (by unfold maxLen; omega)).mono ?_
  rintro e w ⟨rfl, hb⟩
  have HX := Lib.hid ((HX0.out.below hb).more hb.size)
  have HB := Lib.hid hb
  clear hb
  generalize takeU l = t at ht hle ⊢
  obtain ⟨m, s⟩ := t
  dsimp only at ht hle ⊢
  have HT := Lib.hid ht
  clear ht
  obtain ⟨hs1, hs2, hm1⟩ := hle
  by_cases hs : s = 0
  · have h1 : ((s : Int) == 0) = true := by rw [beq_iff_eq]; omega
    go_wp2_with fail
    go_ret2
    rw [HT.out, if_pos (.inl hs)]
    exact ⟨rfl, HB.out⟩
  · have h1 : ((s : Int) == 0) = false := by rw [beq_eq_false_iff_ne]; omega
    by_cases hm3 : (n : Int) < (m : Int)
    · have hm2 : (n : Int) % 18446744073709551616 = (n : Int) := by omega
      go_wp2_with fail
      go_ret2
      rw [HT.out, if_pos (.inr (by omega))]
      exact ⟨rfl, HB.out⟩
    by_cases hm : ((n : Int) - s) < (m : Int)
    · go_wp2_with fail
      go_ret2
      rw [HT.out, if_pos (.inr (by omega))]
      exact ⟨rfl, HB.out⟩
    · skip
      have hr := ((HX.out.drop (k := s) (by omega)).take (k := m) (by omega))
      rw [u8s_drop, Nat.mul_one, u8s_take] at hr
      have hif : takeT l = ((l.drop s).take m, s + m) := by rw [HT.out, if_neg (by omega)]
      by_cases hcs : c = s
      · obtain rfl : m = 0 := by omega
        have hf := str_u8 (c := 0) (show Reads w w.heap.size 1 A 0 (u8s []) from ⟨rfl, fun h => absurd h (by omega)⟩)
        have HIF := Lib.hid hif
        clear hif hr
        go_wp2_with fail
        go_ret2
        rw [HIF.out]
        exact ⟨rfl, HB.out⟩
      · have hf := str_u8 (c := c - s) hr
        have HIF := Lib.hid hif
        clear hif hr
        go_wp2_with fail
        go_ret2
        rw [HIF.out]
        exact ⟨by simp, HB.out⟩
end Go.Proofs.Ytcdaioljddaopaa
