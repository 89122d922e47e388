/- walks: Clone of bytes, frame.Take -/
import Derived.Test.YtcdaioljddaopaaFrmJ
import Derived.Test.YtcdaioljddaopaaFrmI
namespace Go.Proofs.Ytcdaioljddaopaa
open Go.RowKit

theorem u8_nil (w : World) (a : Option Addr) (n c : Nat) : (binOp .eql 23 (.slice a n c) (.slice none 0 0)).run Try.prog w = .ok (.bool a.isNone) w :=
  Lib.run_eql_slice_nil w _ _ a n c 0 0 Try.underlying23

set_option maxHeartbeats 400000 in
theorem clone_any (A : Option Addr) (n c : Nat) (l : List UInt8) (w : World) (hr : Reads w w.heap.size 1 A n (u8s l)) (hn : n ≤ 140737488355328) :
    Calls Try.prog 32 #[.slice A n c] w fun e w' => ∃ A' c', e = .returned (.slice A' n c') ∧ Own w' w.heap.size 5 1 A' n c' (u8s l) ∧ Below w.heap.size w w' := by
  have knil := u8_nil
  rcases A with _ | a
  · have h0 : n = 0 := by
      rcases Nat.eq_zero_or_pos n with h | h
      · exact h
      · obtain ⟨_, h, _⟩ := hr.2 h; cases h
    subst h0
    have hx : l = [] := List.eq_nil_of_length_eq_zero hr.len_
    subst hx
    go_enter Try.func32, Try.ntmps32
    go_wp2_with fail
    go_ret
    exact ⟨none, 0, rfl, Own.nil_ _ _ _ _, Below.refl _ _⟩
  · go_enter Try.func32, Try.ntmps32
    go_wp2_with (at_builtin; refine halt_ ?_)
    refine unhalt ?_
    refine wpList_app elem_u8 (Own.empty w _ 1) (hr.alloc (Nat.le_refl _) _) (u8s_one l) (by omega) (by simp) _ _ rfl rfl rfl rfl ?_
    intro A' c' w1 ho hu hat
    go_wp2_with fail
    go_ret
    have hb : Below w.heap.size w w1 := (Upd.trans (S := fun _ => False) ((Upd.refl _ w).alloc _) hu (by intro i hi e; simp [blockOf] at e; omega)).none_
    rw [Nat.zero_add, List.nil_append] at ho
    exact ⟨A', c', rfl, ho, hb⟩
end Go.Proofs.Ytcdaioljddaopaa
