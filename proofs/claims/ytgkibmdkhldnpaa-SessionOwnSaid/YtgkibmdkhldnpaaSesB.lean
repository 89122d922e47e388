/- walks of session: Clone, own -/
import Derived.Test.YtgkibmdkhldnpaaSesA
import Derived.Test.YtgkibmdkhldnpaaComRoute
import Derived.Deep.RegionHeld3
namespace Go.Proofs.Ytgkibmdkhldnpaa
open Go.RowKit



theorem int_nil (w : World) (a : Option Addr) (n c : Nat) : (binOp .eql 22 (.slice a n c) (.slice none 0 0)).run Try.prog w = .ok (.bool a.isNone) w :=
  Lib.run_eql_slice_nil w _ _ a n c 0 0 Try.underlying22

set_option maxHeartbeats 400000 in
theorem clone_any (A : Option Addr) (n c : Nat) (xs : List Value) (w : World) (hr : Reads w w.heap.size 1 A n xs) (h1 : ∀ u ∈ xs, u.oneCell' = true) (hn : n ≤ 17592186044415) :
    Calls Try.prog 24 #[.slice A n c] w fun e w' => ∃ A' c', e = .returned (.slice A' n c') ∧ Own w' w.heap.size 3 1 A' n c' xs ∧ Below w.heap.size w w' := by
  have knil := int_nil
  rcases A with _ | a
  · have h0 : n = 0 := by
      rcases Nat.eq_zero_or_pos n with h | h
      · exact h
      · obtain ⟨_, h, _⟩ := hr.2 h; cases h
    subst h0
    have hx : xs = [] := List.eq_nil_of_length_eq_zero (by simpa using hr.1)
    subst hx
    go_enter Try.func24, Try.ntmps24
    go_wp2_with fail
    go_ret
    exact ⟨none, 0, rfl, Own.nil_ _ _ _ _, Below.refl _ _⟩
  · go_enter Try.func24, Try.ntmps24
    go_wp2_with (at_builtin; refine halt_ ?_)
    refine unhalt ?_
    refine wpList_app elem_int (Own.empty w _ 1) (hr.alloc (Nat.le_refl _) _) h1 (by omega) (by simp) _ _ rfl rfl rfl rfl ?_
    intro A' c' w1 ho hu hat
    go_wp2_with fail
    go_ret
    have hb : Below w.heap.size w w1 := (Upd.trans (S := fun _ => False) ((Upd.refl _ w).alloc _) hu (by intro i hi e; simp [blockOf] at e; omega)).none_
    rw [Nat.zero_add, List.nil_append] at ho
    exact ⟨A', c', rfl, ho, hb⟩

set_option maxHeartbeats 400000 in
theorem own_any (st : Int) (A : Option Addr) (n c : Nat) (xs : List Value) (w : World) (hr : Reads w w.heap.size 1 A n xs) (h1 : ∀ u ∈ xs, u.oneCell' = true) (hn : n ≤ 17592186044415) :
    Calls Try.prog 21 #[.agg #[.int .i64 st, .slice A n c]] w fun e w' => ∃ A' c', e = .returned (.agg #[.int .i64 st, .slice A' n c']) ∧ Own w' w.heap.size 3 1 A' n c' xs ∧ Below w.heap.size w w' := by
  go_enter Try.func21, Try.ntmps21
  go_wp2_with fail
  refine (clone_any _ _ _ _ _ ((hr.alloc (Nat.le_refl _) _).alloc (by simp) _ |>.more (by simp; omega)) h1 hn).mono ?_
  rintro e w1 ⟨A', c', rfl, ho, hb⟩
  simp only [World.size_alloc] at ho hb
  have b1 := ((Blk.new w 35 #[.int .i64 st, .slice A n c]).alloc (.cells #[.int .i64 0, .slice none 0 0] 35)).below hb (by omega)
  have b2 : Blk w1 (w.heap.size + 1) 35 #[.int .i64 0, .slice none 0 0] := (Blk.new_ (by simp) _ _).below hb (by omega)
  obtain ⟨k10, k11, f10, f11⟩ := b1.c2
  obtain ⟨k20, k21, f20, f21⟩ := b2.c2
  go_wp2_with fail
  refine bodyPost_ret (results_cell_row rfl _ _ (w.heap.size + 1) 35 #[.int .i64 st, .slice A' n c'] (0, 0) _ rfl (((b2.far (by simp) _).set_ 0 _).set_ 1 _) Try.underlying35 rfl (by kernel_rfl)) rfl ⟨A', c', rfl, ?_, ?_⟩
  · exact (((ho.far (by intro e; have := ho.ge _ e; simp at this; omega) _).far (by intro e; have := ho.ge _ e; simp at this; omega) _).far (by intro e; have := ho.ge _ e; simp at this; omega) _).mono (by omega)
  · exact (((((Below.refl _ w).alloc (Nat.le_refl _) _).alloc (by simp) _).trans (hb.mono (by omega))).setCell (by simp) _ |>.setCell (by simp) _).setCell (by simp) _
end Go.Proofs.Ytgkibmdkhldnpaa
