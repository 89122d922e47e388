/- convoyref10.SameRoute, convoylaw13.Own -/
import Derived.Test.YtgkibmdkhldnpaaComInts
namespace Go.Proofs.Ytgkibmdkhldnpaa
open Go.RowKit

theorem elem_int : Elem Try.prog 22 3 1 8 := elem_of (by kernel_rfl)
/-- The value of a route. -/
def routeV (st : Int) (A : Option Addr) (n c : Nat) : Value := .agg #[.int .i64 st, .slice A n c]

set_option maxHeartbeats 1000000 in
theorem sameRoute_any (s1 s2 : Int) (A D : Option Addr) (n c m d : Nat) (xs ys : List Int) (w : World) (hx : Reads w w.heap.size 1 A n (ints xs)) (hy : Reads w w.heap.size 1 D m (ints ys)) (hn : n ≤ 17592186044415) (hm : m ≤ 17592186044415) :
    Calls Try.prog 18 #[.agg #[.int .i64 s1, .slice A n c], .agg #[.int .i64 s2, .slice D m d]] w fun e w' => e = .returned (.bool (decide (s1 = s2 ∧ xs = ys))) ∧ Below w.heap.size w w' := by
  by_cases h : s1 = s2
  · subst h
    go_enter Try.func18, Try.ntmps18
    go_wp2_with fail
    refine (ints_any A D n c m d w.heap.size xs ys _ ((hx.alloc (Nat.le_refl _) _).alloc (by simp) _) ((hy.alloc (Nat.le_refl _) _).alloc (by simp) _) hn hm).mono ?_
    rintro e w1 ⟨rfl, q, rfl⟩
    have he : decide (s1 = s1 ∧ xs = ys) = decide (xs = ys) := by simp
    have HE := Lib.hid he
    clear he
    go_wp2_with fail
    go_ret
    exact ⟨by rw [HE.out]; rfl, below_drewN (((Below.refl _ w).alloc (Nat.le_refl _) _).alloc (by simp) _) _⟩
  · have hb : (s1 == s2) = false := beq_eq_false_iff_ne.2 h
    have he : decide (s1 = s2 ∧ xs = ys) = false := by simp [h]
    have HE := Lib.hid he
    clear he h
    go_enter Try.func18, Try.ntmps18
    go_wp2_with fail
    go_ret
    exact ⟨by rw [HE.out]; rfl, ((Below.refl _ w).alloc (Nat.le_refl _) _).alloc (by simp) _⟩

set_option maxHeartbeats 1000000 in
theorem own13_any (st : Int) (A : Option Addr) (n c : Nat) (xs : List Int) (w : World) (hx : Reads w w.heap.size 1 A n (ints xs)) (hn : n ≤ 17592186044415) (hc : n ≤ c) (hcm : c ≤ maxLen) :
    Calls Try.prog 15 #[.agg #[.int .i64 st, .slice A n c]] w fun e w' => ∃ A' c', e = .returned (.agg #[.int .i64 st, .slice A' (min n 40) c']) ∧ Own w' w.heap.size 3 1 A' (min n 40) c' (ints (xs.take (min n 40))) ∧ Below w.heap.size w w' := by
  unfold maxLen at hcm
  by_cases h40 : (40 : Int) < (n : Int)
  · have hk : min n 40 = 40 := by omega
    have HK := Lib.hid hk
    have hr := hx.take (k := 40) (by omega)
    have HR := Lib.hid hr
    clear hk hr hx
    go_enter Try.func15, Try.ntmps15
    go_wp2_with (at_builtin; refine halt_ ?_)
    refine unhalt ?_
    refine wpList_app (base := w.heap.size) (xs := []) elem_int (Own.mono (Own.empty_ (w := (w.alloc (.cells #[.int .i64 st, .slice A n c] 35)).alloc (.cells #[.int .i64 0, .slice none 0 0] 35)) (g := w.heap.size + 1 + 1) (by simp) _ 1) (by omega)) ((((HR.out.alloc (Nat.le_refl _) _).alloc (by simp) _).alloc (by simp; omega) _)) (fun u hu => ints_one _ u (List.mem_of_mem_take hu)) (by omega) (by simp; omega) _ _ rfl rfl rfl rfl ?_
    intro A' c' w1 ho hu hat
    have b1 := (((Blk.new w 35 #[.int .i64 st, .slice A n c]).alloc (.cells #[.int .i64 0, .slice none 0 0] 35)).alloc (.cells #[] 3)).upd hu (by simp [blockOf]; omega)
    have b2 : Blk w1 (w.heap.size + 1) 35 #[.int .i64 0, .slice none 0 0] := ((Blk.new_ (w := w.alloc (.cells #[.int .i64 st, .slice A n c] 35)) (g := w.heap.size + 1) (by simp) _ _).alloc (.cells #[] 3)).upd hu (by simp [blockOf])
    obtain ⟨k10, k11, f10, f11⟩ := b1.c2
    obtain ⟨k20, k21, f20, f21⟩ := b2.c2
    have hb : Below w.heap.size w w1 := (Upd.trans (S := fun _ => False) ((((Upd.refl _ w).alloc _).alloc _).alloc _) hu (by intro i hi e; simp [blockOf] at e; omega)).none_
    have hg1 : blockOf A' ≠ some w.heap.size := ho.apartBlk b1 (by decide)
    have hg2 : blockOf A' ≠ some (w.heap.size + 1) := ho.apartBlk b2 (by decide)
    rw [Nat.zero_add, List.nil_append] at ho
    clear hat hu
    go_wp2_with fail
    refine bodyPost_ret (results_cell_row rfl _ _ (w.heap.size + 1) 35 #[.int .i64 st, .slice A' 40 c'] (0, 0) _ rfl (((b2.far (by simp) _).set_ 0 _).set_ 1 _) Try.underlying35 rfl (by kernel_rfl)) rfl ⟨A', c', by rw [HK.out], ?_, ?_⟩
    · rw [HK.out]
      exact ((by simpa [ints, List.map_take] using ho : Own w1 w.heap.size 3 1 A' 40 c' (ints (xs.take 40))).far hg1 _).far hg2 _ |>.far hg2 _
    · exact ((hb.setCell (by simp) _).setCell (by simp) _).setCell (by simp) _
  · have hk : min n 40 = n := by omega
    have HK := Lib.hid hk
    have hr := hx.take (k := n) (by omega)
    have HR := Lib.hid hr
    clear hk hr hx
    go_enter Try.func15, Try.ntmps15
    go_wp2_with (at_builtin; refine halt_ ?_)
    refine unhalt ?_
    refine wpList_app (base := w.heap.size) (xs := []) elem_int (Own.mono (Own.empty_ (w := (w.alloc (.cells #[.int .i64 st, .slice A n c] 35)).alloc (.cells #[.int .i64 0, .slice none 0 0] 35)) (g := w.heap.size + 1 + 1) (by simp) _ 1) (by omega)) ((((HR.out.alloc (Nat.le_refl _) _).alloc (by simp) _).alloc (by simp; omega) _)) (fun u hu => ints_one _ u (List.mem_of_mem_take hu)) (by omega) (by simp; omega) _ _ rfl rfl rfl rfl ?_
    intro A' c' w1 ho hu hat
    have b1 := (((Blk.new w 35 #[.int .i64 st, .slice A n c]).alloc (.cells #[.int .i64 0, .slice none 0 0] 35)).alloc (.cells #[] 3)).upd hu (by simp [blockOf]; omega)
    have b2 : Blk w1 (w.heap.size + 1) 35 #[.int .i64 0, .slice none 0 0] := ((Blk.new_ (w := w.alloc (.cells #[.int .i64 st, .slice A n c] 35)) (g := w.heap.size + 1) (by simp) _ _).alloc (.cells #[] 3)).upd hu (by simp [blockOf])
    obtain ⟨k10, k11, f10, f11⟩ := b1.c2
    obtain ⟨k20, k21, f20, f21⟩ := b2.c2
    have hb : Below w.heap.size w w1 := (Upd.trans (S := fun _ => False) ((((Upd.refl _ w).alloc _).alloc _).alloc _) hu (by intro i hi e; simp [blockOf] at e; omega)).none_
    have hg1 : blockOf A' ≠ some w.heap.size := ho.apartBlk b1 (by decide)
    have hg2 : blockOf A' ≠ some (w.heap.size + 1) := ho.apartBlk b2 (by decide)
    rw [Nat.zero_add, List.nil_append] at ho
    clear hat hu
    go_wp2_with fail
    refine bodyPost_ret (results_cell_row rfl _ _ (w.heap.size + 1) 35 #[.int .i64 st, .slice A' n c'] (0, 0) _ rfl (((b2.far (by simp) _).set_ 0 _).set_ 1 _) Try.underlying35 rfl (by kernel_rfl)) rfl ⟨A', c', by rw [HK.out], ?_, ?_⟩
    · rw [HK.out]
      exact ((by simpa [ints, List.map_take] using ho : Own w1 w.heap.size 3 1 A' n c' (ints (xs.take n))).far hg1 _).far hg2 _ |>.far hg2 _
    · exact ((hb.setCell (by simp) _).setCell (by simp) _).setCell (by simp) _
end Go.Proofs.Ytgkibmdkhldnpaa
