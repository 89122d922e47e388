/- walk: convoyref01.TakeUint -/
import Derived.Test.YtcdaioljddaopaaFrmC
import Derived.Test.YtcdaioljddaopaaLibE
namespace Go.Proofs.Ytcdaioljddaopaa
open Go.RowKit

theorem str_u8 {w : World} {B n c : Nat} {A : Option Addr} {l : List UInt8} (h : Reads w B 1 A n (u8s l)) : (convert 23 9 (.slice A n c)).run Try.prog w = .ok (.string ⟨l.toArray⟩) w :=
  run_string_of Try.underlying23 Try.underlying5 Try.underlying9 h

theorem l_same {a b : List UInt8} (h : a = b) : (a == b) = true := by rw [h]; exact beq_self_eq_true _
theorem l_other {a b : List UInt8} (h : ¬ a = b) : (a == b) = false := beq_eq_false_iff_ne.2 h

set_option maxRecDepth 100000 in
set_option maxHeartbeats 2000000 in
theorem refTakeUint_any (A : Option Addr) (n c : Nat) (l : List UInt8) (w : World) (hx : Reads w w.heap.size 1 A n (u8s l)) (hn : n ≤ c) (hc : c ≤ maxLen) :
    Calls Try.prog 16 #[.slice A n c] w fun e w' => e = .returned (.tuple #[.int .u64 (takeU l).1, .int .i64 (takeU l).2]) ∧ Below w.heap.size w w' := by
  have hlen := hx.len_
  unfold maxLen at hc
  have HX := Lib.hid hx
  clear hx
  go_enter Try.func16, Try.ntmps16
  go_wp2_with fail
  go_loopw [4] (fun iv wr => ∃ (i : Nat), iv = .int .i64 i ∧ i ≤ 10 ∧ i ≤ n ∧ (∀ j, j < i → 128 ≤ (l.getD j 0).toNat) ∧ w = wr) (fun iv _ => n - (intOf iv).toNat)
  case atStart => exact ⟨0, rfl, by omega, by omega, by omega, rfl⟩
  case round =>
    obtain ⟨i, rfl, hi, hin, hall, rfl⟩ := hrel
    have HA := Lib.hid hall
    clear hall
    by_cases h : (i : Int) < n
    · obtain ⟨ad, rfl, hb, hc0⟩ := HX.out.u8_ (k := i) (by omega)
      have hsp := split_at (l := l) (i := i) (by omega)
      have hal := all_take HA.out (by omega)
      have HS := Lib.hid hsp
      have HL := Lib.hid hal
      clear hsp hal
      have hxx : Hid (l.getD i 0 = l.getD i 0) := Lib.hid rfl
      have hq1 : ((i : Int) == (n : Int)) = false := by simp; omega
      by_cases h10 : (i : Int) < 10
      · have hq2 : ((i : Int) == 10) = false := by simp; omega
        obtain ⟨x, hx⟩ : ∃ x, x = l.getD i 0 := ⟨_, rfl⟩
        rw [← hx] at hc0
        have HXX := Lib.hid hx
        clear hx hxx
        by_cases h128 : (128 : Int) ≤ (x.toNat : Int)
        · go_wp2_with fail
          go_roundw
          case rel =>
            refine ⟨i + 1, by simp, by omega, by omega, ?_, trivial⟩
            intro j hj
            rcases Nat.lt_or_ge j i with h1 | h1
            · exact HA.out j h1
            · obtain rfl : j = i := by omega
              rw [← HXX.out]
              omega
          case measure => simp [intOf]; omega
        · go_wp2_with fail
          go_loopw [5, 6] (fun nv iv wr => ∃ (m : Nat) (z : Int), nv = .int .u64 m ∧ iv = .int .i64 z ∧ -1 ≤ z ∧ z ≤ i ∧ m = valp ((l.take (i + 1)).drop (z + 1).toNat) % 18446744073709551616 ∧ w = wr) (fun _ iv _ => (intOf iv + 1).toNat)
          case atStart =>
            refine ⟨0, i, rfl, rfl, by omega, by omega, ?_, rfl⟩
            rw [show ((i : Int) + 1).toNat = i + 1 by omega, List.drop_of_length_le (by rw [List.length_take]; omega)]
            simp [valp]
          case round =>
            obtain ⟨m, z, rfl, rfl, hz1, hz2, hm, rfl⟩ := hrel
            have HM := Lib.hid hm
            have hm64 : m < 18446744073709551616 := by rw [hm]; exact Nat.mod_lt _ (by omega)
            clear hm
            by_cases hz : (0 : Int) ≤ z
            · obtain ⟨k, rfl⟩ := Int.eq_ofNat_of_zero_le hz
              have hkn : (k : Int) < n := by omega
              obtain ⟨ad', e1, _, hck⟩ := HX.out.u8_ (k := k) (by omega)
              injection e1 with e1
              subst e1
              obtain ⟨y, hy⟩ : ∃ y, y = l.getD k 0 := ⟨_, rfl⟩
              rw [← hy] at hck
              have HY := Lib.hid hy
              have hy1 : (y.toNat : Int) < 256 := by have := y.toNat_lt; omega
              clear hy
              go_wp2_with fail
              go_roundw
              case rel =>
                refine ⟨(m * 128 + y.toNat % 128) % 18446744073709551616, (k : Int) - 1, ?_, rfl, by omega, by omega, ?_, trivial⟩
                · congr 1
                  rw [IntKind.wrap_u64, IntKind.wrap_u64]
                  omega
                · have e1 : ((k : Int) - 1 + 1).toNat = k := by omega
                  have e2 : (l.take (i + 1)).drop k = y :: (l.take (i + 1)).drop (k + 1) := by
                    rw [List.drop_eq_getElem_cons (by rw [List.length_take]; omega), List.getElem_take, HY.out, List.getD_eq_getElem?_getD, List.getElem?_eq_getElem (by omega), Option.getD_some]
                  have e3 := HM.out
                  rw [show ((k : Int) + 1).toNat = k + 1 by omega] at e3
                  rw [e1, e2]
                  simp only [valp]
                  omega
              case measure => simp [intOf]
            · obtain rfl : z = -1 := by omega
              go_wp2_with fail
              have hw1 : IntKind.i64.wrap ((i : Int) + 1) = (i : Int) + 1 := by rw [IntKind.wrap_i64]; omega
              have hw2 : (0 : Int) ≤ (i : Int) + 1 := by omega
              have hw3 : (i : Int) + 1 ≤ (c : Int) := by omega
              have hw4 : ((i : Int) + 1).toNat = i + 1 := by omega
              have hr1 := HX.out.take (k := i + 1) (by omega)
              rw [Nat.mul_one, u8s_take] at hr1
              have HR1 := Lib.hid hr1
              clear hr1
              refine wp_region_noPanic ?_
              refine wp_region_held_drew (S := fun w' => Below w.heap.size w w') (by kernel_rfl) (below_drew w) (fun hH => ?_)
              refine wpAnyH_take (i := 0) (oi := _) (v := ?_) (by simp only [List.getElem?_toArray, List.getElem?_cons_zero]; rfl) (by kernel_rfl) (by kernel_rfl) (by kernel_rfl) (fun _ _ _ h => h) (Or.inl ⟨by rfl, ?_⟩) (by assumption) ?_
              rotate_left
              · intro w' hSw; (try dsimp only at hSw); go_simp; try with_reducible rfl
              try simp only [Act.put, List.setIfInBounds_toArray, List.set_cons_zero, List.set_cons_succ]
              refine wpAnyH_take (i := 3) (oi := _) (v := ?_) (by simp only [List.getElem?_toArray, List.getElem?_cons_zero, List.getElem?_cons_succ]; rfl) (by kernel_rfl) (by kernel_rfl) (by kernel_rfl) (fun _ _ _ h => h) (Or.inl ⟨by rfl, ?_⟩) (by assumption) ?_
              rotate_left
              · intro w' hSw; (try dsimp only at hSw); go_simp; try with_reducible rfl
              try simp only [Act.put, List.setIfInBounds_toArray, List.set_cons_zero, List.set_cons_succ]
              refine wpAnyH_take (i := 4) (oi := _) (v := ?_) (by simp only [List.getElem?_toArray, List.getElem?_cons_zero, List.getElem?_cons_succ]; rfl) (by kernel_rfl) (by kernel_rfl) (by kernel_rfl) (fun _ _ _ h => h) (Or.inl ⟨by rfl, ?_⟩) (by assumption) ?_
              rotate_left
              · intro w' hSw; (try dsimp only at hSw); go_simp; try with_reducible rfl
              try simp only [Act.put, List.setIfInBounds_toArray, List.set_cons_zero, List.set_cons_succ]
              refine wpAnyH_take (i := 5) (oi := _) (v := ?_) (by simp only [List.getElem?_toArray, List.getElem?_cons_zero, List.getElem?_cons_succ]; rfl) (by kernel_rfl) (by kernel_rfl) (by kernel_rfl) (fun _ _ _ h => h) (Or.inl ⟨by rfl, ?_⟩) (by assumption) ?_
              rotate_left
              · intro w' hSw; (try dsimp only at hSw); go_simp; try with_reducible rfl
              try simp only [Act.put, List.setIfInBounds_toArray, List.set_cons_zero, List.set_cons_succ]
              refine wpAnyH_take (i := 6) (oi := _) (v := ?_) (by simp only [List.getElem?_toArray, List.getElem?_cons_zero, List.getElem?_cons_succ]; rfl) (by kernel_rfl) (by kernel_rfl) (by kernel_rfl) (fun _ _ _ h => h) (Or.inl ⟨by rfl, ?_⟩) (by assumption) ?_
              rotate_left
              · intro w' hSw; (try dsimp only at hSw); go_simp; try with_reducible rfl
              try simp only [Act.put, List.setIfInBounds_toArray, List.set_cons_zero, List.set_cons_succ]
              refine wpAnyH_take (i := 7) (oi := _) (v := ?_) (by simp only [List.getElem?_toArray, List.getElem?_cons_zero, List.getElem?_cons_succ]; rfl) (by kernel_rfl) (by kernel_rfl) (by kernel_rfl) (fun _ _ _ h => h) (Or.inl ⟨by rfl, ?_⟩) (by assumption) ?_
              rotate_left
              · intro w' hSw; (try dsimp only at hSw); have hf := str_u8 (c := c) (HR1.out.below hSw); go_simp; try with_reducible rfl
              try simp only [Act.put, List.setIfInBounds_toArray, List.set_cons_zero, List.set_cons_succ]
              refine wpAnyH_ready (rs := [1]) (by kernel_rfl) (by simp) (AllReadyH.cons (o := _) (by simp only [List.getElem?_toArray, List.getElem?_cons_zero, List.getElem?_cons_succ]; rfl) (fun K hK => ?_) AllReadyH.nil)
              go_simp
              go_at_call 15
              refine (refUint_any m _ hm64).mono ?_
              rintro e w1 ⟨A1, c1, rfl, ho, hb1⟩
              have HO := Lib.hid ho
              have HB1 := Lib.hid ((below_drew w).trans hb1)
              clear ho hb1
              try go_wp2_with fail
              refine hK.out _ _ (HB1.out) (fun hHeld => ?_)
              clear hK K hH
              have hH := hHeld
              clear hHeld
              try simp only [Act.put, List.setIfInBounds_toArray, List.set_cons_zero, List.set_cons_succ]
              refine wpAnyH_more (S' := fun w' => Below w1.heap.size w1 w') (fun w' h => HB1.out.trans (h.mono HB1.out.size)) _ _ _ _ ?_
              clear hH
              have hH := Below.refl w1.heap.size w1
              refine wpAnyH_take (i := 2) (oi := _) (v := ?_) (by simp only [List.getElem?_toArray, List.getElem?_cons_zero, List.getElem?_cons_succ]; rfl) (by kernel_rfl) (by kernel_rfl) (by kernel_rfl) (fun _ _ _ h => h) (Or.inl ⟨by rfl, ?_⟩) (by assumption) ?_
              rotate_left
              · intro w' hSw; (try dsimp only at hSw); have hf := str_u8 (c := c1) (HO.out.reads.below hSw); go_simp; try with_reducible rfl
              try simp only [Act.put, List.setIfInBounds_toArray, List.set_cons_zero, List.set_cons_succ]
              have hmv := HM.out
              rw [show ((-1 : Int) + 1).toNat = 0 by rfl, List.drop_zero] at hmv
              have hsn := take_snoc (l := l) (i := i) (by omega)
              rw [← HXX.out] at hsn
              have hone := takeU_ref (pre := l.take i) (r := l.drop (i + 1)) (c := x) HL.out (by omega) (by rw [List.length_take]; omega)
              rw [← hsn, ← hmv, List.length_take, show min i l.length = i by omega] at hone
              have hlx := HS.out
              rw [← HXX.out] at hlx
              rw [← hlx] at hone
              have HON := Lib.hid hone
              clear hmv hsn hone hlx
              by_cases heq : uintL m = l.take (i + 1)
              · have hs := l_same heq
                have HEQ := Lib.hid heq
                clear heq
                refine wpAnyH_take (i := 8) (oi := _) (v := ?_) (by simp only [List.getElem?_toArray, List.getElem?_cons_zero, List.getElem?_cons_succ]; rfl) (by kernel_rfl) (by kernel_rfl) (by kernel_rfl) (fun _ _ _ h => h) (Or.inl ⟨by rfl, ?_⟩) (by assumption) ?_
                rotate_left
                · intro w' hSw; (try dsimp only at hSw); go_simp; try with_reducible rfl
                try simp only [Act.put, List.setIfInBounds_toArray, List.set_cons_zero, List.set_cons_succ]
                refine wpAnyH_done (by kernel_rfl) ?_ _
                refine NoPanic.normal ?_
                go_wp2_with fail
                go_ret2
                have := HON.out
                rw [if_pos HEQ.out] at this
                rw [this]
                exact ⟨by simp, HB1.out⟩
              · have hs := l_other heq
                have HEQ := Lib.hid heq
                clear heq
                refine wpAnyH_take (i := 8) (oi := _) (v := ?_) (by simp only [List.getElem?_toArray, List.getElem?_cons_zero, List.getElem?_cons_succ]; rfl) (by kernel_rfl) (by kernel_rfl) (by kernel_rfl) (fun _ _ _ h => h) (Or.inl ⟨by rfl, ?_⟩) (by assumption) ?_
                rotate_left
                · intro w' hSw; (try dsimp only at hSw); go_simp; try with_reducible rfl
                try simp only [Act.put, List.setIfInBounds_toArray, List.set_cons_zero, List.set_cons_succ]
                refine wpAnyH_done (by kernel_rfl) ?_ _
                refine NoPanic.normal ?_
                go_wp2_with fail
                go_ret2
                have := HON.out
                rw [if_neg HEQ.out] at this
                rw [this]
                exact ⟨rfl, HB1.out⟩
      · obtain ⟨x, hx⟩ : ∃ x, x = l.getD i 0 := ⟨_, rfl⟩
        rw [← hx] at hc0
        have hq2 : ((i : Int) == 10) = true := by simp; omega
        go_wp2_with fail
        go_ret2
        have hx9 : takeU l = (0, 0) := by
          rw [HS.out]
          exact takeU_long HL.out (by rw [List.length_take]; omega)
        rw [hx9]
        exact ⟨rfl, Below.refl _ _⟩
    · have hq1 : ((i : Int) == (n : Int)) = true := by simp; omega
      go_wp2_with fail
      go_ret2
      have hx9 : takeU l = (0, 0) := by
        have := all_take HA.out (by omega)
        rw [List.take_of_length_le (by omega)] at this
        exact takeU_none this
      rw [hx9]
      exact ⟨rfl, Below.refl _ _⟩
end Go.Proofs.Ytcdaioljddaopaa
