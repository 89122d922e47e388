/- walks: convoyref01.Take, convoyref01.Scan -/
import Derived.Test.YtcdaioljddaopaaFrmU
namespace Go.Proofs.Ytcdaioljddaopaa
open Go.RowKit

/-- What the reference's Take answers. -/
def TookR (w w' : World) (r : Option (List UInt8 × Nat)) (e : Ending) : Prop :=
  match r with
  | none => e = .returned (.tuple #[.slice none 0 0, .int .i64 0])
  | some (p, k) => ∃ A c, e = .returned (.tuple #[.slice A p.length c, .int .i64 k]) ∧ Own w' w.heap.size 5 1 A p.length c (u8s p)

set_option maxRecDepth 100000 in
set_option maxHeartbeats 4000000 in
theorem refTake_any (A : Option Addr) (n c : Nat) (l : List UInt8) (w0 : World) (hx : Reads w0 w0.heap.size 1 A n (u8s l)) (hn : n ≤ c) (hc : c ≤ maxLen) :
    Calls Try.prog 26 #[.slice A n c] w0 fun e w' => TookR w0 w' (takeF l) e ∧ Below w0.heap.size w0 w' := by
  have hlen := hx.len_
  have hcm : c ≤ 9223372036854775807 := by unfold maxLen at hc; omega
  have HX := Lib.hid hx
  clear hx
  have hle := takeU_le l
  have ht : takeF l = if (takeU l).2 = 0 ∨ 4096 < (takeU l).1 ∨ l.length < (takeU l).2 + 4 + (takeU l).1 then none
    else if sealL ((l.drop ((takeU l).2 + 4)).take (takeU l).1) = l.take ((takeU l).2 + 4 + (takeU l).1) then some ((l.drop ((takeU l).2 + 4)).take (takeU l).1, (takeU l).2 + 4 + (takeU l).1) else none := rfl
  go_enter Try.func26, Try.ntmps26
  go_wp2_with fail
  refine (refTakeUint_any A n c l w0 HX.out hn hc).mono ?_
  rintro e w ⟨rfl, hb⟩
  generalize takeU l = t at ht hle ⊢
  obtain ⟨m, s⟩ := t
  dsimp only at ht hle ⊢
  have HT := Lib.hid ht
  have HB := Lib.hid hb
  have HR := Lib.hid ((HX.out.below hb).more hb.size)
  clear ht hb
  obtain ⟨hs1, hs2, hm1⟩ := hle
  by_cases hs : s = 0
  · have h1 : ((s : Int) == 0) = true := by rw [beq_iff_eq]; omega
    go_wp2_with fail
    go_ret2
    rw [HT.out, if_pos (.inl hs)]
    exact ⟨rfl, HB.out⟩
  · have h1 : ((s : Int) == 0) = false := by rw [beq_eq_false_iff_ne]; omega
    by_cases hm4 : (4096 : Int) < (m : Int)
    · go_wp2_with fail
      go_ret2
      rw [HT.out, if_pos (.inr (.inl (by omega)))]
      exact ⟨rfl, HB.out⟩
    · obtain ⟨k, hk⟩ : ∃ k, k = s + 4 := ⟨_, rfl⟩
      have hki : (s : Int) + 4 = (k : Int) := by omega
      obtain ⟨K, hK⟩ : ∃ K, K = k + m := ⟨_, rfl⟩
      have hKi : (k : Int) + (m : Int) = (K : Int) := by omega
      by_cases hlt : (n : Int) < (K : Int)
      · have HKK := Lib.hid (And.intro hk hK)
        clear hk hK
        go_wp2_with fail
        go_ret2
        rw [HT.out, if_pos (.inr (.inr (by have := HKK.out; omega)))]
        exact ⟨rfl, HB.out⟩
      · have hT2 := HT.out
        rw [if_neg (by omega)] at hT2
        rw [← hk, ← hK] at hT2
        obtain ⟨p, hp⟩ : ∃ p, p = (l.drop k).take m := ⟨_, rfl⟩
        have hpl : p.length = m := by rw [hp, List.length_take, List.length_drop]; omega
        rw [← hp] at hT2
        have hKn : K ≤ n := by omega
        obtain ⟨PA, hsl, hcut⟩ := cut_both (P := Try.prog) (lo := k) (hi := K) Try.underlying23 size_u8 A (c := c) (by omega) hKn hn
        have hsh := cut_high (P := Try.prog) (hi := K) (c := c) (n := n) Try.underlying23 size_u8 A (by omega)
        have hc1 := hcut _ _ _ HR.out
        have hKm : K - k = m := by omega
        rw [Nat.mul_one, Nat.mul_one, u8s_drop, hKm, u8s_take, ← hp] at hc1
        rw [hKm] at hsl
        have hr3 := HR.out.take (k := K) hKn
        rw [Nat.mul_one, u8s_take] at hr3
        have HK3 := Lib.hid hr3
        have HC := Lib.hid hc1
        have HT2 := Lib.hid hT2
        have HPL := Lib.hid hpl
        have hm2 : m ≤ 4096 := by omega
        have HKK := Lib.hid hK
        clear hcut hc1 hT2 hp hpl hK hk hr3 hKm
        go_wp2_with (at_builtin; refine halt_ ?_)
        refine unhalt ?_
        refine wpList_app elem_u8 (Own.empty w _ 1) (HC.out.alloc (Nat.le_refl _) _) (u8s_one p) (by omega) (by simp) _ _ rfl rfl rfl rfl ?_
        intro A2 c2 w2 ho hup hat2
        rw [Nat.zero_add, List.nil_append] at ho
        have hb2 : Below w.heap.size w w2 := (Upd.trans (S := fun _ => False) ((Upd.refl _ w).alloc _) hup (by intro i hi e; simp [blockOf] at e; omega)).none_
        have HO2 := Lib.hid (ho.mono HB.out.size)
        have HB2 := Lib.hid (HB.out.trans (hb2.mono HB.out.size))
        have HK4 := Lib.hid (((HK3.out.keeps (Nat.le_refl _)).on hb2).and ho.keepsR)
        clear ho hup hat2 hb2
        go_wp2_with fail
        have hw1 : IntKind.i64.wrap (k : Int) = (k : Int) := IntWalk.i64_in _ (by omega)
        have hw2 : IntKind.i64.wrap (m : Int) = (m : Int) := IntWalk.i64_in _ (by omega)
        have hw3 : IntKind.i64.wrap (K : Int) = (K : Int) := IntWalk.i64_in _ (by omega)
        refine wp_region_noPanic ?_
        refine wp_region_held_drew (S := fun w' => Below w2.heap.size w2 w') (by kernel_rfl) (below_drew w2) (fun hH => ?_)
        refine wpAnyH_take (i := 0) (oi := _) (v := ?_) (by simp only [List.getElem?_toArray, List.getElem?_cons_zero]; rfl) (by kernel_rfl) (by kernel_rfl) (by kernel_rfl) (fun _ _ _ h => h) (Or.inl ⟨by rfl, ?_⟩) (by assumption) ?_
        rotate_left
        · intro w' hSw; (try dsimp only at hSw); go_simp; try with_reducible rfl
        try simp only [Act.put, List.setIfInBounds_toArray, List.set_cons_zero, List.set_cons_succ]
        refine wpAnyH_take (i := 3) (oi := _) (v := ?_) (by simp only [List.getElem?_toArray, List.getElem?_cons_zero, List.getElem?_cons_succ]; rfl) (by kernel_rfl) (by kernel_rfl) (by kernel_rfl) (fun _ _ _ h => h) (Or.inl ⟨by rfl, ?_⟩) (by assumption) ?_
        rotate_left
        · intro w' hSw; (try dsimp only at hSw); go_simp; try with_reducible rfl
        try simp only [Act.put, List.setIfInBounds_toArray, List.set_cons_zero, List.set_cons_succ]
        refine wpAnyH_take (i := 4) (oi := _) (v := ?_) (by simp only [List.getElem?_toArray, List.getElem?_cons_zero, List.getElem?_cons_succ]; rfl) (by kernel_rfl) (by kernel_rfl) (by kernel_rfl) (fun _ _ _ h => h) (Or.inl ⟨by rfl, ?_⟩) (by assumption) ?_
        rotate_left
        · intro w' hSw; (try dsimp only at hSw); go_simp; try with_reducible rfl
        try simp only [Act.put, List.setIfInBounds_toArray, List.set_cons_zero, List.set_cons_succ]
        refine wpAnyH_take (i := 5) (oi := _) (v := ?_) (by simp only [List.getElem?_toArray, List.getElem?_cons_zero, List.getElem?_cons_succ]; rfl) (by kernel_rfl) (by kernel_rfl) (by kernel_rfl) (fun _ _ _ h => h) (Or.inl ⟨by rfl, ?_⟩) (by assumption) ?_
        rotate_left
        · intro w' hSw; (try dsimp only at hSw); go_simp; try with_reducible rfl
        try simp only [Act.put, List.setIfInBounds_toArray, List.set_cons_zero, List.set_cons_succ]
        refine wpAnyH_take (i := 6) (oi := _) (v := ?_) (by simp only [List.getElem?_toArray, List.getElem?_cons_zero, List.getElem?_cons_succ]; rfl) (by kernel_rfl) (by kernel_rfl) (by kernel_rfl) (fun _ _ _ h => h) (Or.inl ⟨by rfl, ?_⟩) (by assumption) ?_
        rotate_left
        · intro w' hSw; (try dsimp only at hSw); go_simp; try with_reducible rfl
        try simp only [Act.put, List.setIfInBounds_toArray, List.set_cons_zero, List.set_cons_succ]
        refine wpAnyH_take (i := 7) (oi := _) (v := ?_) (by simp only [List.getElem?_toArray, List.getElem?_cons_zero, List.getElem?_cons_succ]; rfl) (by kernel_rfl) (by kernel_rfl) (by kernel_rfl) (fun _ _ _ h => h) (Or.inl ⟨by rfl, ?_⟩) (by assumption) ?_
        rotate_left
        · intro w' hSw; (try dsimp only at hSw); go_simp; try with_reducible rfl
        try simp only [Act.put, List.setIfInBounds_toArray, List.set_cons_zero, List.set_cons_succ]
        refine wpAnyH_take (i := 8) (oi := _) (v := ?_) (by simp only [List.getElem?_toArray, List.getElem?_cons_zero, List.getElem?_cons_succ]; rfl) (by kernel_rfl) (by kernel_rfl) (by kernel_rfl) (fun _ _ _ h => h) (Or.inl ⟨by rfl, ?_⟩) (by assumption) ?_
        rotate_left
        · intro w' hSw; (try dsimp only at hSw); go_simp; try with_reducible rfl
        try simp only [Act.put, List.setIfInBounds_toArray, List.set_cons_zero, List.set_cons_succ]
        refine wpAnyH_take (i := 9) (oi := _) (v := ?_) (by simp only [List.getElem?_toArray, List.getElem?_cons_zero, List.getElem?_cons_succ]; rfl) (by kernel_rfl) (by kernel_rfl) (by kernel_rfl) (fun _ _ _ h => h) (Or.inl ⟨by rfl, ?_⟩) (by assumption) ?_
        rotate_left
        · intro w' hSw; (try dsimp only at hSw); go_simp; try with_reducible rfl
        try simp only [Act.put, List.setIfInBounds_toArray, List.set_cons_zero, List.set_cons_succ]
        refine wpAnyH_take (i := 10) (oi := _) (v := ?_) (by simp only [List.getElem?_toArray, List.getElem?_cons_zero, List.getElem?_cons_succ]; rfl) (by kernel_rfl) (by kernel_rfl) (by kernel_rfl) (fun _ _ _ h => h) (Or.inl ⟨by rfl, ?_⟩) (by assumption) ?_
        rotate_left
        · intro w' hSw; (try dsimp only at hSw); have hf := str_u8 (c := c) (HK4.out.at_ hSw).1; go_simp; try with_reducible rfl
        try simp only [Act.put, List.setIfInBounds_toArray, List.set_cons_zero, List.set_cons_succ]
        refine wpAnyH_ready (rs := [1]) (by kernel_rfl) (by simp) (AllReadyH.cons (o := _) (by simp only [List.getElem?_toArray, List.getElem?_cons_zero, List.getElem?_cons_succ]; rfl) (fun K hK => ?_) AllReadyH.nil)
        go_simp
        go_at_call 25
        refine (refSeal_any A2 m c2 p _ HK4.out.drew.now.2 (by omega)).mono ?_
        rintro e w3 ⟨A3, c3, rfl, ho, hb⟩
        have HB3 := Lib.hid ((below_drew w2).trans hb)
        have HK5 := Lib.hid ((HK4.out.on HB3.out).and ho.keepsR)
        clear ho hb
        try go_wp2_with fail
        refine hK.out _ _ (HB3.out) (fun hHeld => ?_)
        clear hK K hH
        have hH := hHeld
        clear hHeld
        try simp only [Act.put, List.setIfInBounds_toArray, List.set_cons_zero, List.set_cons_succ]
        refine wpAnyH_more (S' := fun w' => Below w3.heap.size w3 w') (fun w' h => HB3.out.trans (h.mono HB3.out.size)) _ _ _ _ ?_
        clear hH
        have hH := Below.refl w3.heap.size w3
        refine wpAnyH_take (i := 2) (oi := _) (v := ?_) (by simp only [List.getElem?_toArray, List.getElem?_cons_zero, List.getElem?_cons_succ]; rfl) (by kernel_rfl) (by kernel_rfl) (by kernel_rfl) (fun _ _ _ h => h) (Or.inl ⟨by rfl, ?_⟩) (by assumption) ?_
        rotate_left
        · intro w' hSw; (try dsimp only at hSw); have hf := str_u8 (c := c3) (HK5.out.at_ hSw).2; go_simp; try with_reducible rfl
        try simp only [Act.put, List.setIfInBounds_toArray, List.set_cons_zero, List.set_cons_succ]
        clear hw1 hw2 hw3
        have hbz : Below w0.heap.size w0 w3 := HB2.out.trans (HB3.out.mono HB2.out.size)
        have HBZ := Lib.hid hbz
        clear hbz
        by_cases heq : sealL p = l.take K
        · have hs := l_same heq
          have HEQ := Lib.hid heq
          clear heq
          refine wpAnyH_take (i := 11) (oi := _) (v := ?_) (by simp only [List.getElem?_toArray, List.getElem?_cons_zero, List.getElem?_cons_succ]; rfl) (by kernel_rfl) (by kernel_rfl) (by kernel_rfl) (fun _ _ _ h => h) (Or.inl ⟨by rfl, ?_⟩) (by assumption) ?_
          rotate_left
          · intro w' hSw; (try dsimp only at hSw); go_simp; try with_reducible rfl
          try simp only [Act.put, List.setIfInBounds_toArray, List.set_cons_zero, List.set_cons_succ]
          refine wpAnyH_done (by kernel_rfl) ?_ _
          refine NoPanic.normal ?_
          go_wp2_with fail
          go_ret2
          rw [HT2.out, if_pos HEQ.out]
          refine ⟨⟨A2, c2, by rw [HPL.out]; rfl, ?_⟩, HBZ.out⟩
          rw [HPL.out]
          exact HO2.out.below HB3.out (Nat.le_refl _)
        · have hs := l_other heq
          have HEQ := Lib.hid heq
          clear heq
          refine wpAnyH_take (i := 11) (oi := _) (v := ?_) (by simp only [List.getElem?_toArray, List.getElem?_cons_zero, List.getElem?_cons_succ]; rfl) (by kernel_rfl) (by kernel_rfl) (by kernel_rfl) (fun _ _ _ h => h) (Or.inl ⟨by rfl, ?_⟩) (by assumption) ?_
          rotate_left
          · intro w' hSw; (try dsimp only at hSw); go_simp; try with_reducible rfl
          try simp only [Act.put, List.setIfInBounds_toArray, List.set_cons_zero, List.set_cons_succ]
          refine wpAnyH_done (by kernel_rfl) ?_ _
          refine NoPanic.normal ?_
          go_wp2_with fail
          go_ret2
          rw [HT2.out, if_neg HEQ.out]
          exact ⟨rfl, HBZ.out⟩

set_option maxRecDepth 100000 in
set_option maxHeartbeats 4000000 in
theorem refScan_any (A : Option Addr) (n c : Nat) (b : List UInt8) (w : World) (hx : Reads w w.heap.size 1 A n (u8s b)) (hn : n ≤ c) (hc : c ≤ maxLen) (hn2 : n ≤ 20000000000000) :
    Calls Try.prog 28 #[.slice A n c] w fun e w' => ∃ D d vs, e = .returned (.tuple #[.slice D (scanF b).1.length d, .int .i64 (scanF b).2]) ∧
      Own w' w.heap.size 23 1 D (scanF b).1.length d vs ∧ OwnRows w' w.heap.size vs (scanF b).1 ∧ Below w.heap.size w w' := by
  have hlen := hx.len_
  have hcm : c ≤ 9223372036854775807 := by unfold maxLen at hc; omega
  have HX := Lib.hid hx
  have HL := Lib.hid hlen
  clear hx hlen
  go_enter Try.func28, Try.ntmps28
  go_wp2_with fail
  go_loopw [4, 5] (fun ov av wr => ∃ (D : Option Addr) (d at_ : Nat) (vs : List Value) (ls : List (List UInt8)), ov = .slice D ls.length d ∧ av = .int .i64 at_ ∧ at_ ≤ n ∧ 5 * ls.length ≤ at_ ∧ Own wr w.heap.size 23 1 D ls.length d vs ∧ OwnRows wr w.heap.size vs ls ∧ Below w.heap.size w wr ∧
    (scanF b).1 = ls ++ (scanF (b.drop at_)).1 ∧ (scanF b).2 = at_ + (scanF (b.drop at_)).2) (fun _ av _ => n - (intOf av).toNat)
  case atStart => exact ⟨none, 0, 0, [], [], rfl, rfl, by omega, by simp, Own.nil_ _ _ _ _, OwnRows.nil_ _ _, Below.refl _ _, by simp, by simp⟩
  case round =>
    obtain ⟨D, d, at_, vs, ls, rfl, rfl, hat, h5, ho, hr, hb, hs1, hs2⟩ := hrel
    have HO := Lib.hid ho
    have HR := Lib.hid hr
    have HB := Lib.hid hb
    have HS := Lib.hid (And.intro hs1 hs2)
    clear ho hr hb hs1 hs2
    by_cases hlt : (at_ : Int) < (n : Int)
    · obtain ⟨PA, hsl, hcut⟩ := cut_low (P := Try.prog) Try.underlying23 size_u8 A (c := c) hat hn
      have hc1 := hcut _ _ _ ((HX.out.below HB.out).more HB.out.size)
      rw [Nat.mul_one, u8s_drop] at hc1
      have HC := Lib.hid hc1
      clear hcut hc1
      go_wp2_with fail
      refine (refTake_any _ (n - at_) (c - at_) _ wr HC.out (by omega) (by unfold maxLen; omega)).mono ?_
      cases hf : takeF (b.drop at_) with
      | none =>
        rintro e w1 ⟨rfl, hb⟩
        have hs := scanF_none hf
        have HS2 := Lib.hid (And.intro HS.out hs)
        have HB1 := Lib.hid hb
        clear hf hs hb
        go_wp2_with fail
        go_ret2
        have e1 := HS2.out.1.1
        have e2 := HS2.out.1.2
        rw [HS2.out.2] at e1 e2
        simp only [List.append_nil, Nat.add_zero] at e1 e2
        rw [e1, e2]
        exact ⟨D, d, vs, rfl, HO.out.below HB1.out (Nat.le_refl _), HR.out.below HB1.out (Nat.le_refl _), HB.out.trans (HB1.out.mono HB.out.size)⟩
      | some x =>
        obtain ⟨p, k⟩ := x
        rintro e w1 ⟨⟨A1, c1, rfl, ho⟩, hb⟩
        have hs := scanF_some hf
        have hk := takeF_size hf
        rw [List.length_drop, HL.out] at hk
        obtain ⟨hk1, hk2, hk3, hk4, -, -⟩ := hk
        have HS2 := Lib.hid (And.intro HS.out hs)
        have HB1 := Lib.hid hb
        have HO1 := Lib.hid ho
        have hz1 := hb.size
        have HOO := Lib.hid (HO.out.below hb (Nat.le_refl _))
        have HRR := Lib.hid (HR.out.below hb (Nat.le_refl _))
        have hz0 := HB.out.size
        have hk0 : ((k : Int) == 0) = false := by rw [beq_eq_false_iff_ne]; omega
        clear hf hs hb ho
        go_wp2_with (at_builtin; refine halt_ ?_)
        refine unhalt ?_
        refine wpList_app elem_rows (HOO.out.alloc _) (reads_new (cs := #[_]) w1 23 1 rfl) (by simp [Value.oneCell']) (by omega) (by simp; omega) _ _ rfl rfl rfl rfl ?_
        intro D2 d2 w2 ho2 hup hat2
        have hoff : ∀ i, blockOf D = some i → w.heap.size ≤ i := fun i hi => (HOO.out.ge i hi).1
        have HB2 := Lib.hid (((HB.out.trans (HB1.out.mono hz0)).alloc (by omega) _).trans (hup.to_below (by simp; omega) (fun i hi e => by have := hoff _ e; omega)))
        have hr2 : OwnRows w2 w.heap.size (vs ++ [.slice A1 p.length c1]) (ls ++ [p]) := by
          have h1 := HRR.out.snoc (B := wr.heap.size) ⟨A1, c1, rfl, HO1.out⟩ hz0 (fun u hu g hg => (HR.out.ge hu g hg).2)
          refine (h1.upd ((Upd.refl (fun k => blockOf D = some k) w1).alloc (.cells #[.slice A1 p.length c1] 23)) (fun v hv g hg hD => h1.off HOO.out (by decide) hv g hg hD)).upd hup (fun v hv g hg hD => h1.off HOO.out (by decide) hv g hg hD)
        have HR2 := Lib.hid hr2
        have HO2 := Lib.hid ho2
        clear hr2 ho2 hup hat2 hoff
        go_wp2_with fail
        go_roundw
        case rel =>
          refine ⟨D2, d2, at_ + k, vs ++ [.slice A1 p.length c1], ls ++ [p], by simp, by simp, by omega, by simp; omega, by simpa using HO2.out, HR2.out, HB2.out, ?_, ?_⟩
          · rw [HS2.out.1.1, HS2.out.2, List.drop_drop, List.append_assoc]; rfl
          · rw [HS2.out.1.2, HS2.out.2, List.drop_drop, Nat.add_assoc]
        case measure => simp [intOf]; omega
    · go_wp2_with fail
      go_ret2
      have e0 : b.drop at_ = [] := List.drop_of_length_le (by have := HL.out; omega)
      have e1 := HS.out.1
      have e2 := HS.out.2
      rw [e0, scanF_nil] at e1 e2
      simp only [List.append_nil, Nat.add_zero] at e1 e2
      rw [e1, e2]
      exact ⟨D, d, rfl, vs, HO.out, HR.out, HB.out⟩
end Go.Proofs.Ytcdaioljddaopaa
