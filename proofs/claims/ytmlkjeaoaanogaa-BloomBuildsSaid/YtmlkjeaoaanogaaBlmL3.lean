/- law: BloomBuilds -/
import Derived.Test.YtmlkjeaoaanogaaBlmG
namespace Go.Proofs.Ytmlkjeaoaanogaa
open Go.RowKit

theorem hash_below (s : ByteArray) (w : World) (hs : s.size ≤ maxLen) :
    Calls Try.prog 12 #[.string s] w fun e w' => e = .returned (.int .u32 (hashL s.data.toList)) ∧ Below w.heap.size w w' := by
  refine (hash_any s w hs).mono ?_
  rintro e w1 ⟨rfl, rfl⟩
  exact ⟨rfl, Below.refl _ _⟩
theorem refHash_below (s : ByteArray) (w : World) (hs : s.size ≤ maxLen) :
    Calls Try.prog 13 #[.string s] w fun e w' => e = .returned (.int .i64 (hashL s.data.toList)) ∧ Below w.heap.size w w' := by
  refine (refHash_any s w hs).mono ?_
  rintro e w1 ⟨rfl, rfl⟩
  exact ⟨rfl, Below.refl _ _⟩



set_option maxRecDepth 100000 in
set_option maxHeartbeats 8000000 in
theorem buildsLaw_walk (A : Option Addr) (n c : Nat) (ks : List ByteArray) (per : Int) (b : ByteArray) (w : World) (hx : Reads w w.heap.size 1 A n (strs ks)) (hs : ∀ s ∈ ks, s.size ≤ maxLen) (hnc : n ≤ c) (hc : c ≤ 8796093021952) (hbs : b.size ≤ maxLen) :
    Calls Try.prog 3 #[.slice A n c, .int .i64 per, .string b] w fun e w' => e = .returned (.bool true) ∧ Below w.heap.size w w' := by
  have hlen : ks.length = n := by have := hx.1; rw [strs_length] at this; omega
  have HK := Lib.hid ((Keeps.start w).and (hx.keeps (Nat.le_refl _)))
  clear hx
  go_enter Try.func3, Try.ntmps3
  go_wp2_with fail
  refine (awake_any w).mono ?_
  rintro e w1 ⟨rfl, hb⟩
  have HK1 := Lib.hid (HK.out.on hb)
  clear HK hb
  go_wp2_with fail
  refine (cut_any A n c ks w1 HK1.out.now.2 hnc (by omega)).mono ?_
  rintro e w2 ⟨A2, c2, rfl, ho, hb⟩
  obtain ⟨m, hm⟩ : ∃ m, m = min n 200 := ⟨_, rfl⟩
  obtain ⟨k2, hk2⟩ : ∃ k2, k2 = ks.take 200 := ⟨_, rfl⟩
  have hk2l : k2.length = m := by rw [hk2, List.length_take, hlen, hm]; omega
  have hs2 : ∀ s ∈ k2, s.size ≤ maxLen := fun s h => hs s (List.mem_of_mem_take (hk2 ▸ h))
  rw [← hm, ← hk2] at ho
  rw [← hm]
  have hm2 : m ≤ 200 := by omega
  have hmc := ho.le
  have HK2 := Lib.hid ((HK1.out.on hb).and ho.keepsR)
  have HKL := Lib.hid hk2l
  have HS2 := Lib.hid hs2
  have ht2 : k2.take 200 = k2 := List.take_of_length_le (by omega)
  clear HK1 hb ho hm hk2 hk2l hs2 hlen
  go_wp2_with fail
  refine (cut_any A2 m c2 k2 w2 HK2.out.now.2 hmc (by omega)).mono ?_
  rw [ht2, show min m 200 = m by omega]
  rintro e w3 ⟨A3, c3, rfl, ho, hb⟩
  have hmc3 := ho.le
  have HK3 := Lib.hid ((HK2.out.on hb).and ho.keepsR)
  clear HK2 hb ho ht2
  go_wp2_with fail
  refine (build_any A3 m c3 k2 per w3 HK3.out.now.2 (by omega) hmc3 HS2.out).mono ?_
  rintro e w4 ⟨A4, c4, rfl, ho, hb⟩
  have hfl := buildL_length (keysL k2) per (by simp [keysL, HKL.out]; omega)
  have hsz := sizeN_le (n := (keysL k2).length) (per := perN per) (by simp [keysL, HKL.out]; omega) (perN_le per).2
  have hrb := fun w hx => refBuild_any A2 m c2 k2 per w hx (by omega) HS2.out
  obtain ⟨f, hf⟩ : ∃ f, f = buildL (keysL k2) per := ⟨_, rfl⟩
  rw [← hf] at ho hfl hrb ⊢
  have hf2 : f.length ≤ 200000 := by omega
  have HK4 := Lib.hid ((HK3.out.on hb).and ho.keepsR)
  clear HK3 hb ho hf hfl hsz
  obtain ⟨F, hF⟩ : ∃ F, F = f.length := ⟨_, rfl⟩
  rw [← hF] at HK4 hf2 hrb ⊢
  have HRB := Lib.hid hrb
  clear hF hrb
  have hh := hashL_lt b.data.toList
  have hha := fun w => hash_below b w hbs
  have hhb := fun w => refHash_below b w hbs
  obtain ⟨h, hhe⟩ : ∃ h, h = hashL b.data.toList := ⟨_, rfl⟩
  rw [← hhe] at hh hha hhb
  have hwr : IntKind.i64.wrap (h : Int) = h := IntWalk.i64_in _ (by omega)
  have HHA := Lib.hid hha
  have HHB := Lib.hid hhb
  clear hhe hha hhb
  have hma := fun A c w hx => may_any A F c f b w hx (by unfold maxLen; omega) hbs
  have hmb := fun A c w hx => refMay_any A F c f b w hx (by unfold maxLen; omega) hbs
  obtain ⟨y, hye⟩ : ∃ y, y = mayL f b.data.toList := ⟨_, rfl⟩
  rw [← hye] at hma hmb
  have HMA := Lib.hid hma
  have HMB := Lib.hid hmb
  clear hye hma hmb
  go_wp2_with fail
  refine wp_region_noPanic ?_
  refine wp_region_held_drew (S := fun w' => Below w4.heap.size w4 w') (by kernel_rfl) (below_drew w4) (fun hH => ?_)
  refine wpAnyH_take (i := 0) (oi := _) (v := ?_) (by simp only [List.getElem?_toArray, List.getElem?_cons_zero]; rfl) (by kernel_rfl) (by kernel_rfl) (by kernel_rfl) (fun _ _ _ h => h) (Or.inl ⟨by rfl, ?_⟩) (by assumption) ?_
  rotate_left
  · intro w' hSw; (try dsimp only at hSw); go_simp; try with_reducible rfl
  try simp only [Act.put, List.setIfInBounds_toArray, List.set_cons_zero, List.set_cons_succ]
  refine wpAnyH_take (i := 1) (oi := _) (v := ?_) (by simp only [List.getElem?_toArray, List.getElem?_cons_zero, List.getElem?_cons_succ]; rfl) (by kernel_rfl) (by kernel_rfl) (by kernel_rfl) (fun _ _ _ h => h) (Or.inl ⟨by rfl, ?_⟩) (by assumption) ?_
  rotate_left
  · intro w' hSw; (try dsimp only at hSw); have hf := str_u8 (c := c4) (HK4.out.at_ hSw).2; go_simp; try with_reducible rfl
  try simp only [Act.put, List.setIfInBounds_toArray, List.set_cons_zero, List.set_cons_succ]
  refine wpAnyH_take (i := 2) (oi := _) (v := ?_) (by simp only [List.getElem?_toArray, List.getElem?_cons_zero, List.getElem?_cons_succ]; rfl) (by kernel_rfl) (by kernel_rfl) (by kernel_rfl) (fun _ _ _ h => h) (Or.inl ⟨by rfl, ?_⟩) (by assumption) ?_
  rotate_left
  · intro w' hSw; (try dsimp only at hSw); go_simp; try with_reducible rfl
  try simp only [Act.put, List.setIfInBounds_toArray, List.set_cons_zero, List.set_cons_succ]
  refine wpAnyH_take (i := 3) (oi := _) (v := ?_) (by simp only [List.getElem?_toArray, List.getElem?_cons_zero, List.getElem?_cons_succ]; rfl) (by kernel_rfl) (by kernel_rfl) (by kernel_rfl) (fun _ _ _ h => h) (Or.inl ⟨by rfl, ?_⟩) (by assumption) ?_
  rotate_left
  · intro w' hSw; (try dsimp only at hSw); go_simp; try with_reducible rfl
  try simp only [Act.put, List.setIfInBounds_toArray, List.set_cons_zero, List.set_cons_succ]
  refine wpAnyH_ready (rs := [4]) (by kernel_rfl) (by simp) (AllReadyH.cons (o := _) (by simp only [List.getElem?_toArray, List.getElem?_cons_zero, List.getElem?_cons_succ]; rfl) (fun K hK => ?_) AllReadyH.nil)
  go_simp
  go_at_call 11
  refine (HRB.out _ HK4.out.drew.now.1.1.2).mono ?_
  rintro e w5 ⟨A5, c5, rfl, ho, hb⟩
  have HB5 := Lib.hid ((below_drew w4).trans hb)
  have HK5 := Lib.hid ((HK4.out.on HB5.out).and ho.keepsR)
  clear ho hb
  try go_wp2_with fail
  refine hK.out _ _ (HB5.out) (fun hHeld => ?_)
  clear hK K hH
  have hH := hHeld
  clear hHeld
  try simp only [Act.put, List.setIfInBounds_toArray, List.set_cons_zero, List.set_cons_succ]
  refine wpAnyH_more (S' := fun w' => Below w5.heap.size w5 w') (fun w' h => HB5.out.trans (h.mono HB5.out.size)) _ _ _ _ ?_
  clear hH
  have hH := Below.refl w5.heap.size w5
  refine wpAnyH_take (i := 5) (oi := _) (v := ?_) (by simp only [List.getElem?_toArray, List.getElem?_cons_zero, List.getElem?_cons_succ]; rfl) (by kernel_rfl) (by kernel_rfl) (by kernel_rfl) (fun _ _ _ h => h) (Or.inl ⟨by rfl, ?_⟩) (by assumption) ?_
  rotate_left
  · intro w' hSw; (try dsimp only at hSw); have hf := str_u8 (c := c5) (HK5.out.at_ hSw).2; go_simp; try with_reducible rfl
  try simp only [Act.put, List.setIfInBounds_toArray, List.set_cons_zero, List.set_cons_succ]
  refine wpAnyH_take (i := 6) (oi := _) (v := ?_) (by simp only [List.getElem?_toArray, List.getElem?_cons_zero, List.getElem?_cons_succ]; rfl) (by kernel_rfl) (by kernel_rfl) (by kernel_rfl) (fun _ _ _ h => h) (Or.inl ⟨by rfl, ?_⟩) (by assumption) ?_
  rotate_left
  · intro w' hSw; (try dsimp only at hSw); go_simp; try with_reducible rfl
  try simp only [Act.put, List.setIfInBounds_toArray, List.set_cons_zero, List.set_cons_succ]
  refine wpAnyH_take (i := 7) (oi := _) (v := ?_) (by simp only [List.getElem?_toArray, List.getElem?_cons_zero, List.getElem?_cons_succ]; rfl) (by kernel_rfl) (by kernel_rfl) (by kernel_rfl) (fun _ _ _ h => h) (Or.inl ⟨by rfl, ?_⟩) (by assumption) ?_
  rotate_left
  · intro w' hSw; (try dsimp only at hSw); go_simp; try with_reducible rfl
  try simp only [Act.put, List.setIfInBounds_toArray, List.set_cons_zero, List.set_cons_succ]
  refine wpAnyH_take (i := 8) (oi := _) (v := ?_) (by simp only [List.getElem?_toArray, List.getElem?_cons_zero, List.getElem?_cons_succ]; rfl) (by kernel_rfl) (by kernel_rfl) (by kernel_rfl) (fun _ _ _ h => h) (Or.inl ⟨by rfl, ?_⟩) (by assumption) ?_
  rotate_left
  · intro w' hSw; (try dsimp only at hSw); go_simp; try with_reducible rfl
  try simp only [Act.put, List.setIfInBounds_toArray, List.set_cons_zero, List.set_cons_succ]
  refine wpAnyH_take (i := 11) (oi := _) (v := ?_) (by simp only [List.getElem?_toArray, List.getElem?_cons_zero, List.getElem?_cons_succ]; rfl) (by kernel_rfl) (by kernel_rfl) (by kernel_rfl) (fun _ _ _ h => h) (Or.inl ⟨by rfl, ?_⟩) (by assumption) ?_
  rotate_left
  · intro w' hSw; (try dsimp only at hSw); go_simp; try with_reducible rfl
  try simp only [Act.put, List.setIfInBounds_toArray, List.set_cons_zero, List.set_cons_succ]
  refine wpAnyH_ready (rs := [9]) (by kernel_rfl) (by simp) (AllReadyH.cons (o := _) (by simp only [List.getElem?_toArray, List.getElem?_cons_zero, List.getElem?_cons_succ]; rfl) (fun K hK => ?_) AllReadyH.nil)
  go_simp
  go_at_call 12
  refine (HHA.out _).mono ?_
  rintro e w6 ⟨rfl, hb⟩
  have HB6 := Lib.hid (hb)
  clear hb
  try go_wp2_with fail
  refine hK.out _ _ (HB6.out) (fun hHeld => ?_)
  clear hK K hH
  have hH := hHeld
  clear hHeld
  try simp only [Act.put, List.setIfInBounds_toArray, List.set_cons_zero, List.set_cons_succ]
  refine wpAnyH_take (i := 10) (oi := _) (v := ?_) (by simp only [List.getElem?_toArray, List.getElem?_cons_zero, List.getElem?_cons_succ]; rfl) (by kernel_rfl) (by kernel_rfl) (by kernel_rfl) (fun _ _ _ h => h) (Or.inl ⟨by rfl, ?_⟩) (by assumption) ?_
  rotate_left
  · intro w' hSw; (try dsimp only at hSw); go_simp; try with_reducible rfl
  try simp only [Act.put, List.setIfInBounds_toArray, List.set_cons_zero, List.set_cons_succ]
  refine wpAnyH_ready (rs := [12]) (by kernel_rfl) (by simp) (AllReadyH.cons (o := _) (by simp only [List.getElem?_toArray, List.getElem?_cons_zero, List.getElem?_cons_succ]; rfl) (fun K hK => ?_) AllReadyH.nil)
  go_simp
  go_at_call 13
  refine (HHB.out _).mono ?_
  rintro e w7 ⟨rfl, hb⟩
  have HB7 := Lib.hid (HB6.out.trans (hb.mono HB6.out.size))
  clear hb
  try go_wp2_with fail
  refine hK.out _ _ (HB7.out) (fun hHeld => ?_)
  clear hK K hH
  have hH := hHeld
  clear hHeld
  try simp only [Act.put, List.setIfInBounds_toArray, List.set_cons_zero, List.set_cons_succ]
  refine wpAnyH_take (i := 13) (oi := _) (v := ?_) (by simp only [List.getElem?_toArray, List.getElem?_cons_zero, List.getElem?_cons_succ]; rfl) (by kernel_rfl) (by kernel_rfl) (by kernel_rfl) (fun _ _ _ h => h) (Or.inl ⟨by rfl, ?_⟩) (by assumption) ?_
  rotate_left
  · intro w' hSw; (try dsimp only at hSw); go_simp; try with_reducible rfl
  try simp only [Act.put, List.setIfInBounds_toArray, List.set_cons_zero, List.set_cons_succ]
  refine wpAnyH_take (i := 14) (oi := _) (v := ?_) (by simp only [List.getElem?_toArray, List.getElem?_cons_zero, List.getElem?_cons_succ]; rfl) (by kernel_rfl) (by kernel_rfl) (by kernel_rfl) (fun _ _ _ h => h) (Or.inl ⟨by rfl, ?_⟩) (by assumption) ?_
  rotate_left
  · intro w' hSw; (try dsimp only at hSw); go_simp; try with_reducible rfl
  try simp only [Act.put, List.setIfInBounds_toArray, List.set_cons_zero, List.set_cons_succ]
  refine wpAnyH_take (i := 15) (oi := _) (v := ?_) (by simp only [List.getElem?_toArray, List.getElem?_cons_zero, List.getElem?_cons_succ]; rfl) (by kernel_rfl) (by kernel_rfl) (by kernel_rfl) (fun _ _ _ h => h) (Or.inl ⟨by rfl, ?_⟩) (by assumption) ?_
  rotate_left
  · intro w' hSw; (try dsimp only at hSw); go_simp; try with_reducible rfl
  try simp only [Act.put, List.setIfInBounds_toArray, List.set_cons_zero, List.set_cons_succ]
  refine wpAnyH_take (i := 16) (oi := _) (v := ?_) (by simp only [List.getElem?_toArray, List.getElem?_cons_zero, List.getElem?_cons_succ]; rfl) (by kernel_rfl) (by kernel_rfl) (by kernel_rfl) (fun _ _ _ h => h) (Or.inl ⟨by rfl, ?_⟩) (by assumption) ?_
  rotate_left
  · intro w' hSw; (try dsimp only at hSw); go_simp; try with_reducible rfl
  try simp only [Act.put, List.setIfInBounds_toArray, List.set_cons_zero, List.set_cons_succ]
  refine wpAnyH_take (i := 17) (oi := _) (v := ?_) (by simp only [List.getElem?_toArray, List.getElem?_cons_zero, List.getElem?_cons_succ]; rfl) (by kernel_rfl) (by kernel_rfl) (by kernel_rfl) (fun _ _ _ h => h) (Or.inl ⟨by rfl, ?_⟩) (by assumption) ?_
  rotate_left
  · intro w' hSw; (try dsimp only at hSw); go_simp; try with_reducible rfl
  try simp only [Act.put, List.setIfInBounds_toArray, List.set_cons_zero, List.set_cons_succ]
  refine wpAnyH_take (i := 19) (oi := _) (v := ?_) (by simp only [List.getElem?_toArray, List.getElem?_cons_zero, List.getElem?_cons_succ]; rfl) (by kernel_rfl) (by kernel_rfl) (by kernel_rfl) (fun _ _ _ h => h) (Or.inl ⟨by rfl, ?_⟩) (by assumption) ?_
  rotate_left
  · intro w' hSw; (try dsimp only at hSw); go_simp; try with_reducible rfl
  try simp only [Act.put, List.setIfInBounds_toArray, List.set_cons_zero, List.set_cons_succ]
  refine wpAnyH_take (i := 20) (oi := _) (v := ?_) (by simp only [List.getElem?_toArray, List.getElem?_cons_zero, List.getElem?_cons_succ]; rfl) (by kernel_rfl) (by kernel_rfl) (by kernel_rfl) (fun _ _ _ h => h) (Or.inl ⟨by rfl, ?_⟩) (by assumption) ?_
  rotate_left
  · intro w' hSw; (try dsimp only at hSw); go_simp; try with_reducible rfl
  try simp only [Act.put, List.setIfInBounds_toArray, List.set_cons_zero, List.set_cons_succ]
  refine wpAnyH_ready (rs := [18]) (by kernel_rfl) (by simp) (AllReadyH.cons (o := _) (by simp only [List.getElem?_toArray, List.getElem?_cons_zero, List.getElem?_cons_succ]; rfl) (fun K hK => ?_) AllReadyH.nil)
  go_simp
  go_at_call 14
  refine (HMA.out A4 c4 _ (HK5.out.on HB7.out).now.1.2).mono ?_
  rintro e w8 ⟨rfl, hb⟩
  have HB8 := Lib.hid (HB7.out.trans (hb.mono HB7.out.size))
  clear hb
  try go_wp2_with fail
  refine hK.out _ _ (HB8.out) (fun hHeld => ?_)
  clear hK K hH
  have hH := hHeld
  clear hHeld
  try simp only [Act.put, List.setIfInBounds_toArray, List.set_cons_zero, List.set_cons_succ]
  refine wpAnyH_ready (rs := [21]) (by kernel_rfl) (by simp) (AllReadyH.cons (o := _) (by simp only [List.getElem?_toArray, List.getElem?_cons_zero, List.getElem?_cons_succ]; rfl) (fun K hK => ?_) AllReadyH.nil)
  go_simp
  go_at_call 15
  refine (HMB.out A4 c4 _ (HK5.out.on HB8.out).now.1.2).mono ?_
  rintro e w9 ⟨rfl, hb⟩
  have HB9 := Lib.hid (HB8.out.trans (hb.mono HB8.out.size))
  clear hb
  try go_wp2_with fail
  refine hK.out _ _ (HB9.out) (fun hHeld => ?_)
  clear hK K hH
  have hH := hHeld
  clear hHeld
  try simp only [Act.put, List.setIfInBounds_toArray, List.set_cons_zero, List.set_cons_succ]
  refine wpAnyH_take (i := 22) (oi := _) (v := ?_) (by simp only [List.getElem?_toArray, List.getElem?_cons_zero, List.getElem?_cons_succ]; rfl) (by kernel_rfl) (by kernel_rfl) (by kernel_rfl) (fun _ _ _ h => h) (Or.inl ⟨by rfl, ?_⟩) (by assumption) ?_
  rotate_left
  · intro w' hSw; (try dsimp only at hSw); go_simp; try with_reducible rfl
  try simp only [Act.put, List.setIfInBounds_toArray, List.set_cons_zero, List.set_cons_succ]
  refine wpAnyH_take (i := 23) (oi := _) (v := ?_) (by simp only [List.getElem?_toArray, List.getElem?_cons_zero, List.getElem?_cons_succ]; rfl) (by kernel_rfl) (by kernel_rfl) (by kernel_rfl) (fun _ _ _ h => h) (Or.inl ⟨by rfl, ?_⟩) (by assumption) ?_
  rotate_left
  · intro w' hSw; (try dsimp only at hSw); go_simp; try with_reducible rfl
  try simp only [Act.put, List.setIfInBounds_toArray, List.set_cons_zero, List.set_cons_succ]
  refine wpAnyH_take (i := 24) (oi := _) (v := ?_) (by simp only [List.getElem?_toArray, List.getElem?_cons_zero, List.getElem?_cons_succ]; rfl) (by kernel_rfl) (by kernel_rfl) (by kernel_rfl) (fun _ _ _ h => h) (Or.inl ⟨by rfl, ?_⟩) (by assumption) ?_
  rotate_left
  · intro w' hSw; (try dsimp only at hSw); go_simp; try with_reducible rfl
  try simp only [Act.put, List.setIfInBounds_toArray, List.set_cons_zero, List.set_cons_succ]
  refine wpAnyH_done (by kernel_rfl) ?_ _
  refine NoPanic.normal ?_
  go_wp2_with fail
  go_ret
  exact ⟨by simp, (HK5.out.on HB9.out).now.1.1.1.1.1⟩

theorem buildsLaw_vals (W : World) (args : Array Value) (hv : Vals Try.prog W [22, 3, 9] args.toList) :
    Calls Try.prog 3 args W fun e W' => e = .returned (.bool true) ∧ Below W.heap.size W W' := by
  obtain ⟨v0, r0, e0, h0, v1, r1, rfl, h1, v2, r2, rfl, h2, rfl⟩ := hv
  obtain rfl : args = #[v0, v1, v2] := by cases args; simp_all
  obtain ⟨A, n, c, ks, rfl, hr, hs, hnc, hc⟩ := val_strs h0
  obtain ⟨per, rfl, _⟩ := val_int Try.underlying3 h1
  obtain ⟨b, rfl, hb⟩ := val_string Try.underlying9 h2
  exact buildsLaw_walk A n c ks per b W hr hs hnc hc hb.1

set_option maxRecDepth 100000 in
theorem buildsLaw_lifted (os : Os) (started : os.Started) (H : Type) (enc : TypeId × Value → H) :
    ReturnsInHanded {} Try.checked os 3 .any (Rows.bloomBuildsSpec.pre6 enc Try.prog Try.f3 Rows.bloomBuildsRow.domain false) (Rows.bloomBuildsSpec.post enc Try.prog Try.f3 false true false false) :=
  lift_law (C := Try.checked) #[22, 3, 9] (by kernel_rfl) (by kernel_rfl) started (by kernel_rfl) Try.func3
    (ChangeSpec.witness6 (enc := enc) (C := Try.checked) false ⟨#[], #[.slice none 0 0, .int .i64 0, .string .empty], []⟩ 8 (by kernel_rfl) (by kernel_rfl) (by kernel_rfl) (by kernel_rfl))
    Try.params3 (by kernel_rfl) rfl rfl Try.underlying4 (fun ds hl => match ds, hl with | [_, _, _], _ => rfl) (fun W args hv => buildsLaw_vals W args hv)

theorem buildsLaw_holds : Rows.BloomBuildsSaid :=
  OpenClaim.holds_of_wide 3 Try.f3 rfl rfl rfl rfl rfl rfl rfl ⟨rfl, rfl, rfl, rfl, rfl⟩ rfl rfl rfl rfl rfl (by kernel_rfl) Try.func3 (by kernel_rfl)
    (of_decide_eq_true (by kernel_rfl)) (by unfold Func.isWrapper; rw [if_neg (of_decide_eq_false (by kernel_rfl))]; exact ⟨rfl, rfl⟩)
    (fun os started H enc _ => buildsLaw_lifted os started H enc)
end Go.Proofs.Ytmlkjeaoaanogaa
