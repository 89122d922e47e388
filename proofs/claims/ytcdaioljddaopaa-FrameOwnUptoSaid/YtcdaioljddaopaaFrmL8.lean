/- law: FrameOwn (the second form) -/
import Derived.Test.YtcdaioljddaopaaFrmX
import Derived.Test.YtcdaioljddaopaaFrmV
import Derived.Test.YtcdaioljddaopaaLibU
namespace Go.Proofs.Ytcdaioljddaopaa
open Go.RowKit

theorem scanF_two {l more : List UInt8} (hl : l.length ≤ 4096) : ∃ rest k, scanF (sealL l ++ sealL l ++ more) = (l :: l :: rest, 2 * (sealL l).length + k) := by
  have h1 := takeF_seal l (sealL l ++ more) hl
  have h2 := takeF_seal l more hl
  rw [List.append_assoc, scanF_some h1, List.drop_left' rfl, scanF_some h2, List.drop_left' rfl]
  exact ⟨_, (scanF more).2, by congr 1; omega⟩

set_option maxRecDepth 100000 in
set_option maxHeartbeats 4000000 in
theorem ownL_walk (A D : Option Addr) (n c m d : Nat) (l more : List UInt8) (w : World) (hx : Reads w w.heap.size 1 A n (u8s l)) (hc : n ≤ 1048576)
    (hy : Reads w w.heap.size 1 D m (u8s more)) (hd : m ≤ 1048576) :
    Calls Try.prog 10 #[.slice A n c, .slice D m d] w fun e w' => e = .returned (.bool true) ∧ Below w.heap.size w w' := by
  have hlen := hx.len_
  have HL := Lib.hid hlen
  have HX0 := Lib.hid hx
  clear hlen
  have HK := Lib.hid ((Keeps.start w).and ((hx.keeps (Nat.le_refl _)).and (hy.keeps (Nat.le_refl _))))
  clear hx hy
  go_enter Try.func10, Try.ntmps10
  go_wp2_with fail
  refine (awake_any w).mono ?_
  rintro e w1 ⟨rfl, hb⟩
  have HK1 := Lib.hid (HK.out.on hb)
  clear HK hb
  by_cases hlong : (4096 : Int) < n
  · go_wp2_with fail
    refine (awake_any _).mono ?_
    rintro e w2 ⟨rfl, hb⟩
    go_wp2_with fail
    go_ret
    exact ⟨rfl, (HK1.out.on hb).now.1⟩
  · go_wp2_with fail
    refine (own_any A n c l w1 HK1.out.now.2.1 (by omega)).mono ?_
    rintro e w2 ⟨A2, c2, rfl, ho, hb⟩
    have HO2 := Lib.hid ho
    have HB2 := Lib.hid hb
    have hz2 := hb.size
    clear ho hb
    go_wp2_with (at_builtin; refine halt_ ?_)
    refine unhalt ?_
    refine wpList_app elem_u8 (HO2.out.alloc _) (reads_new (cs := #[_]) w2 5 1 rfl) (by simp [Value.oneCell']) (by omega) (by simp; omega) _ _ rfl rfl rfl rfl ?_
    intro A3 c3 w3 ho hup hat
    have hb3 := below_app (HB2.out.alloc hz2 _) (by simp; omega) (HO2.out.alloc _) (Nat.le_refl _) hup
    have ho3 : Own w3 w1.heap.size 5 1 A3 (n + 1) c3 (u8s (l ++ [7])) := by rw [u8s_append]; exact ho
    have hcap3 := ho3.le
    obtain ⟨g3, rfl, -, -, -, -⟩ := ho3.some_ (by omega)
    have hc7 := ho3.cell rfl (j := n) (u := .int .u8 (7 : UInt8).toNat) (by rw [u8s_get, List.getElem?_append_right (by rw [HL.out]; exact Nat.le_refl _), HL.out, Nat.sub_self]; rfl)
    have h7 : ∀ w', Below w3.heap.size w3 w' → w'.cell? ⟨g3, n, none⟩ = some (.int .u8 (7 : UInt8).toNat) := fun w' hb => by
      rw [hb.cell (World.block_lt_of_cell? _ _ hc7)]
      exact hc7
    have H7 := Lib.hid h7
    clear hc7 h7
    have HK3 := Lib.hid ((HK1.out.on hb3).and ho3.keepsR)
    clear HO2 HB2 hb3 ho3 ho hup hat hz2
    have hsf := cut_high (P := Try.prog) (n := n + 1) (hi := n) (c := c3) Try.underlying23 size_u8 (some ⟨g3, 0, none⟩) (by omega)
    have hfull := fun w' (hb : Below w3.heap.size w3 w') => by
      have h := (HK3.out.at_ hb).2.take (k := n) (by omega)
      rw [Nat.mul_one, u8s_take, List.take_left' HL.out] at h
      exact h
    have HF := Lib.hid hfull
    clear hfull
    go_wp2_with fail
    refine (seal_any _ n c3 l w3 (HF.out w3 (Below.refl _ _)) (by omega)).mono ?_
    rintro e w4 ⟨A4, c4, rfl, ho, hb⟩
    have hsl := sealL_length l
    have hul := uintL_len64 (n := l.length) (by have := HL.out; omega)
    have hs1 : (sealL l).length ≤ 4200 := by have := HL.out; omega
    have hs2 : 5 ≤ (sealL l).length := by
      have : 1 ≤ (uintL l.length).length := by
        obtain ⟨pre, c, h, _⟩ := uintL_form l.length
        rw [h]; simp
      omega
    obtain ⟨rest, kk, hsc⟩ := scanF_two (l := l) (more := more) (by have := HL.out; omega)
    obtain ⟨s, hs⟩ : ∃ s, s = sealL l := ⟨_, rfl⟩
    rw [← hs] at ho hs1 hs2 hsc ⊢
    have hcs := takeF_seal l (s ++ more) (by have := HL.out; omega)
    rw [← hs, ← List.append_assoc] at hcs
    obtain ⟨gb, rfl, hb1, hb2, -, -⟩ := ho.some_ (by omega)
    have HOb := Lib.hid ho
    have HB4 := Lib.hid hb
    have HSC := Lib.hid (And.intro hsc hcs)
    have HS := Lib.hid hs
    have HK4 := Lib.hid ((HK3.out.on hb).and ho.keeps)
    clear hb ho hsl hul hsc hs hcs
    go_wp2_with fail
    refine (seal_any _ n c3 l w4 (HF.out w4 HB4.out) (by omega)).mono ?_
    rw [← HS.out]
    rintro e w5 ⟨A5, c5, rfl, ho, hb⟩
    have HB35 := Lib.hid (HB4.out.trans (hb.mono HB4.out.size))
    have HK5 := Lib.hid ((HK4.out.on hb).and ho.keeps)
    have HZ5 := Lib.hid (And.intro hb.size ho.ge)
    clear hb ho
    have hn0 : (0 : Int) ≤ (n : Int) := by omega
    have hn1 : (n : Int) < (n : Int) + 1 := by omega
    go_wp2_with fail
    refine wp_region_noPanic ?_
    refine wp_region_held_drew (S := fun w' => Below w5.heap.size w5 w') (by kernel_rfl) (below_drew w5) (fun hH => ?_)
    refine wpAnyH_take (i := 0) (oi := _) (v := ?_) (by simp only [List.getElem?_toArray, List.getElem?_cons_zero]; rfl) (by kernel_rfl) (by kernel_rfl) (by kernel_rfl) (fun _ _ _ h => h) (Or.inl ⟨by rfl, ?_⟩) (by assumption) ?_
    rotate_left
    · intro w' hSw; (try dsimp only at hSw); go_simp; try with_reducible rfl
    try simp only [Act.put, List.setIfInBounds_toArray, List.set_cons_zero, List.set_cons_succ]
    refine wpAnyH_take (i := 1) (oi := _) (v := ?_) (by simp only [List.getElem?_toArray, List.getElem?_cons_zero, List.getElem?_cons_succ]; rfl) (by kernel_rfl) (by kernel_rfl) (by kernel_rfl) (fun _ _ _ h => h) (Or.inl ⟨by rfl, ?_⟩) (by assumption) ?_
    rotate_left
    · intro w' hSw; (try dsimp only at hSw); go_simp; try with_reducible rfl
    try simp only [Act.put, List.setIfInBounds_toArray, List.set_cons_zero, List.set_cons_succ]
    refine wpAnyH_take (i := 2) (oi := _) (v := ?_) (by simp only [List.getElem?_toArray, List.getElem?_cons_zero, List.getElem?_cons_succ]; rfl) (by kernel_rfl) (by kernel_rfl) (by kernel_rfl) (fun _ _ _ h => h) (Or.inl ⟨by rfl, ?_⟩) (by assumption) ?_
    rotate_left
    · intro w' hSw; (try dsimp only at hSw); go_simp; try with_reducible rfl
    try simp only [Act.put, List.setIfInBounds_toArray, List.set_cons_zero, List.set_cons_succ]
    refine wpAnyH_take (i := 3) (oi := _) (v := ?_) (by simp only [List.getElem?_toArray, List.getElem?_cons_zero, List.getElem?_cons_succ]; rfl) (by kernel_rfl) (by kernel_rfl) (by kernel_rfl) (fun _ _ _ h => h) (Or.inl ⟨by rfl, ?_⟩) (by assumption) ?_
    rotate_left
    · intro w' hSw; (try dsimp only at hSw); go_simp; try with_reducible rfl
    try simp only [Act.put, List.setIfInBounds_toArray, List.set_cons_zero, List.set_cons_succ]
    refine wpAnyH_take (i := 4) (oi := _) (v := ?_) (by simp only [List.getElem?_toArray, List.getElem?_cons_zero, List.getElem?_cons_succ]; rfl) (by kernel_rfl) (by kernel_rfl) (by kernel_rfl) (fun _ _ _ h => h) (Or.inl ⟨by rfl, ?_⟩) (by assumption) ?_
    rotate_left
    · intro w' hSw; (try dsimp only at hSw); have hf := str_u8 (c := c3) (HF.out _ (HB35.out.trans (hSw.mono HB35.out.size))); go_simp; try with_reducible rfl
    try simp only [Act.put, List.setIfInBounds_toArray, List.set_cons_zero, List.set_cons_succ]
    refine wpAnyH_take (i := 5) (oi := _) (v := ?_) (by simp only [List.getElem?_toArray, List.getElem?_cons_zero, List.getElem?_cons_succ]; rfl) (by kernel_rfl) (by kernel_rfl) (by kernel_rfl) (fun _ _ _ h => h) (Or.inl ⟨by rfl, ?_⟩) (by assumption) ?_
    rotate_left
    · intro w' hSw; (try dsimp only at hSw); go_simp; try with_reducible rfl
    try simp only [Act.put, List.setIfInBounds_toArray, List.set_cons_zero, List.set_cons_succ]
    refine wpAnyH_take (i := 6) (oi := _) (v := ?_) (by simp only [List.getElem?_toArray, List.getElem?_cons_zero, List.getElem?_cons_succ]; rfl) (by kernel_rfl) (by kernel_rfl) (by kernel_rfl) (fun _ _ _ h => h) (Or.inl ⟨by rfl, ?_⟩) (by assumption) ?_
    rotate_left
    · intro w' hSw; (try dsimp only at hSw); have hf := str_u8 (c := c) (HK5.out.at_ hSw).1.1.1.2.1; go_simp; try with_reducible rfl
    try simp only [Act.put, List.setIfInBounds_toArray, List.set_cons_zero, List.set_cons_succ]
    refine wpAnyH_take (i := 7) (oi := _) (v := ?_) (by simp only [List.getElem?_toArray, List.getElem?_cons_zero, List.getElem?_cons_succ]; rfl) (by kernel_rfl) (by kernel_rfl) (by kernel_rfl) (fun _ _ _ h => h) (Or.inl ⟨by rfl, ?_⟩) (by assumption) ?_
    rotate_left
    · intro w' hSw; (try dsimp only at hSw); go_simp; try with_reducible rfl
    try simp only [Act.put, List.setIfInBounds_toArray, List.set_cons_zero, List.set_cons_succ]
    refine wpAnyH_take (i := 8) (oi := _) (v := ?_) (by simp only [List.getElem?_toArray, List.getElem?_cons_zero, List.getElem?_cons_succ]; rfl) (by kernel_rfl) (by kernel_rfl) (by kernel_rfl) (fun _ _ _ h => h) (Or.inl ⟨by rfl, ?_⟩) (by assumption) ?_
    rotate_left
    · intro w' hSw; (try dsimp only at hSw); go_simp; try with_reducible rfl
    try simp only [Act.put, List.setIfInBounds_toArray, List.set_cons_zero, List.set_cons_succ]
    refine wpAnyH_take (i := 9) (oi := _) (v := ?_) (by simp only [List.getElem?_toArray, List.getElem?_cons_zero, List.getElem?_cons_succ]; rfl) (by kernel_rfl) (by kernel_rfl) (by kernel_rfl) (fun _ _ _ h => h) (Or.inl ⟨by rfl, ?_⟩) (by assumption) ?_
    rotate_left
    · intro w' hSw; (try dsimp only at hSw); go_simp; try with_reducible rfl
    try simp only [Act.put, List.setIfInBounds_toArray, List.set_cons_zero, List.set_cons_succ]
    refine wpAnyH_take (i := 10) (oi := _) (v := ?_) (by simp only [List.getElem?_toArray, List.getElem?_cons_zero, List.getElem?_cons_succ]; rfl) (by kernel_rfl) (by kernel_rfl) (by kernel_rfl) (fun _ _ _ h => h) (Or.inl ⟨by rfl, ?_⟩) (by assumption) ?_
    rotate_left
    · intro w' hSw; (try dsimp only at hSw); go_simp; try with_reducible rfl
    try simp only [Act.put, List.setIfInBounds_toArray, List.set_cons_zero, List.set_cons_succ]
    refine wpAnyH_take (i := 11) (oi := _) (v := ?_) (by simp only [List.getElem?_toArray, List.getElem?_cons_zero, List.getElem?_cons_succ]; rfl) (by kernel_rfl) (by kernel_rfl) (by kernel_rfl) (fun _ _ _ h => h) (Or.inl ⟨by rfl, ?_⟩) (by assumption) ?_
    rotate_left
    · intro w' hSw; (try dsimp only at hSw); go_simp; try with_reducible rfl
    try simp only [Act.put, List.setIfInBounds_toArray, List.set_cons_zero, List.set_cons_succ]
    refine wpAnyH_take (i := 12) (oi := _) (v := ?_) (by simp only [List.getElem?_toArray, List.getElem?_cons_zero, List.getElem?_cons_succ]; rfl) (by kernel_rfl) (by kernel_rfl) (by kernel_rfl) (fun _ _ _ h => h) (Or.inl ⟨by rfl, ?_⟩) (by assumption) ?_
    rotate_left
    · intro w' hSw; (try dsimp only at hSw); go_simp; try with_reducible rfl
    try simp only [Act.put, List.setIfInBounds_toArray, List.set_cons_zero, List.set_cons_succ]
    refine wpAnyH_take (i := 13) (oi := _) (v := ?_) (by simp only [List.getElem?_toArray, List.getElem?_cons_zero, List.getElem?_cons_succ]; rfl) (by kernel_rfl) (by kernel_rfl) (by kernel_rfl) (fun _ _ _ h => h) (Or.inl ⟨by rfl, ?_⟩) (by assumption) ?_
    rotate_left
    · intro w' hSw; (try dsimp only at hSw); have hf := H7.out _ (HB35.out.trans (hSw.mono HB35.out.size)); go_simp; try with_reducible rfl
    try simp only [Act.put, List.setIfInBounds_toArray, List.set_cons_zero, List.set_cons_succ]
    refine wpAnyH_take (i := 14) (oi := _) (v := ?_) (by simp only [List.getElem?_toArray, List.getElem?_cons_zero, List.getElem?_cons_succ]; rfl) (by kernel_rfl) (by kernel_rfl) (by kernel_rfl) (fun _ _ _ h => h) (Or.inl ⟨by rfl, ?_⟩) (by assumption) ?_
    rotate_left
    · intro w' hSw; (try dsimp only at hSw); go_simp; try with_reducible rfl
    try simp only [Act.put, List.setIfInBounds_toArray, List.set_cons_zero, List.set_cons_succ]
    refine wpAnyH_take (i := 15) (oi := _) (v := ?_) (by simp only [List.getElem?_toArray, List.getElem?_cons_zero, List.getElem?_cons_succ]; rfl) (by kernel_rfl) (by kernel_rfl) (by kernel_rfl) (fun _ _ _ h => h) (Or.inl ⟨by rfl, ?_⟩) (by assumption) ?_
    rotate_left
    · intro w' hSw; (try dsimp only at hSw); go_simp; try with_reducible rfl
    try simp only [Act.put, List.setIfInBounds_toArray, List.set_cons_zero, List.set_cons_succ]
    refine wpAnyH_done (by kernel_rfl) ?_ _
    refine NoPanic.normal ?_
    have HKv := Lib.hid HK5.out.drew
    have HZv := HZ5.out.2
    obtain ⟨v5, hv5⟩ : ∃ v, v = w5.drew := ⟨_, rfl⟩
    rw [show w5.heap.size = w5.drew.heap.size from rfl, ← hv5] at HZv
    rw [← hv5] at HKv ⊢
    have hz45 : w4.heap.size ≤ v5.heap.size := by rw [hv5]; exact HZ5.out.1
    have HA5 := Lib.hid HZv
    have hw3 := HK3.out.now.1.1.size
    have hwv := HKv.out.now.1.1.1.1.size
    clear hH hv5 HZv HZ5 HK5 HB35 HF H7 HK4 HB4 HK3 HOb hn0 hn1 hsf
    go_wp2_with fail
    refine (own_any _ s.length c4 s v5 HKv.out.now.1.2.reads (by omega)).mono ?_
    rintro e w6 ⟨A6, c6, rfl, ho, hb⟩
    have HK6 := Lib.hid (HKv.out.on hb)
    have HO6 := Lib.hid ho
    have HB6 := Lib.hid hb
    have hz6 := hb.size
    clear ho hb
    go_wp2_with (at_builtin; refine halt_ ?_)
    refine unhalt ?_
    refine wpList_app elem_u8 HO6.out HK6.out.now.1.2.reads (u8s_one s) (by omega) hz6 _ _ rfl rfl rfl rfl ?_
    intro A7 c7 w7 ho hup hat
    rw [← u8s_append] at ho
    have hb7 := below_app HB6.out hz6 HO6.out (Nat.le_refl _) hup
    have HK7 := Lib.hid (HKv.out.on hb7)
    have HO7 := Lib.hid ho
    have HB7 := Lib.hid hb7
    have hz7 := hb7.size
    clear ho hb7 hup hat
    go_wp2_with (at_builtin; refine halt_ ?_)
    refine unhalt ?_
    refine wpList_app elem_u8 HO7.out HK7.out.now.1.1.1.2.2 (u8s_one more) (by omega) hz7 _ _ rfl rfl rfl rfl ?_
    intro A8 c8 w8 ho hup hat
    rw [← u8s_append] at ho
    have hb8 := below_app HB7.out hz7 HO7.out (Nat.le_refl _) hup
    have HK8 := Lib.hid (HKv.out.on hb8)
    clear HK6 HO6 HB6 HK7 HO7 HB7 hz6 hz7 hup hat
    obtain ⟨N, hN⟩ : ∃ N, N = s.length + s.length + m := ⟨_, rfl⟩
    rw [← hN] at ho ⊢
    have hN1 : N ≤ 2000000 := by omega
    have hN0 : 0 < N := by omega
    obtain ⟨bl, hbl⟩ : ∃ bl, bl = s ++ s ++ more := ⟨_, rfl⟩
    rw [← hbl] at ho
    have hscan := HSC.out
    rw [← hbl] at hscan
    obtain ⟨gi, rfl, hi1, hi2, hi3, hi4⟩ := ho.some_ hN0
    have hf8 := str_u8 (c := c8) ho.reads
    have HO8 := Lib.hid ho
    have HSC8 := Lib.hid hscan
    have hz8 := hb8.size
    clear ho hb8 hscan hbl hN
    go_wp2_with fail
    refine (scan_any _ N c8 bl w8 HO8.out.reads hi3 hi4 (by omega)).mono ?_
    rw [HSC8.out.1]
    dsimp only
    obtain ⟨n9, hn9⟩ : ∃ n9, n9 = 2 * s.length + kk := ⟨_, rfl⟩
    have hn92 : 2 * (s.length : Int) ≤ (n9 : Int) := by omega
    obtain ⟨r9, hr9⟩ : ∃ r9, r9 = (l :: l :: rest).length := ⟨_, rfl⟩
    have hr92 : (2 : Int) ≤ (r9 : Int) := by rw [hr9]; simp only [List.length_cons]; omega
    rw [← hn9, ← hr9]
    clear hn9 hr9 hf8
    rintro e w9 ⟨D9, d9, vs9, rfl, ho, hr, hb⟩
    have hlv := hr.len
    match vs9, hlv with
    | v0 :: v1 :: vt, _ =>
    obtain ⟨R0, cr0, rfl, ho0⟩ := hr.row 0 v0 l rfl rfl
    obtain ⟨R1, cr1, rfl, ho1⟩ := hr.row 1 v1 l rfl rfl
    have hap := fun g g' => hr.apart 0 1 _ _ g g' (by omega) rfl rfl
    simp only [vBlock] at hap
    rw [HL.out] at ho ho0 ho1
    obtain ⟨gl, rfl, hl1, hl2, hl3, hl4⟩ := ho.some_ (by omega)
    have HK9 := Lib.hid ((HK8.out.on hb).and ((HO8.out.keeps.on hb).and (ho.keeps.and (ho0.keeps.and ho1.keeps))))
    have h01 : ∀ g, blockOf R0 = some g → w8.heap.size ≤ g ∧ g < w9.heap.size ∧ blockOf R1 ≠ some g := fun g hg => ⟨(ho0.ge g hg).1, (ho0.ge g hg).2, fun h1 => absurd (hap g g hg h1) (Nat.lt_irrefl _)⟩
    have h11 : ∀ g, blockOf R1 = some g → w8.heap.size ≤ g ∧ g < w9.heap.size := ho1.ge
    have H01 := Lib.hid (And.intro h01 h11)
    have hz9 := hb.size
    clear ho ho0 ho1 hr hb hap h01 h11 hl3 hl4 hlv
    go_wp2_with fail
    refine (take_any _ N c8 bl w9 HK9.out.now.2.1.reads hi3 hi4).mono ?_
    rw [HSC8.out.2]
    rintro e w10 ⟨⟨A10, c10, rfl, ho⟩, hb⟩
    rw [HL.out] at ho ⊢
    have HK10 := Lib.hid ((HK9.out.on hb).and ho.keeps)
    have hz10 := hb.size
    have HA10 := Lib.hid ho.ge
    clear hb ho HK9 HK8 HO8
    have hf10 := str_u8 (c := c8) HK10.out.now.1.2.1.reads
    go_wp2_with fail
    clear hf10 hn92
    have hfin : ∀ w', Upd (fun k => k = gi ∨ k = gb ∨ k = gl ∨ blockOf R0 = some k) w10 w' → Below w.heap.size w w' ∧ Reads w' w'.heap.size 1 A n (u8s l) ∧ Own w' w4.heap.size 5 1 A5 s.length c5 (u8s s) ∧ Own w' w8.heap.size 5 1 R1 n cr1 (u8s l) ∧ Own w' w9.heap.size 5 1 A10 n c10 (u8s l) := by
      intro w' hu
      have h := HK10.out.now
      have hB : Below w.heap.size w w' := h.1.1.1.1.1.1.trans (hu.to_below (by omega) (fun k hk hS => by
        rcases hS with h1 | h1 | h1 | h1
        · omega
        · omega
        · omega
        · have := (H01.out.1 k h1).1; omega))
      refine ⟨hB, (HX0.out.below hB).more hB.size, h.1.1.2.upd hu (fun g hg hS => ?_), h.1.2.2.2.2.upd hu (fun g hg hS => ?_), h.2.upd hu (fun g hg hS => ?_)⟩
      · have h5 := HA5.out g hg
        rcases hS with h1 | h1 | h1 | h1
        · omega
        · omega
        · omega
        · have := (H01.out.1 g h1).1; omega
      · have h5 := H01.out.2 g hg
        rcases hS with h1 | h1 | h1 | h1
        · omega
        · omega
        · subst h1
          exact h.1.2.2.2.2.apart h.1.2.2.1 (by decide) g hg rfl
        · exact (H01.out.1 g h1).2.2 hg
      · have h5 := HA10.out g hg
        rcases hS with h1 | h1 | h1 | h1
        · omega
        · omega
        · omega
        · have := (H01.out.1 g h1).2.1; omega
    have HFIN := Lib.hid hfin
    have HOi := Lib.hid HK10.out.now.1.2.1
    have HOb := Lib.hid HK10.out.now.1.1.1.2
    have HOL := Lib.hid HK10.out.now.1.2.2.1
    have HO0 := Lib.hid HK10.out.now.1.2.2.2.1
    have h0i : ∀ g, blockOf R0 = some g → g ≠ gi ∧ g ≠ gb := fun g hg => by have := H01.out.1 g hg; omega
    have HR0 := Lib.hid h0i
    have hbi : gb ≠ gi := by omega
    have hli : gl ≠ gi := by omega
    have hlb : gl ≠ gb := by omega
    clear hfin h0i HK10 HA10 H01 HA5 HKv HX0 HK1 HSC8 HSC
    go_loopw [102] (fun iv wr => ∃ (i : Nat) (xs : List Value), iv = .int .i64 i ∧ i ≤ N ∧ Own wr v5.heap.size 5 1 (some ⟨gi, 0, none⟩) N c8 xs ∧ Upd (fun k => k = gi) w10 wr) (fun iv _ => N - (intOf iv).toNat)
    case atStart => exact ⟨0, _, rfl, by omega, HOi.out, Upd.refl _ _⟩
    case round =>
      obtain ⟨i, xs, rfl, hi, ho, hu⟩ := hrel
      have HO := Lib.hid ho
      have HU := Lib.hid hu
      clear ho hu
      by_cases hiN : (i : Int) < (N : Int)
      · have hi0 : (0 : Int) ≤ (i : Int) := by omega
        obtain ⟨u, hu⟩ : ∃ u, xs[i]? = some u := ⟨_, List.getElem?_eq_getElem (by have := HO.out.length; omega)⟩
        have hcell := HO.out.cell rfl hu
        have hfz := HO.out.frozen rfl i
        clear hu
        go_wp2_with fail
        go_roundw
        case rel => exact ⟨i + 1, _, by go_num, by omega, HO.out.set_ rfl (.int .u8 0), HU.out.setCell (p := ⟨gi, i, none⟩) (fun _ => rfl) _⟩
        case measure => simp [intOf]; omega
      · obtain ⟨w11, hw11⟩ : ∃ v, v = wr := ⟨_, rfl⟩
        rw [← hw11] at HU ⊢
        clear HO hw11
        have HOb1 := Lib.hid (HOb.out.upd HU.out (fun g hg hS => hbi (by cases hg; exact hS)))
        have HOL1 := Lib.hid (HOL.out.upd HU.out (fun g hg hS => hli (by cases hg; exact hS)))
        have HO01 := Lib.hid (HO0.out.upd HU.out (fun g hg hS => (HR0.out g hg).1 hS))
        go_wp2_with fail
        go_loopw [111] (fun iv wr => ∃ (i : Nat) (xs : List Value), iv = .int .i64 i ∧ i ≤ s.length ∧ Own wr w3.heap.size 5 1 (some ⟨gb, 0, none⟩) s.length c4 xs ∧ Upd (fun k => k = gb) w11 wr) (fun iv _ => s.length - (intOf iv).toNat)
        case atStart => exact ⟨0, _, rfl, by omega, HOb1.out, Upd.refl _ _⟩
        case round =>
          obtain ⟨i, xs, rfl, hi, ho, hu⟩ := hrel
          have HO := Lib.hid ho
          have HU2 := Lib.hid hu
          clear ho hu
          by_cases hiN : (i : Int) < (s.length : Int)
          · have hi0 : (0 : Int) ≤ (i : Int) := by omega
            obtain ⟨u, hu⟩ : ∃ u, xs[i]? = some u := ⟨_, List.getElem?_eq_getElem (by have := HO.out.length; omega)⟩
            have hcell := HO.out.cell rfl hu
            have hfz := HO.out.frozen rfl i
            clear hu
            go_wp2_with fail
            go_roundw
            case rel => exact ⟨i + 1, _, by go_num, by omega, HO.out.set_ rfl (.int .u8 1), HU2.out.setCell (p := ⟨gb, i, none⟩) (fun _ => rfl) _⟩
            case measure => simp [intOf]; omega
          · obtain ⟨w12, hw12⟩ : ∃ v, v = wr := ⟨_, rfl⟩
            rw [← hw12] at HU2 HO ⊢
            clear hw12
            have HOL2 := Lib.hid (HOL1.out.upd HU2.out (fun g hg hS => hlb (by cases hg; exact hS)))
            have HO02 := Lib.hid (HO01.out.upd HU2.out (fun g hg hS => (HR0.out g hg).2 hS))
            have hcL := HOL2.out.cell rfl (j := 0) rfl
            have hi1' : (0 : Int) < (r9 : Int) := by omega
            go_wp2_with fail
            go_loopw [122] (fun iv wr => ∃ (i : Nat) (zs : List Value), iv = .int .i64 i ∧ i ≤ n ∧ Own wr w8.heap.size 5 1 R0 n cr0 zs ∧ Own wr w8.heap.size 23 1 (some ⟨gl, 0, none⟩) r9 d9 (.slice R0 n cr0 :: .slice R1 n cr1 :: vt) ∧ Upd (fun k => blockOf R0 = some k) w12 wr) (fun iv _ => n - (intOf iv).toNat)
            case atStart => exact ⟨0, _, rfl, by omega, HO02.out, HOL2.out, Upd.refl _ _⟩
            case round =>
              obtain ⟨i3, zs, rfl, hi3', ho3, hoL, hu3⟩ := hrel
              have HOz := Lib.hid ho3
              have HOL3 := Lib.hid hoL
              have HU3 := Lib.hid hu3
              have hcL3 := hoL.cell rfl (j := 0) rfl
              clear ho3 hoL hu3 hcL
              by_cases hin : (i3 : Int) < (n : Int)
              · have hi0 : (0 : Int) ≤ (i3 : Int) := by omega
                obtain ⟨u, hu⟩ : ∃ u, zs[i3]? = some u := ⟨_, List.getElem?_eq_getElem (by have := HOz.out.length; omega)⟩
                obtain ⟨g0, rfl, -, -, -, -⟩ := HOz.out.some_ (by omega)
                have hcell := HOz.out.cell rfl hu
                have hfz := HOz.out.frozen rfl i3
                clear hu
                go_wp2_with fail
                go_roundw
                case rel => exact ⟨i3 + 1, _, by go_num, by omega, HOz.out.set_ rfl (.int .u8 2), HOL3.out.far (p := ⟨g0, i3, none⟩) (fun e => HOL3.out.apart HOz.out (by decide) _ e rfl) _, HU3.out.setCell (p := ⟨g0, i3, none⟩) (fun _ => rfl) _⟩
                case measure => simp [intOf]; omega
              · obtain ⟨w13, hw13⟩ : ∃ v, v = wr := ⟨_, rfl⟩
                rw [← hw13] at HU3 HOz HOL3 hcL3 ⊢
                clear hw13
                have HT := Lib.hid (((HU.out.mono (S' := fun k => k = gi ∨ k = gb ∨ k = gl ∨ blockOf R0 = some k) (fun _ _ h => .inl h)).trans HU2.out (fun _ _ h => .inr (.inl h))).trans HU3.out (fun _ _ h => .inr (.inr (.inr h))))
                have HOb3 := Lib.hid (HO.out.upd HU3.out (fun g hg hS => (HR0.out g hS).2 (by cases hg; rfl)))
                clear HU HU2 HU3 HO HOL2 HO02 HOL1 HO01 HOb1 HOi HOL HOb HO0 hcL3
                go_wp2_with fail
                go_loopw [6, 20] (fun bv iv wr => ∃ (k : Nat) (Ab : Option Addr) (cb : Nat) (ys : List Value) (R : Option Addr) (cr : Nat) (zs : List Value), bv = .slice Ab (s.length + k) cb ∧ iv = .int .i64 k ∧ k ≤ 20 ∧
                  Own wr w3.heap.size 5 1 Ab (s.length + k) cb ys ∧ Own wr w8.heap.size 23 1 (some ⟨gl, 0, none⟩) r9 d9 (.slice R (n + k) cr :: .slice R1 n cr1 :: vt) ∧ Own wr w8.heap.size 5 1 R (n + k) cr zs ∧
                  (∀ g, blockOf R = some g → blockOf Ab ≠ some g) ∧ (∀ g, blockOf R = some g → g < w10.heap.size → blockOf R0 = some g) ∧ (∀ g, blockOf Ab = some g → g < w10.heap.size → g = gb) ∧ Upd (fun k => k = gi ∨ k = gb ∨ k = gl ∨ blockOf R0 = some k) w10 wr) (fun _ iv _ => 20 - (intOf iv).toNat)
                case atStart => exact ⟨0, some ⟨gb, 0, none⟩, c4, _, R0, cr0, _, rfl, rfl, by omega, HOb3.out, HOL3.out, HOz.out, fun g hg e => (HR0.out g hg).2 (by cases e; rfl), fun g hg _ => hg, fun g hg _ => by cases hg; rfl, HT.out⟩
                case round =>
                  obtain ⟨k, Ab, cb, ys, R, cr, zs4, rfl, rfl, hk, hoA, hoL, hoR, hne, hRo, hAo, hU⟩ := hrel
                  have HA := Lib.hid hoA
                  have HLL := Lib.hid hoL
                  have HRR := Lib.hid hoR
                  have HN := Lib.hid (And.intro hne (And.intro hRo hAo))
                  have HU := Lib.hid hU
                  have hzr := hU.size
                  clear hoA hoL hoR hne hRo hAo hU
                  have hcL := HLL.out.cell rfl (j := 0) rfl
                  by_cases hk20 : (k : Int) < 20
                  · go_wp2_with (at_builtin; refine halt_ ?_)
                    refine unhalt ?_
                    refine wpList_app elem_u8 (HRR.out.alloc _) (reads_new (cs := #[_]) wr 5 1 rfl) (by simp [Value.oneCell']) (by omega) (by simp; omega) _ _ rfl rfl rfl rfl ?_
                    intro R' cr' w14 ho4 hup4 hat4
                    have hL4 := (HLL.out.alloc _).upd hup4 (fun g hg e => HLL.out.apart HRR.out (by decide) g hg e)
                    have hA4 := (HA.out.alloc _).upd hup4 (fun g hg e => HN.out.1 g e hg)
                    have hU4 := (HU.out.alloc _).trans hup4 (fun g hg e => .inr (.inr (.inr (HN.out.2.1 g e hg))))
                    have hc14 := hL4.cell rfl (j := 0) rfl
                    have hf14 := hL4.frozen rfl 0
                    have hRA : ∀ g, blockOf R' = some g → blockOf Ab ≠ some g ∧ (g < w10.heap.size → blockOf R0 = some g) ∧ g < w14.heap.size := by
                      intro g hg
                      have hg2 := (ho4.ge g hg).2
                      rcases hat4 with h1 | ⟨g', rfl, h1⟩
                      · rw [h1] at hg
                        exact ⟨HN.out.1 g hg, HN.out.2.1 g hg, hg2⟩
                      · cases hg
                        simp only [World.size_alloc] at h1
                        refine ⟨fun e => ?_, fun h => ?_, hg2⟩
                        · have := (HA.out.ge _ e).2
                          dsimp only at this
                          omega
                        · dsimp only at h
                          omega
                    have HO4 := Lib.hid ho4
                    have HL4 := Lib.hid hL4
                    have HA4 := Lib.hid hA4
                    have HU4 := Lib.hid hU4
                    have HRA := Lib.hid hRA
                    have hz3 : w3.heap.size ≤ w14.heap.size := by have := hup4.size; simp at this; omega
                    clear ho4 hL4 hA4 hU4 hRA hup4 hat4
                    have e1 : n + k + 1 = n + (k + 1) := by omega
                    rw [e1] at HO4 ⊢
                    clear e1
                    have hrn : ∀ v : Value, Reads ((w14.setCell ⟨gl, 0, none⟩ (.slice R' (n + (k + 1)) cr')).alloc (.cells #[v] 5)) (w14.heap.size + 1) 1 (some ⟨w14.heap.size, 0, none⟩) 1 [v] := by
                      intro v
                      have h := reads_new (cs := #[v]) (size := 1) (w14.setCell ⟨gl, 0, none⟩ (.slice R' (n + (k + 1)) cr')) 5 1 rfl
                      rwa [show (w14.setCell ⟨gl, 0, none⟩ (.slice R' (n + (k + 1)) cr')).heap.size = w14.heap.size by simp [World.setCell]] at h
                    have HRN := Lib.hid hrn
                    clear hrn
                    go_wp2_with (at_builtin; refine halt_ ?_)
                    refine unhalt ?_
                    refine wpList_app elem_u8 ((HA4.out.far (p := ⟨gl, 0, none⟩) (fun e => HL4.out.apart HA4.out (by decide) gl rfl e) _).alloc _) (HRN.out _) (by simp [Value.oneCell']) (by omega) (by simp [World.setCell]; omega) _ _ rfl rfl rfl rfl ?_
                    intro Ab' cb' w15 ho5 hup5 hat5
                    have hR5 := ((HO4.out.far (p := ⟨gl, 0, none⟩) (fun e => HL4.out.apart HO4.out (by decide) gl rfl e) _).alloc _).upd hup5 (fun g hg e => (HRA.out g hg).1 e)
                    have hL5 := ((HL4.out.set_ (i := 0) rfl (.slice R' (n + (k + 1)) cr')).alloc _).upd hup5 (fun g hg e => HL4.out.apart HA4.out (by decide) g hg e)
                    have hU5 := ((HU4.out.setCell (p := ⟨gl, 0, none⟩) (fun _ => .inr (.inr (.inl rfl))) _).alloc _).trans hup5 (fun g hg e => .inr (.inl (HN.out.2.2 g e hg)))
                    have hfinal : (∀ g, blockOf R' = some g → blockOf Ab' ≠ some g) ∧ (∀ g, blockOf Ab' = some g → g < w10.heap.size → g = gb) := by
                      rcases hat5 with h1 | ⟨g', rfl, h1⟩
                      · rw [h1]
                        exact ⟨fun g hg => (HRA.out g hg).1, HN.out.2.2⟩
                      · simp only [World.size_alloc, World.setCell, Array.size_modify] at h1
                        refine ⟨fun g hg e => ?_, fun g hg h => ?_⟩
                        · cases e
                          have := (HRA.out _ hg).2.2
                          dsimp only at this
                          omega
                        · cases hg
                          have := HU4.out.size
                          dsimp only at h
                          omega
                    have HR5 := Lib.hid hR5
                    have HL5 := Lib.hid hL5
                    have HU5 := Lib.hid hU5
                    have HF5 := Lib.hid hfinal
                    have HA5 := Lib.hid ho5
                    clear hR5 hL5 hU5 hfinal ho5 hup5 hat5
                    go_wp2_with fail
                    go_roundw
                    case rel => exact ⟨k + 1, Ab', cb', _, R', cr', _, by rw [Nat.add_assoc], by go_num, by omega, by rw [← Nat.add_assoc]; exact HA5.out, HL5.out, HR5.out, HF5.out.1, fun g hg => (HRA.out g hg).2.1, HF5.out.2, HU5.out⟩
                    case measure => simp [intOf]; omega
                  · have hF := HFIN.out wr HU.out
                    have HK := Lib.hid ((below_keeps hF.1 hF.1.size).and (hF.2.1.keeps (Nat.le_refl _) |>.and (hF.2.2.1.keepsR.and (hF.2.2.2.1.keepsR.and hF.2.2.2.2.keepsR))))
                    have hc1 := HLL.out.cell rfl (j := 1) rfl
                    have hgl := World.block_lt_of_cell? _ _ hc1
                    have hq : ∀ w', Below wr.heap.size wr w' → w'.cell? ⟨gl, 1, none⟩ = some (.slice R1 n cr1) := fun w' hb => by
                      rw [hb.cell hgl]
                      exact hc1
                    have HQ := Lib.hid hq
                    have hr1 : (1 : Int) < (r9 : Int) := by omega
                    clear hF hc1 hgl hq hcL
                    go_wp2_with fail
                    refine wp_region_noPanic ?_
                    refine wp_region_held_drew (S := fun w' => Below wr.heap.size wr w') (by kernel_rfl) (below_drew wr) (fun hH => ?_)
                    refine wpAnyH_take (i := 0) (oi := _) (v := ?_) (by simp only [List.getElem?_toArray, List.getElem?_cons_zero]; rfl) (by kernel_rfl) (by kernel_rfl) (by kernel_rfl) (fun _ _ _ h => h) (Or.inl ⟨by rfl, ?_⟩) (by assumption) ?_
                    rotate_left
                    · intro w' hSw; (try dsimp only at hSw); go_simp; try with_reducible rfl
                    try simp only [Act.put, List.setIfInBounds_toArray, List.set_cons_zero, List.set_cons_succ]
                    refine wpAnyH_take (i := 1) (oi := _) (v := ?_) (by simp only [List.getElem?_toArray, List.getElem?_cons_zero, List.getElem?_cons_succ]; rfl) (by kernel_rfl) (by kernel_rfl) (by kernel_rfl) (fun _ _ _ h => h) (Or.inl ⟨by rfl, ?_⟩) (by assumption) ?_
                    rotate_left
                    · intro w' hSw; (try dsimp only at hSw); go_simp; try with_reducible rfl
                    try simp only [Act.put, List.setIfInBounds_toArray, List.set_cons_zero, List.set_cons_succ]
                    refine wpAnyH_take (i := 2) (oi := _) (v := ?_) (by simp only [List.getElem?_toArray, List.getElem?_cons_zero, List.getElem?_cons_succ]; rfl) (by kernel_rfl) (by kernel_rfl) (by kernel_rfl) (fun _ _ _ h => h) (Or.inl ⟨by rfl, ?_⟩) (by assumption) ?_
                    rotate_left
                    · intro w' hSw; (try dsimp only at hSw); have hf := HQ.out _ hSw; go_simp; try with_reducible rfl
                    try simp only [Act.put, List.setIfInBounds_toArray, List.set_cons_zero, List.set_cons_succ]
                    refine wpAnyH_take (i := 3) (oi := _) (v := ?_) (by simp only [List.getElem?_toArray, List.getElem?_cons_zero, List.getElem?_cons_succ]; rfl) (by kernel_rfl) (by kernel_rfl) (by kernel_rfl) (fun _ _ _ h => h) (Or.inl ⟨by rfl, ?_⟩) (by assumption) ?_
                    rotate_left
                    · intro w' hSw; (try dsimp only at hSw); have hf := str_u8 (c := cr1) (HK.out.at_ hSw).2.2.2.1; go_simp; try with_reducible rfl
                    try simp only [Act.put, List.setIfInBounds_toArray, List.set_cons_zero, List.set_cons_succ]
                    refine wpAnyH_take (i := 4) (oi := _) (v := ?_) (by simp only [List.getElem?_toArray, List.getElem?_cons_zero, List.getElem?_cons_succ]; rfl) (by kernel_rfl) (by kernel_rfl) (by kernel_rfl) (fun _ _ _ h => h) (Or.inl ⟨by rfl, ?_⟩) (by assumption) ?_
                    rotate_left
                    · intro w' hSw; (try dsimp only at hSw); go_simp; try with_reducible rfl
                    try simp only [Act.put, List.setIfInBounds_toArray, List.set_cons_zero, List.set_cons_succ]
                    refine wpAnyH_take (i := 5) (oi := _) (v := ?_) (by simp only [List.getElem?_toArray, List.getElem?_cons_zero, List.getElem?_cons_succ]; rfl) (by kernel_rfl) (by kernel_rfl) (by kernel_rfl) (fun _ _ _ h => h) (Or.inl ⟨by rfl, ?_⟩) (by assumption) ?_
                    rotate_left
                    · intro w' hSw; (try dsimp only at hSw); have hf := str_u8 (c := c) (HK.out.at_ hSw).2.1; go_simp; try with_reducible rfl
                    try simp only [Act.put, List.setIfInBounds_toArray, List.set_cons_zero, List.set_cons_succ]
                    refine wpAnyH_take (i := 6) (oi := _) (v := ?_) (by simp only [List.getElem?_toArray, List.getElem?_cons_zero, List.getElem?_cons_succ]; rfl) (by kernel_rfl) (by kernel_rfl) (by kernel_rfl) (fun _ _ _ h => h) (Or.inl ⟨by rfl, ?_⟩) (by assumption) ?_
                    rotate_left
                    · intro w' hSw; (try dsimp only at hSw); go_simp; try with_reducible rfl
                    try simp only [Act.put, List.setIfInBounds_toArray, List.set_cons_zero, List.set_cons_succ]
                    refine wpAnyH_take (i := 7) (oi := _) (v := ?_) (by simp only [List.getElem?_toArray, List.getElem?_cons_zero, List.getElem?_cons_succ]; rfl) (by kernel_rfl) (by kernel_rfl) (by kernel_rfl) (fun _ _ _ h => h) (Or.inl ⟨by rfl, ?_⟩) (by assumption) ?_
                    rotate_left
                    · intro w' hSw; (try dsimp only at hSw); go_simp; try with_reducible rfl
                    try simp only [Act.put, List.setIfInBounds_toArray, List.set_cons_zero, List.set_cons_succ]
                    refine wpAnyH_take (i := 8) (oi := _) (v := ?_) (by simp only [List.getElem?_toArray, List.getElem?_cons_zero, List.getElem?_cons_succ]; rfl) (by kernel_rfl) (by kernel_rfl) (by kernel_rfl) (fun _ _ _ h => h) (Or.inl ⟨by rfl, ?_⟩) (by assumption) ?_
                    rotate_left
                    · intro w' hSw; (try dsimp only at hSw); go_simp; try with_reducible rfl
                    try simp only [Act.put, List.setIfInBounds_toArray, List.set_cons_zero, List.set_cons_succ]
                    refine wpAnyH_take (i := 9) (oi := _) (v := ?_) (by simp only [List.getElem?_toArray, List.getElem?_cons_zero, List.getElem?_cons_succ]; rfl) (by kernel_rfl) (by kernel_rfl) (by kernel_rfl) (fun _ _ _ h => h) (Or.inl ⟨by rfl, ?_⟩) (by assumption) ?_
                    rotate_left
                    · intro w' hSw; (try dsimp only at hSw); have hf := str_u8 (c := c10) (HK.out.at_ hSw).2.2.2.2; go_simp; try with_reducible rfl
                    try simp only [Act.put, List.setIfInBounds_toArray, List.set_cons_zero, List.set_cons_succ]
                    refine wpAnyH_take (i := 10) (oi := _) (v := ?_) (by simp only [List.getElem?_toArray, List.getElem?_cons_zero, List.getElem?_cons_succ]; rfl) (by kernel_rfl) (by kernel_rfl) (by kernel_rfl) (fun _ _ _ h => h) (Or.inl ⟨by rfl, ?_⟩) (by assumption) ?_
                    rotate_left
                    · intro w' hSw; (try dsimp only at hSw); go_simp; try with_reducible rfl
                    try simp only [Act.put, List.setIfInBounds_toArray, List.set_cons_zero, List.set_cons_succ]
                    refine wpAnyH_take (i := 11) (oi := _) (v := ?_) (by simp only [List.getElem?_toArray, List.getElem?_cons_zero, List.getElem?_cons_succ]; rfl) (by kernel_rfl) (by kernel_rfl) (by kernel_rfl) (fun _ _ _ h => h) (Or.inl ⟨by rfl, ?_⟩) (by assumption) ?_
                    rotate_left
                    · intro w' hSw; (try dsimp only at hSw); have hf := str_u8 (c := c) (HK.out.at_ hSw).2.1; go_simp; try with_reducible rfl
                    try simp only [Act.put, List.setIfInBounds_toArray, List.set_cons_zero, List.set_cons_succ]
                    refine wpAnyH_take (i := 12) (oi := _) (v := ?_) (by simp only [List.getElem?_toArray, List.getElem?_cons_zero, List.getElem?_cons_succ]; rfl) (by kernel_rfl) (by kernel_rfl) (by kernel_rfl) (fun _ _ _ h => h) (Or.inl ⟨by rfl, ?_⟩) (by assumption) ?_
                    rotate_left
                    · intro w' hSw; (try dsimp only at hSw); go_simp; try with_reducible rfl
                    try simp only [Act.put, List.setIfInBounds_toArray, List.set_cons_zero, List.set_cons_succ]
                    refine wpAnyH_take (i := 13) (oi := _) (v := ?_) (by simp only [List.getElem?_toArray, List.getElem?_cons_zero, List.getElem?_cons_succ]; rfl) (by kernel_rfl) (by kernel_rfl) (by kernel_rfl) (fun _ _ _ h => h) (Or.inl ⟨by rfl, ?_⟩) (by assumption) ?_
                    rotate_left
                    · intro w' hSw; (try dsimp only at hSw); go_simp; try with_reducible rfl
                    try simp only [Act.put, List.setIfInBounds_toArray, List.set_cons_zero, List.set_cons_succ]
                    refine wpAnyH_take (i := 14) (oi := _) (v := ?_) (by simp only [List.getElem?_toArray, List.getElem?_cons_zero, List.getElem?_cons_succ]; rfl) (by kernel_rfl) (by kernel_rfl) (by kernel_rfl) (fun _ _ _ h => h) (Or.inl ⟨by rfl, ?_⟩) (by assumption) ?_
                    rotate_left
                    · intro w' hSw; (try dsimp only at hSw); go_simp; try with_reducible rfl
                    try simp only [Act.put, List.setIfInBounds_toArray, List.set_cons_zero, List.set_cons_succ]
                    refine wpAnyH_take (i := 15) (oi := _) (v := ?_) (by simp only [List.getElem?_toArray, List.getElem?_cons_zero, List.getElem?_cons_succ]; rfl) (by kernel_rfl) (by kernel_rfl) (by kernel_rfl) (fun _ _ _ h => h) (Or.inl ⟨by rfl, ?_⟩) (by assumption) ?_
                    rotate_left
                    · intro w' hSw; (try dsimp only at hSw); go_simp; try with_reducible rfl
                    try simp only [Act.put, List.setIfInBounds_toArray, List.set_cons_zero, List.set_cons_succ]
                    refine wpAnyH_take (i := 16) (oi := _) (v := ?_) (by simp only [List.getElem?_toArray, List.getElem?_cons_zero, List.getElem?_cons_succ]; rfl) (by kernel_rfl) (by kernel_rfl) (by kernel_rfl) (fun _ _ _ h => h) (Or.inl ⟨by rfl, ?_⟩) (by assumption) ?_
                    rotate_left
                    · intro w' hSw; (try dsimp only at hSw); have hf := str_u8 (c := c5) (HK.out.at_ hSw).2.2.1; go_simp; try with_reducible rfl
                    try simp only [Act.put, List.setIfInBounds_toArray, List.set_cons_zero, List.set_cons_succ]
                    refine wpAnyH_take (i := 17) (oi := _) (v := ?_) (by simp only [List.getElem?_toArray, List.getElem?_cons_zero, List.getElem?_cons_succ]; rfl) (by kernel_rfl) (by kernel_rfl) (by kernel_rfl) (fun _ _ _ h => h) (Or.inl ⟨by rfl, ?_⟩) (by assumption) ?_
                    rotate_left
                    · intro w' hSw; (try dsimp only at hSw); go_simp; try with_reducible rfl
                    try simp only [Act.put, List.setIfInBounds_toArray, List.set_cons_zero, List.set_cons_succ]
                    refine wpAnyH_ready (rs := [18]) (by kernel_rfl) (by simp) (AllReadyH.cons (o := _) (by simp only [List.getElem?_toArray, List.getElem?_cons_zero, List.getElem?_cons_succ]; rfl) (fun K hK => ?_) AllReadyH.nil)
                    go_simp
                    go_at_call 25
                    refine (refSeal_any A n c l _ HK.out.drew.now.2.1 (by omega)).mono ?_
                    rintro e w7 ⟨A7, c7, rfl, ho, hb⟩
                    rw [← HS.out] at ho ⊢
                    have HB7 := Lib.hid ((below_drew wr).trans hb)
                    have HK7 := Lib.hid ((HK.out.on HB7.out).and ho.keepsR)
                    clear ho hb
                    try go_wp2_with fail
                    refine hK.out _ _ (HB7.out) (fun hHeld => ?_)
                    clear hK K hH
                    have hH := hHeld
                    clear hHeld
                    try simp only [Act.put, List.setIfInBounds_toArray, List.set_cons_zero, List.set_cons_succ]
                    refine wpAnyH_more (S' := fun w' => Below w7.heap.size w7 w') (fun w' h => HB7.out.trans (h.mono HB7.out.size)) _ _ _ _ ?_
                    clear hH
                    have hH := Below.refl w7.heap.size w7
                    refine wpAnyH_take (i := 19) (oi := _) (v := ?_) (by simp only [List.getElem?_toArray, List.getElem?_cons_zero, List.getElem?_cons_succ]; rfl) (by kernel_rfl) (by kernel_rfl) (by kernel_rfl) (fun _ _ _ h => h) (Or.inl ⟨by rfl, ?_⟩) (by assumption) ?_
                    rotate_left
                    · intro w' hSw; (try dsimp only at hSw); have hf := str_u8 (c := c7) (HK7.out.at_ hSw).2; go_simp; try with_reducible rfl
                    try simp only [Act.put, List.setIfInBounds_toArray, List.set_cons_zero, List.set_cons_succ]
                    refine wpAnyH_take (i := 20) (oi := _) (v := ?_) (by simp only [List.getElem?_toArray, List.getElem?_cons_zero, List.getElem?_cons_succ]; rfl) (by kernel_rfl) (by kernel_rfl) (by kernel_rfl) (fun _ _ _ h => h) (Or.inl ⟨by rfl, ?_⟩) (by assumption) ?_
                    rotate_left
                    · intro w' hSw; (try dsimp only at hSw); go_simp; try with_reducible rfl
                    try simp only [Act.put, List.setIfInBounds_toArray, List.set_cons_zero, List.set_cons_succ]
                    refine wpAnyH_take (i := 21) (oi := _) (v := ?_) (by simp only [List.getElem?_toArray, List.getElem?_cons_zero, List.getElem?_cons_succ]; rfl) (by kernel_rfl) (by kernel_rfl) (by kernel_rfl) (fun _ _ _ h => h) (Or.inl ⟨by rfl, ?_⟩) (by assumption) ?_
                    rotate_left
                    · intro w' hSw; (try dsimp only at hSw); go_simp; try with_reducible rfl
                    try simp only [Act.put, List.setIfInBounds_toArray, List.set_cons_zero, List.set_cons_succ]
                    refine wpAnyH_take (i := 22) (oi := _) (v := ?_) (by simp only [List.getElem?_toArray, List.getElem?_cons_zero, List.getElem?_cons_succ]; rfl) (by kernel_rfl) (by kernel_rfl) (by kernel_rfl) (fun _ _ _ h => h) (Or.inl ⟨by rfl, ?_⟩) (by assumption) ?_
                    rotate_left
                    · intro w' hSw; (try dsimp only at hSw); go_simp; try with_reducible rfl
                    try simp only [Act.put, List.setIfInBounds_toArray, List.set_cons_zero, List.set_cons_succ]
                    refine wpAnyH_done (by kernel_rfl) ?_ _
                    refine NoPanic.normal ?_
                    go_wp2_with fail
                    go_ret
                    exact ⟨rfl, HK7.out.now.1.1⟩

theorem ownL_vals (W : World) (args : Array Value) (hv : Vals Try.prog W [23, 23] args.toList) (hs : Smalls Try.prog [23, 23] args.toList) :
    Calls Try.prog 10 args W fun e W' => e = .returned (.bool true) ∧ Below W.heap.size W W' := by
  obtain ⟨v0, r0, e0, h0, v1, r1, rfl, h1, rfl⟩ := hv
  obtain rfl : args = #[v0, v1] := by cases args; simp_all
  obtain ⟨A, n, c, l, rfl, hr, hn, hc⟩ := val_bytes h0
  obtain ⟨D, m, d, more, rfl, hr2, hm, hd⟩ := val_bytes h1
  obtain ⟨s1, s2, _⟩ := hs
  exact ownL_walk A D n c m d l more W hr (Nat.le_trans hn (s1.1 _ Try.underlying23 A n c rfl)) hr2 (Nat.le_trans hm (s2.1 _ Try.underlying23 D m d rfl))

set_option maxRecDepth 100000 in
theorem ownL_lifted (os : Os) (started : os.Started) (H : Type) (enc : TypeId × Value → H) (F : Stop.Interp) :
    ReturnsInHanded {} Try.checked os 10 .any ((Rows.OpenSpec.upto Rows.frameOwnSpec).pre6 enc Try.prog Try.f10 Rows.frameOwnUptoRow.domain false) (((Rows.OpenSpec.upto Rows.frameOwnSpec).at F).post enc Try.prog Try.f10 false true false false) :=
  lift_upto (C := Try.checked) #[23, 23] (by kernel_rfl) (by kernel_rfl) started (by kernel_rfl) Try.func10
    (OpenSpec.witness (enc := enc) (C := Try.checked) (s := Rows.OpenSpec.upto Rows.frameOwnSpec) (k := Rows.uptoSmall) rfl false ⟨#[], #[.slice none 0 0, .slice none 0 0], []⟩ 8 (by kernel_rfl) (by kernel_rfl) (by kernel_rfl)
      (x := ([.nil, .nil], [], [])) (by kernel_rfl) rfl (by kernel_rfl))
    Try.params10 (by kernel_rfl) rfl rfl Try.underlying4 (fun ds hl => match ds, hl with | [_, _], _ => rfl) (fun W args hv hs => ownL_vals W args hv hs)

theorem ownL_holds : Rows.FrameOwnUptoSaid :=
  OpenClaim.holds_of_cond 10 Try.f10 rfl rfl rfl rfl rfl rfl rfl ⟨rfl, rfl, rfl, rfl, rfl⟩ rfl rfl rfl rfl rfl (by kernel_rfl) Try.func10 (by kernel_rfl)
    (of_decide_eq_true (by kernel_rfl)) (by unfold Func.isWrapper; rw [if_neg (of_decide_eq_false (by kernel_rfl))]; exact ⟨rfl, rfl⟩)
    (fun os started H enc _ F => ownL_lifted os started H enc F)
end Go.Proofs.Ytcdaioljddaopaa
