/- law: BloomOwn -/
import Derived.Test.YtmlkjeaoaanogaaBlmG
namespace Go.Proofs.Ytmlkjeaoaanogaa
open Go.RowKit

set_option maxRecDepth 100000 in
set_option maxHeartbeats 8000000 in
theorem ownLaw_walk (A : Option Addr) (n c : Nat) (ks : List ByteArray) (per : Int) (w : World) (hx : Reads w w.heap.size 1 A n (strs ks)) (hs : ∀ s ∈ ks, s.size ≤ maxLen) (hnc : n ≤ c) (hc : c ≤ 8796093021952) :
    Calls Try.prog 7 #[.slice A n c, .int .i64 per] w fun e w' => e = .returned (.bool true) ∧ Below w.heap.size w w' := by
  have hlen : ks.length = n := by have := hx.1; rw [strs_length] at this; omega
  have HK := Lib.hid ((Keeps.start w).and (hx.keeps (Nat.le_refl _)))
  clear hx
  go_enter Try.func7, Try.ntmps7
  go_wp2_with fail
  refine (awake_any w).mono ?_
  rintro e w1 ⟨rfl, hb⟩
  have HK1 := Lib.hid (HK.out.on hb)
  clear HK hb
  go_wp2_with fail
  refine (cut_any A n c ks w1 HK1.out.now.2 hnc (by omega)).mono ?_
  rintro e w2 ⟨A2, c2, rfl, ho, hb⟩
  obtain ⟨m, hm⟩ : ∃ m, m = min n 200 := ⟨_, rfl⟩
  obtain ⟨k2, hk2⟩ : ∃ k2, k2 = ks.take 200 := ⟨_, rfl⟩
  have hk2l : k2.length = m := by rw [hk2, List.length_take, hlen, hm]; omega
  have hs2 : ∀ s ∈ k2, s.size ≤ maxLen := fun s h => hs s (List.mem_of_mem_take (hk2 ▸ h))
  rw [← hm, ← hk2] at ho
  rw [← hm]
  have hm2 : m ≤ 200 := by omega
  have hmc := ho.le
  have HK2 := Lib.hid ((HK1.out.on hb).and ho.keepsR)
  have HKL := Lib.hid hk2l
  have HS2 := Lib.hid hs2
  have ht2 : k2.take 200 = k2 := List.take_of_length_le (by omega)
  clear HK1 hb ho hm hk2 hk2l hs2 hlen
  go_wp2_with fail
  refine (cut_any A2 m c2 k2 w2 HK2.out.now.2 hmc (by omega)).mono ?_
  rw [ht2, show min m 200 = m by omega]
  rintro e w3 ⟨A3, c3, rfl, ho, hb⟩
  have HO3 := Lib.hid ho
  have HB3 := Lib.hid hb
  have hz3 := hb.size
  clear ho hb ht2
  go_wp2_with (at_builtin; refine halt_ ?_)
  refine unhalt ?_
  refine wpList_app elem_strs (HO3.out.alloc _) (reads_new (cs := #[_]) w3 9 1 rfl) (by simp [Value.oneCell']) (by omega) (by simp; omega) _ _ rfl rfl rfl rfl ?_
  intro A4 c4 w4 ho hup hat
  have hb4 := below_app (HB3.out.alloc hz3 _) (by simp; omega) (HO3.out.alloc _) (Nat.le_refl _) hup
  have hcap4 := ho.le
  obtain ⟨g4, rfl, -, -, -, -⟩ := ho.some_ (by omega)
  have hcs := ho.cell rfl (j := m) (u := .string ⟨#[115, 112, 97, 114, 101]⟩) (by rw [List.getElem?_append_right (by rw [strs_length, HKL.out]; exact Nat.le_refl _), strs_length, HKL.out, Nat.sub_self]; rfl)
  have hcell4 : ∀ i, i < m → ∀ w', Below w4.heap.size w4 w' → w'.cell? ⟨g4, i, none⟩ = some (.string (k2.getD i .empty)) := fun i hi w' hb => by
    have hl : i < k2.length := by rw [HKL.out]; exact hi
    have hc := ho.cell rfl (j := i) (u := .string (k2.getD i .empty)) (by rw [List.getElem?_append_left (by rw [strs_length, HKL.out]; exact hi), strs_get]; simp [List.getD, List.getElem?_eq_getElem hl])
    rw [hb.cell (World.block_lt_of_cell? _ _ hc)]
    exact hc
  have hsp : ∀ w', Below w4.heap.size w4 w' → w'.cell? ⟨g4, m, none⟩ = some (.string ⟨#[115, 112, 97, 114, 101]⟩) := fun w' hb => by
    rw [hb.cell (World.block_lt_of_cell? _ _ hcs)]
    exact hcs
  have hfull : Reads w4 w4.heap.size 1 (some ⟨g4, 0, none⟩) m (strs k2) := by
    have h := ho.reads.take (k := m) (by omega)
    rwa [Nat.mul_one, List.take_left' (by rw [strs_length]; exact HKL.out)] at h
  have HK4 := Lib.hid ((HK2.out.on hb4).and (hfull.keeps (Nat.le_refl _)))
  have HC4 := Lib.hid hcell4
  have HSP := Lib.hid hsp
  have hsl := cut_high (P := Try.prog) (n := m + 1) (hi := m) (c := c4) Try.underlying22 size_str (some ⟨g4, 0, none⟩) (by omega)
  have hmc4 : m ≤ c4 := by omega
  clear HK2 HO3 HB3 hz3 ho hup hat hb4 hcs hcell4 hsp hfull
  go_wp2_with fail
  refine (build_any (some ⟨g4, 0, none⟩) m c4 k2 per w4 HK4.out.now.2 (by omega) hmc4 HS2.out).mono ?_
  rintro e w5 ⟨A5, c5, rfl, ho, hb⟩
  have hrb := fun w hx => refBuild_any A2 m c2 k2 per w hx (by omega) HS2.out
  have hbd := fun w hx => build_any (some ⟨g4, 0, none⟩) m c4 k2 per w hx (by omega) hmc4 HS2.out
  have hfl := buildL_length (keysL k2) per (by simp [keysL, HKL.out]; omega)
  have hsz := sizeN_le (n := (keysL k2).length) (per := perN per) (by simp [keysL, HKL.out]; omega) (perN_le per).2
  obtain ⟨f, hf⟩ : ∃ f, f = buildL (keysL k2) per := ⟨_, rfl⟩
  rw [← hf] at ho hfl hrb hbd ⊢
  have hf2 : f.length ≤ 200000 := by omega
  have hf9 : 9 ≤ f.length := by omega
  obtain ⟨F, hF⟩ : ∃ F, F = f.length := ⟨_, rfl⟩
  rw [← hF] at ho hf2 hf9 hrb hbd ⊢
  have HRB := Lib.hid hrb
  have HBD := Lib.hid hbd
  have HB5 := Lib.hid hb
  have HK5 := Lib.hid ((HK4.out.on hb).and ho.keeps)
  clear hb ho hf hfl hsz hF hrb hbd
  go_wp2_with fail
  refine (HBD.out w5 HK5.out.now.1.2).mono ?_
  rintro e w6 ⟨A6, c6, rfl, ho, hb⟩
  obtain ⟨g5, rfl, hg5, hg5b, -, -⟩ := HK5.out.now.2.some_ (by omega)
  obtain ⟨g6, rfl, hg6, hg6b, -, -⟩ := ho.some_ (by omega)
  have hg56 : g6 ≠ g5 := by omega
  have HB6 := Lib.hid (HB5.out.trans (hb.mono HB5.out.size))
  have HK6 := Lib.hid ((HK5.out.on hb).and ho.keeps)
  have hz46 := HB6.out.size
  clear HK5 HBD ho hb hg5b hg6 hsl
  go_wp2_with fail
  go_loopw [33] (fun iv wr => ∃ i : Nat, iv = .int .i64 i ∧ i ≤ m ∧ Below w6.heap.size w6 wr) (fun iv _ => m - (intOf iv).toNat)
  case atStart => exact ⟨0, rfl, by omega, Below.refl _ _⟩
  case round =>
    obtain ⟨i, rfl, hi, hb⟩ := hrel
    have HKr := Lib.hid (HK6.out.on hb)
    have HB := Lib.hid hb
    clear hb
    by_cases him : (i : Int) < (m : Int)
    · have hq1 : ∀ w', Below wr.heap.size wr w' → w'.cell? ⟨g4, i, none⟩ = some (.string (k2.getD i .empty)) := fun w' hb => HC4.out i (by omega) w' (HB6.out.trans ((HB.out.trans (hb.mono HB.out.size)).mono HB6.out.size))
      obtain ⟨ad, rfl, _, hcell⟩ := HKr.out.now.1.1.1.2.str_ (k := i) (by omega)
      have hq2 : ∀ w', Below wr.heap.size wr w' → w'.cell? (ad.add i) = some (.string (k2.getD i .empty)) := fun w' hb => by
        rw [hb.cell (World.block_lt_of_cell? _ _ hcell)]
        exact hcell
      obtain ⟨s, hse⟩ : ∃ s, s = k2.getD i .empty := ⟨_, rfl⟩
      rw [← hse] at hq1 hq2
      have HQ1 := Lib.hid hq1
      have HQ2 := Lib.hid hq2
      have hi0 : (0 : Int) ≤ (i : Int) := by omega
      have him1 : (i : Int) < (m : Int) + 1 := by omega
      clear hse hq1 hq2 hcell
      go_wp2_with fail
      refine wp_region_noPanic ?_
      refine wp_region_held_drew (S := fun w' => Below wr.heap.size wr w') (by kernel_rfl) (below_drew wr) (fun hH => ?_)
      refine wpAnyH_take (i := 0) (oi := _) (v := ?_) (by simp only [List.getElem?_toArray, List.getElem?_cons_zero]; rfl) (by kernel_rfl) (by kernel_rfl) (by kernel_rfl) (fun _ _ _ h => h) (Or.inl ⟨by rfl, ?_⟩) (by assumption) ?_
      rotate_left
      · intro w' hSw; (try dsimp only at hSw); go_simp; try with_reducible rfl
      try simp only [Act.put, List.setIfInBounds_toArray, List.set_cons_zero, List.set_cons_succ]
      refine wpAnyH_take (i := 1) (oi := _) (v := ?_) (by simp only [List.getElem?_toArray, List.getElem?_cons_zero, List.getElem?_cons_succ]; rfl) (by kernel_rfl) (by kernel_rfl) (by kernel_rfl) (fun _ _ _ h => h) (Or.inl ⟨by rfl, ?_⟩) (by assumption) ?_
      rotate_left
      · intro w' hSw; (try dsimp only at hSw); go_simp; try with_reducible rfl
      try simp only [Act.put, List.setIfInBounds_toArray, List.set_cons_zero, List.set_cons_succ]
      refine wpAnyH_take (i := 2) (oi := _) (v := ?_) (by simp only [List.getElem?_toArray, List.getElem?_cons_zero, List.getElem?_cons_succ]; rfl) (by kernel_rfl) (by kernel_rfl) (by kernel_rfl) (fun _ _ _ h => h) (Or.inl ⟨by rfl, ?_⟩) (by assumption) ?_
      rotate_left
      · intro w' hSw; (try dsimp only at hSw); go_simp; try with_reducible rfl
      try simp only [Act.put, List.setIfInBounds_toArray, List.set_cons_zero, List.set_cons_succ]
      refine wpAnyH_take (i := 3) (oi := _) (v := ?_) (by simp only [List.getElem?_toArray, List.getElem?_cons_zero, List.getElem?_cons_succ]; rfl) (by kernel_rfl) (by kernel_rfl) (by kernel_rfl) (fun _ _ _ h => h) (Or.inl ⟨by rfl, ?_⟩) (by assumption) ?_
      rotate_left
      · intro w' hSw; (try dsimp only at hSw); have hf := HQ1.out _ hSw; go_simp; try with_reducible rfl
      try simp only [Act.put, List.setIfInBounds_toArray, List.set_cons_zero, List.set_cons_succ]
      refine wpAnyH_take (i := 4) (oi := _) (v := ?_) (by simp only [List.getElem?_toArray, List.getElem?_cons_zero, List.getElem?_cons_succ]; rfl) (by kernel_rfl) (by kernel_rfl) (by kernel_rfl) (fun _ _ _ h => h) (Or.inl ⟨by rfl, ?_⟩) (by assumption) ?_
      rotate_left
      · intro w' hSw; (try dsimp only at hSw); go_simp; try with_reducible rfl
      try simp only [Act.put, List.setIfInBounds_toArray, List.set_cons_zero, List.set_cons_succ]
      refine wpAnyH_take (i := 5) (oi := _) (v := ?_) (by simp only [List.getElem?_toArray, List.getElem?_cons_zero, List.getElem?_cons_succ]; rfl) (by kernel_rfl) (by kernel_rfl) (by kernel_rfl) (fun _ _ _ h => h) (Or.inl ⟨by rfl, ?_⟩) (by assumption) ?_
      rotate_left
      · intro w' hSw; (try dsimp only at hSw); go_simp; try with_reducible rfl
      try simp only [Act.put, List.setIfInBounds_toArray, List.set_cons_zero, List.set_cons_succ]
      refine wpAnyH_take (i := 6) (oi := _) (v := ?_) (by simp only [List.getElem?_toArray, List.getElem?_cons_zero, List.getElem?_cons_succ]; rfl) (by kernel_rfl) (by kernel_rfl) (by kernel_rfl) (fun _ _ _ h => h) (Or.inl ⟨by rfl, ?_⟩) (by assumption) ?_
      rotate_left
      · intro w' hSw; (try dsimp only at hSw); go_simp; try with_reducible rfl
      try simp only [Act.put, List.setIfInBounds_toArray, List.set_cons_zero, List.set_cons_succ]
      refine wpAnyH_take (i := 7) (oi := _) (v := ?_) (by simp only [List.getElem?_toArray, List.getElem?_cons_zero, List.getElem?_cons_succ]; rfl) (by kernel_rfl) (by kernel_rfl) (by kernel_rfl) (fun _ _ _ h => h) (Or.inl ⟨by rfl, ?_⟩) (by assumption) ?_
      rotate_left
      · intro w' hSw; (try dsimp only at hSw); have hf := HQ2.out _ hSw; go_simp; try with_reducible rfl
      try simp only [Act.put, List.setIfInBounds_toArray, List.set_cons_zero, List.set_cons_succ]
      refine wpAnyH_take (i := 8) (oi := _) (v := ?_) (by simp only [List.getElem?_toArray, List.getElem?_cons_zero, List.getElem?_cons_succ]; rfl) (by kernel_rfl) (by kernel_rfl) (by kernel_rfl) (fun _ _ _ h => h) (Or.inl ⟨by rfl, ?_⟩) (by assumption) ?_
      rotate_left
      · intro w' hSw; (try dsimp only at hSw); go_simp; try with_reducible rfl
      try simp only [Act.put, List.setIfInBounds_toArray, List.set_cons_zero, List.set_cons_succ]
      refine wpAnyH_done (by kernel_rfl) ?_ _
      refine NoPanic.normal ?_
      go_wp2_with fail
      go_roundw
      case rel => exact ⟨i + 1, by go_num, by omega, HB.out.drew⟩
      case measure => simp [intOf]; omega
    · have hz6 := HB.out.size
      have HOF := Lib.hid HKr.out.now.1.2
      have hfin : ∀ w', Upd (fun k => k = g5) wr w' → Below w4.heap.size w4 w' ∧ Keeps w' (fun w' => Below w.heap.size w w' ∧ Reads w' w'.heap.size 1 A2 m (strs k2) ∧ Reads w' w'.heap.size 1 (some ⟨g6, 0, none⟩) F (u8s f)) := fun w' hu => by
        have hb4 := (HB6.out.trans (HB.out.mono HB6.out.size)).trans (hu.to_below (by omega) (fun i hi e => by omega))
        have hw := HKr.out.now.1.1.1.1.1
        have hw4 := HK4.out.now.1.1.1.size
        have hbw := hw.trans (hu.to_below hw.size (fun i hi e => by omega))
        exact ⟨hb4, (below_keeps hbw hbw.size).and (((HK4.out.at_ hb4).1.2.keeps (Nat.le_refl _)).and ((HKr.out.now.2.upd hu (fun g hg hS => hg56 (by cases hg; exact hS))).keepsR))⟩
      have HFIN := Lib.hid hfin
      obtain ⟨w7, hw7⟩ : ∃ v, v = wr := ⟨_, rfl⟩
      rw [← hw7] at HFIN HOF hz6 ⊢
      clear hfin HKr HB HK6 HK4 hw7
      go_wp2_with fail
      go_loopw [48] (fun iv wr => ∃ (i : Nat) (xs : List Value), iv = .int .i64 i ∧ i ≤ F ∧ Own wr w4.heap.size 5 1 (some ⟨g5, 0, none⟩) F c5 xs ∧ Upd (fun k => k = g5) w7 wr) (fun iv _ => F - (intOf iv).toNat)
      case atStart => exact ⟨0, _, rfl, by omega, HOF.out, Upd.refl _ _⟩
      case round =>
        obtain ⟨i, xs, rfl, hi, ho, hu⟩ := hrel
        have HO := Lib.hid ho
        have HU := Lib.hid hu
        clear ho hu
        by_cases hiN : (i : Int) < (F : Int)
        · have hi0 : (0 : Int) ≤ (i : Int) := by omega
          obtain ⟨u, hu⟩ : ∃ u, xs[i]? = some u := ⟨_, List.getElem?_eq_getElem (by have := HO.out.length; omega)⟩
          have hcell := HO.out.cell rfl hu
          have hfz := HO.out.frozen rfl i
          clear hu
          go_wp2_with fail
          go_roundw
          case rel => exact ⟨i + 1, _, by go_num, by omega, HO.out.set_ rfl (.int .u8 255), HU.out.setCell (p := ⟨g5, i, none⟩) (fun _ => rfl) _⟩
          case measure => simp [intOf]; omega
        · obtain ⟨w8, hw8⟩ : ∃ v, v = wr := ⟨_, rfl⟩
          rw [← hw8] at HU HO ⊢
          have hz8 := HU.out.size
          clear hw8 HOF
          go_wp2_with fail
          go_loopw [6, 10] (fun bv iv wr => ∃ (k : Nat) (Ab : Option Addr) (cb : Nat) (ys : List Value), bv = .slice Ab (F + k) cb ∧ iv = .int .i64 k ∧ k ≤ 20 ∧
            Own wr w4.heap.size 5 1 Ab (F + k) cb ys ∧ (∀ g, blockOf Ab = some g → g < w7.heap.size → g = g5) ∧ Upd (fun k => k = g5) w7 wr) (fun _ iv _ => 20 - (intOf iv).toNat)
          case atStart => exact ⟨0, some ⟨g5, 0, none⟩, c5, _, rfl, rfl, by omega, HO.out, fun g hg _ => by cases hg; rfl, HU.out⟩
          case round =>
            obtain ⟨k, Ab, cb, ys, rfl, rfl, hk, hoA, hAo, hU⟩ := hrel
            have HA := Lib.hid hoA
            have HN := Lib.hid hAo
            have HU2 := Lib.hid hU
            have hzr := hU.size
            clear hoA hAo hU
            by_cases hk20 : (k : Int) < 20
            · go_wp2_with (at_builtin; refine halt_ ?_)
              refine unhalt ?_
              refine wpList_app elem_u8 (HA.out.alloc _) (reads_new (cs := #[_]) wr 5 1 rfl) (by simp [Value.oneCell']) (by omega) (by simp; omega) _ _ rfl rfl rfl rfl ?_
              intro Ab' cb' w9 ho hup hat
              have hU4 := (HU2.out.alloc _).trans hup (fun g hg e => HN.out g e hg)
              have hNn : ∀ g, blockOf Ab' = some g → g < w7.heap.size → g = g5 := by
                rcases hat with h1 | ⟨g', rfl, h1⟩
                · rw [h1]
                  exact HN.out
                · simp only [World.size_alloc] at h1
                  intro g hg h
                  cases hg
                  dsimp only at h
                  omega
              have HO9 := Lib.hid ho
              have HU9 := Lib.hid hU4
              have HN9 := Lib.hid hNn
              clear ho hup hat hU4 hNn
              go_wp2_with fail
              go_roundw
              case rel => exact ⟨k + 1, Ab', cb', _, by rw [Nat.add_assoc], by go_num, by omega, by rw [← Nat.add_assoc]; exact HO9.out, HN9.out, HU9.out⟩
              case measure => simp [intOf]; omega
            · have hF := HFIN.out wr HU2.out
              have HKe := Lib.hid hF.2
              have HSPr := Lib.hid (fun w' (hb : Below wr.heap.size wr w') => HSP.out w' (hF.1.trans (hb.mono hF.1.size)))
              have hmm : (m : Int) < (m : Int) + 1 := by omega
              have hm0 : (0 : Int) ≤ (m : Int) := by omega
              clear hF
              go_wp2_with fail
              refine wp_region_noPanic ?_
              refine wp_region_held_drew (S := fun w' => Below wr.heap.size wr w') (by kernel_rfl) (below_drew wr) (fun hH => ?_)
              refine wpAnyH_take (i := 0) (oi := _) (v := ?_) (by simp only [List.getElem?_toArray, List.getElem?_cons_zero]; rfl) (by kernel_rfl) (by kernel_rfl) (by kernel_rfl) (fun _ _ _ h => h) (Or.inl ⟨by rfl, ?_⟩) (by assumption) ?_
              rotate_left
              · intro w' hSw; (try dsimp only at hSw); go_simp; try with_reducible rfl
              try simp only [Act.put, List.setIfInBounds_toArray, List.set_cons_zero, List.set_cons_succ]
              refine wpAnyH_take (i := 1) (oi := _) (v := ?_) (by simp only [List.getElem?_toArray, List.getElem?_cons_zero, List.getElem?_cons_succ]; rfl) (by kernel_rfl) (by kernel_rfl) (by kernel_rfl) (fun _ _ _ h => h) (Or.inl ⟨by rfl, ?_⟩) (by assumption) ?_
              rotate_left
              · intro w' hSw; (try dsimp only at hSw); go_simp; try with_reducible rfl
              try simp only [Act.put, List.setIfInBounds_toArray, List.set_cons_zero, List.set_cons_succ]
              refine wpAnyH_take (i := 2) (oi := _) (v := ?_) (by simp only [List.getElem?_toArray, List.getElem?_cons_zero, List.getElem?_cons_succ]; rfl) (by kernel_rfl) (by kernel_rfl) (by kernel_rfl) (fun _ _ _ h => h) (Or.inl ⟨by rfl, ?_⟩) (by assumption) ?_
              rotate_left
              · intro w' hSw; (try dsimp only at hSw); go_simp; try with_reducible rfl
              try simp only [Act.put, List.setIfInBounds_toArray, List.set_cons_zero, List.set_cons_succ]
              refine wpAnyH_take (i := 3) (oi := _) (v := ?_) (by simp only [List.getElem?_toArray, List.getElem?_cons_zero, List.getElem?_cons_succ]; rfl) (by kernel_rfl) (by kernel_rfl) (by kernel_rfl) (fun _ _ _ h => h) (Or.inl ⟨by rfl, ?_⟩) (by assumption) ?_
              rotate_left
              · intro w' hSw; (try dsimp only at hSw); go_simp; try with_reducible rfl
              try simp only [Act.put, List.setIfInBounds_toArray, List.set_cons_zero, List.set_cons_succ]
              refine wpAnyH_take (i := 4) (oi := _) (v := ?_) (by simp only [List.getElem?_toArray, List.getElem?_cons_zero, List.getElem?_cons_succ]; rfl) (by kernel_rfl) (by kernel_rfl) (by kernel_rfl) (fun _ _ _ h => h) (Or.inl ⟨by rfl, ?_⟩) (by assumption) ?_
              rotate_left
              · intro w' hSw; (try dsimp only at hSw); have hf := HSPr.out _ hSw; go_simp; try with_reducible rfl
              try simp only [Act.put, List.setIfInBounds_toArray, List.set_cons_zero, List.set_cons_succ]
              refine wpAnyH_take (i := 5) (oi := _) (v := ?_) (by simp only [List.getElem?_toArray, List.getElem?_cons_zero, List.getElem?_cons_succ]; rfl) (by kernel_rfl) (by kernel_rfl) (by kernel_rfl) (fun _ _ _ h => h) (Or.inl ⟨by rfl, ?_⟩) (by assumption) ?_
              rotate_left
              · intro w' hSw; (try dsimp only at hSw); go_simp; try with_reducible rfl
              try simp only [Act.put, List.setIfInBounds_toArray, List.set_cons_zero, List.set_cons_succ]
              refine wpAnyH_take (i := 6) (oi := _) (v := ?_) (by simp only [List.getElem?_toArray, List.getElem?_cons_zero, List.getElem?_cons_succ]; rfl) (by kernel_rfl) (by kernel_rfl) (by kernel_rfl) (fun _ _ _ h => h) (Or.inl ⟨by rfl, ?_⟩) (by assumption) ?_
              rotate_left
              · intro w' hSw; (try dsimp only at hSw); go_simp; try with_reducible rfl
              try simp only [Act.put, List.setIfInBounds_toArray, List.set_cons_zero, List.set_cons_succ]
              refine wpAnyH_take (i := 7) (oi := _) (v := ?_) (by simp only [List.getElem?_toArray, List.getElem?_cons_zero, List.getElem?_cons_succ]; rfl) (by kernel_rfl) (by kernel_rfl) (by kernel_rfl) (fun _ _ _ h => h) (Or.inl ⟨by rfl, ?_⟩) (by assumption) ?_
              rotate_left
              · intro w' hSw; (try dsimp only at hSw); go_simp; try with_reducible rfl
              try simp only [Act.put, List.setIfInBounds_toArray, List.set_cons_zero, List.set_cons_succ]
              refine wpAnyH_take (i := 8) (oi := _) (v := ?_) (by simp only [List.getElem?_toArray, List.getElem?_cons_zero, List.getElem?_cons_succ]; rfl) (by kernel_rfl) (by kernel_rfl) (by kernel_rfl) (fun _ _ _ h => h) (Or.inl ⟨by rfl, ?_⟩) (by assumption) ?_
              rotate_left
              · intro w' hSw; (try dsimp only at hSw); have hf := str_u8 (c := c6) (HKe.out.at_ hSw).2.2; go_simp; try with_reducible rfl
              try simp only [Act.put, List.setIfInBounds_toArray, List.set_cons_zero, List.set_cons_succ]
              refine wpAnyH_take (i := 9) (oi := _) (v := ?_) (by simp only [List.getElem?_toArray, List.getElem?_cons_zero, List.getElem?_cons_succ]; rfl) (by kernel_rfl) (by kernel_rfl) (by kernel_rfl) (fun _ _ _ h => h) (Or.inl ⟨by rfl, ?_⟩) (by assumption) ?_
              rotate_left
              · intro w' hSw; (try dsimp only at hSw); go_simp; try with_reducible rfl
              try simp only [Act.put, List.setIfInBounds_toArray, List.set_cons_zero, List.set_cons_succ]
              refine wpAnyH_take (i := 10) (oi := _) (v := ?_) (by simp only [List.getElem?_toArray, List.getElem?_cons_zero, List.getElem?_cons_succ]; rfl) (by kernel_rfl) (by kernel_rfl) (by kernel_rfl) (fun _ _ _ h => h) (Or.inl ⟨by rfl, ?_⟩) (by assumption) ?_
              rotate_left
              · intro w' hSw; (try dsimp only at hSw); go_simp; try with_reducible rfl
              try simp only [Act.put, List.setIfInBounds_toArray, List.set_cons_zero, List.set_cons_succ]
              refine wpAnyH_ready (rs := [11]) (by kernel_rfl) (by simp) (AllReadyH.cons (o := _) (by simp only [List.getElem?_toArray, List.getElem?_cons_zero, List.getElem?_cons_succ]; rfl) (fun K hK => ?_) AllReadyH.nil)
              go_simp
              go_at_call 11
              refine (HRB.out _ HKe.out.drew.now.2.1).mono ?_
              rintro e w10 ⟨A10, c10, rfl, ho, hb⟩
              have HB10 := Lib.hid ((below_drew wr).trans hb)
              have HK10 := Lib.hid ((HKe.out.on HB10.out).and ho.keepsR)
              clear ho hb
              try go_wp2_with fail
              refine hK.out _ _ (HB10.out) (fun hHeld => ?_)
              clear hK K hH
              have hH := hHeld
              clear hHeld
              try simp only [Act.put, List.setIfInBounds_toArray, List.set_cons_zero, List.set_cons_succ]
              refine wpAnyH_more (S' := fun w' => Below w10.heap.size w10 w') (fun w' h => HB10.out.trans (h.mono HB10.out.size)) _ _ _ _ ?_
              clear hH
              have hH := Below.refl w10.heap.size w10
              refine wpAnyH_take (i := 12) (oi := _) (v := ?_) (by simp only [List.getElem?_toArray, List.getElem?_cons_zero, List.getElem?_cons_succ]; rfl) (by kernel_rfl) (by kernel_rfl) (by kernel_rfl) (fun _ _ _ h => h) (Or.inl ⟨by rfl, ?_⟩) (by assumption) ?_
              rotate_left
              · intro w' hSw; (try dsimp only at hSw); have hf := str_u8 (c := c10) (HK10.out.at_ hSw).2; go_simp; try with_reducible rfl
              try simp only [Act.put, List.setIfInBounds_toArray, List.set_cons_zero, List.set_cons_succ]
              refine wpAnyH_take (i := 13) (oi := _) (v := ?_) (by simp only [List.getElem?_toArray, List.getElem?_cons_zero, List.getElem?_cons_succ]; rfl) (by kernel_rfl) (by kernel_rfl) (by kernel_rfl) (fun _ _ _ h => h) (Or.inl ⟨by rfl, ?_⟩) (by assumption) ?_
              rotate_left
              · intro w' hSw; (try dsimp only at hSw); go_simp; try with_reducible rfl
              try simp only [Act.put, List.setIfInBounds_toArray, List.set_cons_zero, List.set_cons_succ]
              refine wpAnyH_take (i := 14) (oi := _) (v := ?_) (by simp only [List.getElem?_toArray, List.getElem?_cons_zero, List.getElem?_cons_succ]; rfl) (by kernel_rfl) (by kernel_rfl) (by kernel_rfl) (fun _ _ _ h => h) (Or.inl ⟨by rfl, ?_⟩) (by assumption) ?_
              rotate_left
              · intro w' hSw; (try dsimp only at hSw); go_simp; try with_reducible rfl
              try simp only [Act.put, List.setIfInBounds_toArray, List.set_cons_zero, List.set_cons_succ]
              refine wpAnyH_take (i := 15) (oi := _) (v := ?_) (by simp only [List.getElem?_toArray, List.getElem?_cons_zero, List.getElem?_cons_succ]; rfl) (by kernel_rfl) (by kernel_rfl) (by kernel_rfl) (fun _ _ _ h => h) (Or.inl ⟨by rfl, ?_⟩) (by assumption) ?_
              rotate_left
              · intro w' hSw; (try dsimp only at hSw); go_simp; try with_reducible rfl
              try simp only [Act.put, List.setIfInBounds_toArray, List.set_cons_zero, List.set_cons_succ]
              refine wpAnyH_done (by kernel_rfl) ?_ _
              refine NoPanic.normal ?_
              go_wp2_with fail
              go_ret
              exact ⟨by simp, HK10.out.now.1.1⟩

theorem ownLaw_vals (W : World) (args : Array Value) (hv : Vals Try.prog W [22, 3] args.toList) :
    Calls Try.prog 7 args W fun e W' => e = .returned (.bool true) ∧ Below W.heap.size W W' := by
  obtain ⟨v0, r0, e0, h0, v1, r1, rfl, h1, rfl⟩ := hv
  obtain rfl : args = #[v0, v1] := by cases args; simp_all
  obtain ⟨A, n, c, ks, rfl, hr, hs, hnc, hc⟩ := val_strs h0
  obtain ⟨per, rfl, _⟩ := val_int Try.underlying3 h1
  exact ownLaw_walk A n c ks per W hr hs hnc hc

set_option maxRecDepth 100000 in
theorem ownLaw_lifted (os : Os) (started : os.Started) (H : Type) (enc : TypeId × Value → H) :
    ReturnsInHanded {} Try.checked os 7 .any (Rows.bloomOwnSpec.pre6 enc Try.prog Try.f7 Rows.bloomOwnRow.domain false) (Rows.bloomOwnSpec.post enc Try.prog Try.f7 false true false false) :=
  lift_law (C := Try.checked) #[22, 3] (by kernel_rfl) (by kernel_rfl) started (by kernel_rfl) Try.func7
    (ChangeSpec.witness6 (enc := enc) (C := Try.checked) false ⟨#[], #[.slice none 0 0, .int .i64 0], []⟩ 8 (by kernel_rfl) (by kernel_rfl) (by kernel_rfl) (by kernel_rfl))
    Try.params7 (by kernel_rfl) rfl rfl Try.underlying4 (fun ds hl => match ds, hl with | [_, _], _ => rfl) (fun W args hv => ownLaw_vals W args hv)

theorem ownLaw_holds : Rows.BloomOwnSaid :=
  OpenClaim.holds_of_wide 7 Try.f7 rfl rfl rfl rfl rfl rfl rfl ⟨rfl, rfl, rfl, rfl, rfl⟩ rfl rfl rfl rfl rfl (by kernel_rfl) Try.func7 (by kernel_rfl)
    (of_decide_eq_true (by kernel_rfl)) (by unfold Func.isWrapper; rw [if_neg (of_decide_eq_false (by kernel_rfl))]; exact ⟨rfl, rfl⟩)
    (fun os started H enc _ => ownLaw_lifted os started H enc)
end Go.Proofs.Ytmlkjeaoaanogaa
