/- law: BloomTells -/
import Derived.Test.YtmlkjeaoaanogaaBlmG
namespace Go.Proofs.Ytmlkjeaoaanogaa
open Go.RowKit


set_option maxRecDepth 100000 in
set_option maxHeartbeats 8000000 in
theorem tellsLaw_walk (A : Option Addr) (n c : Nat) (ks : List ByteArray) (per : Int) (b : ByteArray) (w : World) (hx : Reads w w.heap.size 1 A n (strs ks)) (hs : ∀ s ∈ ks, s.size ≤ maxLen) (hnc : n ≤ c) (hc : c ≤ 8796093021952) (hbs : b.size ≤ maxLen) :
    Calls Try.prog 6 #[.slice A n c, .int .i64 per, .string b] w fun e w' => e = .returned (.bool true) ∧ Below w.heap.size w w' := by
  have hlen : ks.length = n := by have := hx.1; rw [strs_length] at this; omega
  obtain ⟨m, hm⟩ : ∃ m, m = min n 6 := ⟨_, rfl⟩
  obtain ⟨k2, hk2⟩ : ∃ k2, k2 = ks.take m := ⟨_, rfl⟩
  have hr := hx.take (k := m) (by omega)
  rw [Nat.mul_one, strs_take, ← hk2] at hr
  have hk2l : k2.length = m := by rw [hk2, List.length_take, hlen]; omega
  have hs2 : ∀ s ∈ k2, s.size ≤ maxLen := fun s h => hs s (List.mem_of_mem_take (hk2 ▸ h))
  have hm6 : m ≤ 6 := by omega
  have hmc : m ≤ c := by omega
  have HK := Lib.hid ((Keeps.start w).and (hr.keeps (Nat.le_refl _)))
  have HS2 := Lib.hid hs2
  clear hx hk2 hr hs hs2 hlen
  have hcut : ∀ h, h ≤ m → ∀ w', Reads w' w'.heap.size 1 A m (strs k2) → Reads w' w'.heap.size 1 A h (strs (k2.take h)) := by
    intro h hh w' hx
    have := hx.take (k := h) hh
    rwa [Nat.mul_one, strs_take] at this
  have HCUT := Lib.hid hcut
  clear hcut
  obtain ⟨r, hr, hr2⟩ : ∃ r : Nat, IntKind.u64.wrap per = (r : Int) ∧ r < 18446744073709551616 := ⟨(IntKind.u64.wrap per).toNat, by simp [IntKind.wrap, IntKind.bits, IntKind.signed]; omega, by simp [IntKind.wrap, IntKind.bits, IntKind.signed]; omega⟩
  go_enter Try.func6, Try.ntmps6
  go_wp2_with fail
  refine (awake_any w).mono ?_
  rintro e w1 ⟨rfl, hb⟩
  have HK1 := Lib.hid (HK.out.on hb)
  clear HK hb
  by_cases h6 : (6 : Int) < (n : Int)
  · have hsh : ∀ w, (Instr.slice 22 (.slice A n c) none (some (.int .i64 6)) none).run Try.prog w = .ok (.slice A m c) w := by
      rw [show m = 6 by omega]
      exact fun w => cut_high (P := Try.prog) (n := n) (hi := 6) (c := c) Try.underlying22 size_str A (by omega) w
    clear hm
    go_wp2_with (at_builtin; refine halt_ ?_)
    refine unhalt ?_
    obtain ⟨h, hh⟩ : ∃ h, h = m / 2 := ⟨_, rfl⟩
    obtain ⟨p, hp⟩ : ∃ p : Int, p = (r : Int) % 10 + 1 := ⟨_, rfl⟩
    rw [← hh, ← hp]
    have hper : perN p ≤ 10 := by unfold perN; omega
    have hhm : h ≤ m := by omega
    clear hh hp hr hr2
    obtain ⟨few, hfew⟩ : ∃ few, few = k2.take h := ⟨_, rfl⟩
    have hfl : few.length = h := by rw [hfew, List.length_take, hk2l]; omega
    have hcell := (HCUT.out h hhm _ HK1.out.now.2)
    rw [← hfew] at hcell
    have hsub : ∀ k ∈ keysL few, k ∈ keysL k2 := by
      intro k hk
      unfold keysL at hk ⊢
      obtain ⟨s, h1, h2⟩ := List.mem_map.1 hk
      exact List.mem_map.2 ⟨s, List.mem_of_mem_take (hfew ▸ h1), h2⟩
    have hsz : sizeN (keysL few).length (perN p) = sizeN (keysL k2).length (perN p) := by
      have e1 : h * perN p ≤ 6 * 10 := Nat.mul_le_mul (by omega) hper
      have e2 : m * perN p ≤ 6 * 10 := Nat.mul_le_mul (by omega) hper
      unfold sizeN keysL
      rw [List.length_map, List.length_map, hfl, hk2l]
      omega
    have hmore := may_more (keysL few) (keysL k2) p (by unfold keysL; rw [List.length_map]; omega) (by unfold keysL; rw [List.length_map]; omega) hsz hsub b.data.toList
    have hF1 := buildL_length (keysL few) p (by unfold keysL; rw [List.length_map]; omega)
    have hF2 := buildL_length (keysL k2) p (by unfold keysL; rw [List.length_map]; omega)
    have hF := hF1.trans ((congrArg (· + 1) hsz).trans hF2.symm)
    have hFle := (sizeN_le (n := (keysL k2).length) (per := perN p) (by unfold keysL; rw [List.length_map]; omega) (by omega)).2
    have hF2b : (buildL (keysL k2) p).length ≤ 200000 := by omega
    have hsf : ∀ s ∈ few, s.size ≤ maxLen := fun s h => HS2.out s (List.mem_of_mem_take (hfew ▸ h))
    clear hsub hsz hF1 hF2 hFle hfew
    refine wpList_app elem_strs (Own.empty w1 _ 1) (hcell.alloc (Nat.le_refl _) _) (strs_one few) (by omega) (by simp) _ _ rfl rfl rfl rfl ?_
    intro A2 c2 w2 ho hup hat
    rw [Nat.zero_add, List.nil_append] at ho
    rw [Nat.zero_add]
    have hb2 : Below w1.heap.size w1 w2 := (Upd.trans (S := fun _ => False) ((Upd.refl _ w1).alloc _) hup (by intro i hi e; simp [blockOf] at e; omega)).none_
    have hc2 := ho.le
    have HK2 := Lib.hid ((HK1.out.on hb2).and ho.keepsR)
    have HMORE := Lib.hid hmore
    have HFE := Lib.hid hF
    have HSF := Lib.hid hsf
    clear HK1 hup hat hb2 ho hcell hmore hF hsf
    go_wp2_with fail
    refine (build_any A2 h c2 few p w2 HK2.out.now.2 (by omega) hc2 HSF.out).mono ?_
    rintro e w3 ⟨A3, c3, rfl, ho, hb⟩
    rw [HFE.out] at ho ⊢
    obtain ⟨f2, hf2⟩ : ∃ f2, f2 = buildL (keysL k2) p := ⟨_, rfl⟩
    have hbd := fun A c w hx hc => build_any A m c k2 p w hx (by omega) hc HS2.out
    obtain ⟨f1, hf1⟩ : ∃ f1, f1 = buildL (keysL few) p := ⟨_, rfl⟩
    rw [← hf1] at ho
    rw [← hf2] at ho hbd hF2b ⊢
    have hmr := HMORE.out
    rw [← hf1, ← hf2] at hmr
    have HMR := Lib.hid hmr
    have HBD := Lib.hid hbd
    clear HMORE HFE hmr hbd hf1 hf2
    obtain ⟨F, hF⟩ : ∃ F, F = f2.length := ⟨_, rfl⟩
    rw [← hF] at ho HBD hF2b ⊢
    clear hF
    have HK3 := Lib.hid ((HK2.out.on hb).and ho.keepsR)
    clear HK2 ho hb
    go_wp2_with (at_builtin; refine halt_ ?_)
    refine unhalt ?_
    refine wpList_app elem_strs (Own.empty w3 _ 1) (HK3.out.now.1.1.2.alloc (Nat.le_refl _) _) (strs_one k2) (by omega) (by simp) _ _ rfl rfl rfl rfl ?_
    intro A4 c4 w4 ho hup hat
    rw [Nat.zero_add, List.nil_append] at ho
    rw [Nat.zero_add]
    have hb4 : Below w3.heap.size w3 w4 := (Upd.trans (S := fun _ => False) ((Upd.refl _ w3).alloc _) hup (by intro i hi e; simp [blockOf] at e; omega)).none_
    have hc4 := ho.le
    have HK4 := Lib.hid ((HK3.out.on hb4).and ho.keepsR)
    clear HK3 hup hat hb4 ho
    go_wp2_with fail
    refine (HBD.out A4 c4 w4 HK4.out.now.2 hc4).mono ?_
    rintro e w5 ⟨A5, c5, rfl, ho, hb⟩
    have HK5 := Lib.hid ((HK4.out.on hb).and ho.keepsR)
    clear HK4 ho hb
    go_wp2_with fail
    refine (build_any none 0 0 [] p w5 Reads.none_ (by omega) (by omega) (by simp)).mono ?_
    have hz := may_none p b.data.toList
    rw [show keysL [] = [] from rfl]
    rintro e w6 ⟨A6, c6, rfl, ho, hb⟩
    have hz2 := buildL_length [] p (by simp)
    have hzl := (sizeN_le (n := ([] : List (List UInt8)).length) (per := perN p) (by simp) (by omega)).2
    obtain ⟨f0, hf0⟩ : ∃ f0, f0 = buildL [] p := ⟨_, rfl⟩
    rw [← hf0] at ho hz hz2 ⊢
    have hz3 : f0.length ≤ 200000 := by omega
    have HK6 := Lib.hid ((HK5.out.on hb).and ho.keepsR)
    have HZ := Lib.hid hz
    clear HK5 ho hb hz hz2 hzl hf0
    go_wp2_with fail
    refine (may_any A6 _ c6 f0 b w6 HK6.out.now.2 (by unfold maxLen; omega) hbs).mono ?_
    rw [HZ.out]
    rintro e w7 ⟨rfl, hb⟩
    have HK7 := Lib.hid (HK6.out.on hb)
    clear HK6 hb
    go_wp2_with fail
    refine (may_any A5 F c5 f2 b w7 HK7.out.now.1.2 (by unfold maxLen; omega) hbs).mono ?_
    rintro e w8 ⟨rfl, hb⟩
    have HK8 := Lib.hid (HK7.out.on hb)
    clear HK7 hb
    have hmr := HMR.out
    by_cases hy : mayL f2 b.data.toList = true
    · rw [hy]
      clear hmr
      go_wp2_with fail
      go_ret
      exact ⟨by simp, HK8.out.now.1.1.1.1.1.1⟩
    · have hy2 : mayL f1 b.data.toList = false := by
        cases h1 : mayL f1 b.data.toList with
        | false => rfl
        | true => exact absurd (hmr h1) hy
      have hy1 : mayL f2 b.data.toList = false := by simpa using hy
      rw [hy1]
      have HY := Lib.hid hy2
      clear hmr hy hy1 hy2
      go_wp2_with fail
      refine (may_any A3 F c3 f1 b w8 HK8.out.now.1.1.1.2 (by unfold maxLen; omega) hbs).mono ?_
      rw [HY.out]
      rintro e w9 ⟨rfl, hb⟩
      have HK9 := Lib.hid (HK8.out.on hb)
      clear HK8 hb
      go_wp2_with fail
      go_ret
      exact ⟨by simp, HK9.out.now.1.1.1.1.1.1⟩
  · obtain rfl : m = n := by omega
    clear hm
    go_wp2_with (at_builtin; refine halt_ ?_)
    refine unhalt ?_
    obtain ⟨h, hh⟩ : ∃ h, h = m / 2 := ⟨_, rfl⟩
    obtain ⟨p, hp⟩ : ∃ p : Int, p = (r : Int) % 10 + 1 := ⟨_, rfl⟩
    rw [← hh, ← hp]
    have hper : perN p ≤ 10 := by unfold perN; omega
    have hhm : h ≤ m := by omega
    clear hh hp hr hr2
    obtain ⟨few, hfew⟩ : ∃ few, few = k2.take h := ⟨_, rfl⟩
    have hfl : few.length = h := by rw [hfew, List.length_take, hk2l]; omega
    have hcell := (HCUT.out h hhm _ HK1.out.now.2)
    rw [← hfew] at hcell
    have hsub : ∀ k ∈ keysL few, k ∈ keysL k2 := by
      intro k hk
      unfold keysL at hk ⊢
      obtain ⟨s, h1, h2⟩ := List.mem_map.1 hk
      exact List.mem_map.2 ⟨s, List.mem_of_mem_take (hfew ▸ h1), h2⟩
    have hsz : sizeN (keysL few).length (perN p) = sizeN (keysL k2).length (perN p) := by
      have e1 : h * perN p ≤ 6 * 10 := Nat.mul_le_mul (by omega) hper
      have e2 : m * perN p ≤ 6 * 10 := Nat.mul_le_mul (by omega) hper
      unfold sizeN keysL
      rw [List.length_map, List.length_map, hfl, hk2l]
      omega
    have hmore := may_more (keysL few) (keysL k2) p (by unfold keysL; rw [List.length_map]; omega) (by unfold keysL; rw [List.length_map]; omega) hsz hsub b.data.toList
    have hF1 := buildL_length (keysL few) p (by unfold keysL; rw [List.length_map]; omega)
    have hF2 := buildL_length (keysL k2) p (by unfold keysL; rw [List.length_map]; omega)
    have hF := hF1.trans ((congrArg (· + 1) hsz).trans hF2.symm)
    have hFle := (sizeN_le (n := (keysL k2).length) (per := perN p) (by unfold keysL; rw [List.length_map]; omega) (by omega)).2
    have hF2b : (buildL (keysL k2) p).length ≤ 200000 := by omega
    have hsf : ∀ s ∈ few, s.size ≤ maxLen := fun s h => HS2.out s (List.mem_of_mem_take (hfew ▸ h))
    clear hsub hsz hF1 hF2 hFle hfew
    refine wpList_app elem_strs (Own.empty w1 _ 1) (hcell.alloc (Nat.le_refl _) _) (strs_one few) (by omega) (by simp) _ _ rfl rfl rfl rfl ?_
    intro A2 c2 w2 ho hup hat
    rw [Nat.zero_add, List.nil_append] at ho
    rw [Nat.zero_add]
    have hb2 : Below w1.heap.size w1 w2 := (Upd.trans (S := fun _ => False) ((Upd.refl _ w1).alloc _) hup (by intro i hi e; simp [blockOf] at e; omega)).none_
    have hc2 := ho.le
    have HK2 := Lib.hid ((HK1.out.on hb2).and ho.keepsR)
    have HMORE := Lib.hid hmore
    have HFE := Lib.hid hF
    have HSF := Lib.hid hsf
    clear HK1 hup hat hb2 ho hcell hmore hF hsf
    go_wp2_with fail
    refine (build_any A2 h c2 few p w2 HK2.out.now.2 (by omega) hc2 HSF.out).mono ?_
    rintro e w3 ⟨A3, c3, rfl, ho, hb⟩
    rw [HFE.out] at ho ⊢
    obtain ⟨f2, hf2⟩ : ∃ f2, f2 = buildL (keysL k2) p := ⟨_, rfl⟩
    have hbd := fun A c w hx hc => build_any A m c k2 p w hx (by omega) hc HS2.out
    obtain ⟨f1, hf1⟩ : ∃ f1, f1 = buildL (keysL few) p := ⟨_, rfl⟩
    rw [← hf1] at ho
    rw [← hf2] at ho hbd hF2b ⊢
    have hmr := HMORE.out
    rw [← hf1, ← hf2] at hmr
    have HMR := Lib.hid hmr
    have HBD := Lib.hid hbd
    clear HMORE HFE hmr hbd hf1 hf2
    obtain ⟨F, hF⟩ : ∃ F, F = f2.length := ⟨_, rfl⟩
    rw [← hF] at ho HBD hF2b ⊢
    clear hF
    have HK3 := Lib.hid ((HK2.out.on hb).and ho.keepsR)
    clear HK2 ho hb
    go_wp2_with (at_builtin; refine halt_ ?_)
    refine unhalt ?_
    refine wpList_app elem_strs (Own.empty w3 _ 1) (HK3.out.now.1.1.2.alloc (Nat.le_refl _) _) (strs_one k2) (by omega) (by simp) _ _ rfl rfl rfl rfl ?_
    intro A4 c4 w4 ho hup hat
    rw [Nat.zero_add, List.nil_append] at ho
    rw [Nat.zero_add]
    have hb4 : Below w3.heap.size w3 w4 := (Upd.trans (S := fun _ => False) ((Upd.refl _ w3).alloc _) hup (by intro i hi e; simp [blockOf] at e; omega)).none_
    have hc4 := ho.le
    have HK4 := Lib.hid ((HK3.out.on hb4).and ho.keepsR)
    clear HK3 hup hat hb4 ho
    go_wp2_with fail
    refine (HBD.out A4 c4 w4 HK4.out.now.2 hc4).mono ?_
    rintro e w5 ⟨A5, c5, rfl, ho, hb⟩
    have HK5 := Lib.hid ((HK4.out.on hb).and ho.keepsR)
    clear HK4 ho hb
    go_wp2_with fail
    refine (build_any none 0 0 [] p w5 Reads.none_ (by omega) (by omega) (by simp)).mono ?_
    have hz := may_none p b.data.toList
    rw [show keysL [] = [] from rfl]
    rintro e w6 ⟨A6, c6, rfl, ho, hb⟩
    have hz2 := buildL_length [] p (by simp)
    have hzl := (sizeN_le (n := ([] : List (List UInt8)).length) (per := perN p) (by simp) (by omega)).2
    obtain ⟨f0, hf0⟩ : ∃ f0, f0 = buildL [] p := ⟨_, rfl⟩
    rw [← hf0] at ho hz hz2 ⊢
    have hz3 : f0.length ≤ 200000 := by omega
    have HK6 := Lib.hid ((HK5.out.on hb).and ho.keepsR)
    have HZ := Lib.hid hz
    clear HK5 ho hb hz hz2 hzl hf0
    go_wp2_with fail
    refine (may_any A6 _ c6 f0 b w6 HK6.out.now.2 (by unfold maxLen; omega) hbs).mono ?_
    rw [HZ.out]
    rintro e w7 ⟨rfl, hb⟩
    have HK7 := Lib.hid (HK6.out.on hb)
    clear HK6 hb
    go_wp2_with fail
    refine (may_any A5 F c5 f2 b w7 HK7.out.now.1.2 (by unfold maxLen; omega) hbs).mono ?_
    rintro e w8 ⟨rfl, hb⟩
    have HK8 := Lib.hid (HK7.out.on hb)
    clear HK7 hb
    have hmr := HMR.out
    by_cases hy : mayL f2 b.data.toList = true
    · rw [hy]
      clear hmr
      go_wp2_with fail
      go_ret
      exact ⟨by simp, HK8.out.now.1.1.1.1.1.1⟩
    · have hy2 : mayL f1 b.data.toList = false := by
        cases h1 : mayL f1 b.data.toList with
        | false => rfl
        | true => exact absurd (hmr h1) hy
      have hy1 : mayL f2 b.data.toList = false := by simpa using hy
      rw [hy1]
      have HY := Lib.hid hy2
      clear hmr hy hy1 hy2
      go_wp2_with fail
      refine (may_any A3 F c3 f1 b w8 HK8.out.now.1.1.1.2 (by unfold maxLen; omega) hbs).mono ?_
      rw [HY.out]
      rintro e w9 ⟨rfl, hb⟩
      have HK9 := Lib.hid (HK8.out.on hb)
      clear HK8 hb
      go_wp2_with fail
      go_ret
      exact ⟨by simp, HK9.out.now.1.1.1.1.1.1⟩

theorem tellsLaw_vals (W : World) (args : Array Value) (hv : Vals Try.prog W [22, 3, 9] args.toList) :
    Calls Try.prog 6 args W fun e W' => e = .returned (.bool true) ∧ Below W.heap.size W W' := by
  obtain ⟨v0, r0, e0, h0, v1, r1, rfl, h1, v2, r2, rfl, h2, rfl⟩ := hv
  obtain rfl : args = #[v0, v1, v2] := by cases args; simp_all
  obtain ⟨A, n, c, ks, rfl, hr, hs, hnc, hc⟩ := val_strs h0
  obtain ⟨per, rfl, _⟩ := val_int Try.underlying3 h1
  obtain ⟨b, rfl, hb⟩ := val_string Try.underlying9 h2
  exact tellsLaw_walk A n c ks per b W hr hs hnc hc hb.1

set_option maxRecDepth 100000 in
theorem tellsLaw_lifted (os : Os) (started : os.Started) (H : Type) (enc : TypeId × Value → H) :
    ReturnsInHanded {} Try.checked os 6 .any (Rows.bloomTellsSpec.pre6 enc Try.prog Try.f6 Rows.bloomTellsRow.domain false) (Rows.bloomTellsSpec.post enc Try.prog Try.f6 false true false false) :=
  lift_law (C := Try.checked) #[22, 3, 9] (by kernel_rfl) (by kernel_rfl) started (by kernel_rfl) Try.func6
    (ChangeSpec.witness6 (enc := enc) (C := Try.checked) false ⟨#[], #[.slice none 0 0, .int .i64 0, .string .empty], []⟩ 8 (by kernel_rfl) (by kernel_rfl) (by kernel_rfl) (by kernel_rfl))
    Try.params6 (by kernel_rfl) rfl rfl Try.underlying4 (fun ds hl => match ds, hl with | [_, _, _], _ => rfl) (fun W args hv => tellsLaw_vals W args hv)

theorem tellsLaw_holds : Rows.BloomTellsSaid :=
  OpenClaim.holds_of_wide 6 Try.f6 rfl rfl rfl rfl rfl rfl rfl ⟨rfl, rfl, rfl, rfl, rfl⟩ rfl rfl rfl rfl rfl (by kernel_rfl) Try.func6 (by kernel_rfl)
    (of_decide_eq_true (by kernel_rfl)) (by unfold Func.isWrapper; rw [if_neg (of_decide_eq_false (by kernel_rfl))]; exact ⟨rfl, rfl⟩)
    (fun os started H enc _ => tellsLaw_lifted os started H enc)
end Go.Proofs.Ytmlkjeaoaanogaa
