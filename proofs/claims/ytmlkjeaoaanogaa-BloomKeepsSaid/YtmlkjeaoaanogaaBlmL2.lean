/- law: BloomKeeps -/
import Derived.Test.YtmlkjeaoaanogaaBlmG
namespace Go.Proofs.Ytmlkjeaoaanogaa
open Go.RowKit

set_option maxRecDepth 100000 in
set_option maxHeartbeats 4000000 in
theorem keepsLaw_walk (A : Option Addr) (n c : Nat) (ks : List ByteArray) (per : Int) (w : World) (hx : Reads w w.heap.size 1 A n (strs ks)) (hs : ∀ s ∈ ks, s.size ≤ maxLen) (hnc : n ≤ c) (hc : c ≤ 8796093021952) :
    Calls Try.prog 5 #[.slice A n c, .int .i64 per] w fun e w' => e = .returned (.bool true) ∧ Below w.heap.size w w' := by
  have hlen : ks.length = n := by have := hx.1; rw [strs_length] at this; omega
  have HK := Lib.hid ((Keeps.start w).and (hx.keeps (Nat.le_refl _)))
  clear hx
  go_enter Try.func5, Try.ntmps5
  go_wp2_with fail
  refine (awake_any w).mono ?_
  rintro e w1 ⟨rfl, hb⟩
  have HK1 := Lib.hid (HK.out.on hb)
  clear HK hb
  go_wp2_with fail
  refine (cut_any A n c ks w1 HK1.out.now.2 hnc (by omega)).mono ?_
  rintro e w2 ⟨A2, c2, rfl, ho, hb⟩
  obtain ⟨m, hm⟩ : ∃ m, m = min n 200 := ⟨_, rfl⟩
  obtain ⟨k2, hk2⟩ : ∃ k2, k2 = ks.take 200 := ⟨_, rfl⟩
  have hk2l : k2.length = m := by rw [hk2, List.length_take, hlen, hm]; omega
  have hs2 : ∀ s ∈ k2, s.size ≤ maxLen := fun s h => hs s (List.mem_of_mem_take (hk2 ▸ h))
  rw [← hm, ← hk2] at ho
  rw [← hm]
  have hm2 : m ≤ 200 := by omega
  have hmc := ho.le
  have HK2 := Lib.hid ((HK1.out.on hb).and ho.keepsR)
  have HKL := Lib.hid hk2l
  have HS2 := Lib.hid hs2
  clear HK1 hb ho hm hk2 hk2l hs2 hlen
  go_wp2_with fail
  refine (build_any A2 m c2 k2 per w2 HK2.out.now.2 (by omega) hmc HS2.out).mono ?_
  rintro e w3 ⟨A3, c3, rfl, ho, hb⟩
  have hkeep := fun s (h : s ∈ k2) => may_keeps (keysL k2) per (by simp [keysL, HKL.out]; omega) s.data.toList (by unfold keysL; exact List.mem_map_of_mem h)
  have hfl := buildL_length (keysL k2) per (by simp [keysL, HKL.out]; omega)
  have hsz := sizeN_le (n := (keysL k2).length) (per := perN per) (by simp [keysL, HKL.out]; omega) (perN_le per).2
  obtain ⟨f, hf⟩ : ∃ f, f = buildL (keysL k2) per := ⟨_, rfl⟩
  rw [← hf] at ho hkeep hfl ⊢
  have hf9 : 9 ≤ f.length := by omega
  have hf2 : f.length ≤ 200000 := by omega
  have HK3 := Lib.hid ((HK2.out.on hb).and ho.keepsR)
  have HKEEP := Lib.hid hkeep
  clear HK2 hb ho hf hfl hsz hkeep
  obtain ⟨F, hF⟩ : ∃ F, F = f.length := ⟨_, rfl⟩
  rw [← hF] at HK3 hf9 hf2 ⊢
  clear hF
  go_wp2_with fail
  go_loopw [17] (fun iv wr => ∃ i : Nat, iv = .int .i64 i ∧ i ≤ m ∧ Below w3.heap.size w3 wr) (fun iv _ => m - (intOf iv).toNat)
  case atStart => exact ⟨0, rfl, by omega, Below.refl _ _⟩
  case round =>
    obtain ⟨i, rfl, hi, hb⟩ := hrel
    have HKr := Lib.hid (HK3.out.on hb)
    have HB := Lib.hid hb
    clear hb
    by_cases him : (i : Int) < (m : Int)
    · obtain ⟨ad, rfl, _, hcell⟩ := HKr.out.now.1.2.str_ (k := i) (by omega)
      have hl : i < k2.length := by rw [HKL.out]; omega
      have hmem : k2.getD i .empty ∈ k2 := by simp [List.getD, List.getElem?_eq_getElem hl]
      obtain ⟨s, hse⟩ : ∃ s, s = k2.getD i .empty := ⟨_, rfl⟩
      rw [← hse] at hcell hmem
      have HMEM := Lib.hid hmem
      have hi0 : (0 : Int) ≤ (i : Int) := by omega
      clear hse hmem hl
      go_wp2_with fail
      refine (may_any A3 F c3 f s wr HKr.out.now.2 (by unfold maxLen; omega) (HS2.out s HMEM.out)).mono ?_
      rw [HKEEP.out s HMEM.out]
      rintro e w4 ⟨rfl, hb⟩
      have HB4 := Lib.hid (HB.out.trans (hb.mono HB.out.size))
      clear hb hcell
      go_wp2_with fail
      go_roundw
      case rel => exact ⟨i + 1, by go_num, by omega, HB4.out⟩
      case measure => simp [intOf]; omega
    · have h9 : (9 : Int) ≤ (F : Int) := by omega
      go_wp2_with fail
      go_ret
      exact ⟨rfl, HKr.out.now.1.1.1⟩

theorem keepsLaw_vals (W : World) (args : Array Value) (hv : Vals Try.prog W [22, 3] args.toList) :
    Calls Try.prog 5 args W fun e W' => e = .returned (.bool true) ∧ Below W.heap.size W W' := by
  obtain ⟨v0, r0, e0, h0, v1, r1, rfl, h1, rfl⟩ := hv
  obtain rfl : args = #[v0, v1] := by cases args; simp_all
  obtain ⟨A, n, c, ks, rfl, hr, hs, hnc, hc⟩ := val_strs h0
  obtain ⟨per, rfl, _⟩ := val_int Try.underlying3 h1
  exact keepsLaw_walk A n c ks per W hr hs hnc hc

set_option maxRecDepth 100000 in
theorem keepsLaw_lifted (os : Os) (started : os.Started) (H : Type) (enc : TypeId × Value → H) :
    ReturnsInHanded {} Try.checked os 5 .any (Rows.bloomKeepsSpec.pre6 enc Try.prog Try.f5 Rows.bloomKeepsRow.domain false) (Rows.bloomKeepsSpec.post enc Try.prog Try.f5 false true false false) :=
  lift_law (C := Try.checked) #[22, 3] (by kernel_rfl) (by kernel_rfl) started (by kernel_rfl) Try.func5
    (ChangeSpec.witness6 (enc := enc) (C := Try.checked) false ⟨#[], #[.slice none 0 0, .int .i64 0], []⟩ 8 (by kernel_rfl) (by kernel_rfl) (by kernel_rfl) (by kernel_rfl))
    Try.params5 (by kernel_rfl) rfl rfl Try.underlying4 (fun ds hl => match ds, hl with | [_, _], _ => rfl) (fun W args hv => keepsLaw_vals W args hv)

theorem keepsLaw_holds : Rows.BloomKeepsSaid :=
  OpenClaim.holds_of_wide 5 Try.f5 rfl rfl rfl rfl rfl rfl rfl ⟨rfl, rfl, rfl, rfl, rfl⟩ rfl rfl rfl rfl rfl (by kernel_rfl) Try.func5 (by kernel_rfl)
    (of_decide_eq_true (by kernel_rfl)) (by unfold Func.isWrapper; rw [if_neg (of_decide_eq_false (by kernel_rfl))]; exact ⟨rfl, rfl⟩)
    (fun os started H enc _ => keepsLaw_lifted os started H enc)
end Go.Proofs.Ytmlkjeaoaanogaa
