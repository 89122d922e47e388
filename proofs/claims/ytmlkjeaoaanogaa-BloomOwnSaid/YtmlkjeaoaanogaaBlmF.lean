/- walks: convoyref05.May, convoylaw05.cut, awake -/
import Derived.Test.YtmlkjeaoaanogaaBlmE
import Derived.Test.YtmlkjeaoaanogaaBlmC
import Derived.BigQuiet
import Derived.Lib.SlBytesConst
namespace Go.Proofs.Ytmlkjeaoaanogaa
open Go.RowKit

set_option maxRecDepth 100000 in
set_option maxHeartbeats 4000000 in
theorem refMay_any (A : Option Addr) (n c : Nat) (f : List UInt8) (s : ByteArray) (w : World) (hx : Reads w w.heap.size 1 A n (u8s f)) (hn : n ≤ maxLen) (hs : s.size ≤ maxLen) :
    Calls Try.prog 15 #[.slice A n c, .string s] w fun e w' => e = .returned (.bool (mayL f s.data.toList)) ∧ Below w.heap.size w w' := by
  have hlen := hx.len_
  have HX := Lib.hid hx
  have HL := Lib.hid hlen
  clear hx hlen
  unfold maxLen at hn
  by_cases hn2 : n < 2
  · have h1 : (n : Int) - 1 < 1 := by omega
    have hm : mayL f s.data.toList = true := by unfold mayL; rw [if_pos (.inl (by rw [HL.out]; exact hn2))]
    have HM := Lib.hid hm
    clear hm
    go_enter Try.func15, Try.ntmps15
    go_wp2_with fail
    go_ret
    exact ⟨by rw [HM.out]; rfl, Below.refl _ _⟩
  · obtain ⟨sz, rfl⟩ : ∃ sz, n = sz + 1 := ⟨n - 1, by omega⟩
    obtain ⟨ad, rfl, hbk, hcell⟩ := HX.out.u8_ (k := sz) (by omega)
    have hmd : mayL f s.data.toList = if sz + 1 < 2 ∨ 1048577 ≤ sz + 1 ∨ (f.getD sz 0).toNat < 1 ∨ 16 < (f.getD sz 0).toNat then true else (placesL s.data.toList (8 * sz) (f.getD sz 0).toNat).all (hasBit f) := by
      unfold mayL
      rw [HL.out]
      rfl
    obtain ⟨kb, hkb⟩ : ∃ kb, kb = f.getD sz 0 := ⟨_, rfl⟩
    rw [← hkb] at hcell hmd
    have HM := Lib.hid hmd
    have hkb256 : (kb.toNat : Int) < 256 := by have := kb.toNat_lt; omega
    have hsz1 : ¬ (sz : Int) < 1 := by omega
    clear hmd hkb
    by_cases hbig : (1048576 : Int) ≤ (sz : Int)
    · have hm : mayL f s.data.toList = true := by rw [HM.out, if_pos (.inr (.inl (by omega)))]
      have HM2 := Lib.hid hm
      clear hm
      go_enter Try.func15, Try.ntmps15
      go_wp2_with fail
      go_ret
      exact ⟨by rw [HM2.out]; rfl, Below.refl _ _⟩
    · by_cases hk1 : (kb.toNat : Int) < 1
      · have hm : mayL f s.data.toList = true := by rw [HM.out, if_pos (.inr (.inr (.inl (by omega))))]
        have HM2 := Lib.hid hm
        clear hm
        go_enter Try.func15, Try.ntmps15
        go_wp2_with fail
        go_ret
        exact ⟨by rw [HM2.out]; rfl, Below.refl _ _⟩
      · by_cases hk2 : (16 : Int) < (kb.toNat : Int)
        · have hm : mayL f s.data.toList = true := by rw [HM.out, if_pos (.inr (.inr (.inr (by omega))))]
          have HM2 := Lib.hid hm
          clear hm
          go_enter Try.func15, Try.ntmps15
          go_wp2_with fail
          go_ret
          exact ⟨by rw [HM2.out]; rfl, Below.refl _ _⟩
        · have hm : mayL f s.data.toList = (placesL s.data.toList (8 * sz) kb.toNat).all (hasBit f) := by rw [HM.out, if_neg (by omega)]
          have HM2 := Lib.hid hm
          obtain ⟨N, hNe⟩ : ∃ N, N = 8 * sz := ⟨_, rfl⟩
          have hN8 : 8 * (sz : Int) = (N : Int) := by omega
          have hN0 : 0 < N := by omega
          have hN2 : N ≤ 8388608 := by omega
          have HNE := Lib.hid hNe
          obtain ⟨k, hke⟩ : ∃ k, k = kb.toNat := ⟨_, rfl⟩
          rw [← hke] at hcell HM2 hk1 hk2 hkb256
          clear hm HM hNe hke
          go_enter Try.func15, Try.ntmps15
          go_wp2_with fail
          refine (refPlaces_any s N k w hs hN0 hN2 (by omega)).mono ?_
          rintro e w2 ⟨A2, c2, rfl, ho, hb⟩
          have hpl := placesL_length s.data.toList N k
          have hplt := placesL_lt s.data.toList k hN0
          have hps : placesL s.data.toList N k = placesL s.data.toList (8 * sz) k := by rw [HNE.out]
          rw [← hps] at HM2
          obtain ⟨ps, hpse⟩ : ∃ ps, ps = placesL s.data.toList N k := ⟨_, rfl⟩
          rw [← hpse] at ho hpl hplt HM2
          obtain ⟨gl, rfl, -, -, -, -⟩ := ho.some_ (by omega)
          have HO := Lib.hid ho
          have HPL := Lib.hid hpl
          have HPT := Lib.hid hplt
          have HX2 := Lib.hid ((HX.out.below hb).more hb.size)
          have HB := Lib.hid hb
          clear ho hpl hplt hps hb hcell hpse
          go_wp2_with fail
          go_loopw [7] (fun jv wq => ∃ j q : Nat, jv = .int .i64 j ∧ j ≤ k ∧ (ps.take j).all (hasBit f) = true ∧ wq = w2.drewN q) (fun jv _ => k - (intOf jv).toNat)
          case atStart => exact ⟨0, 0, rfl, by omega, by simp, rfl⟩
          case round =>
            obtain ⟨j, qq, rfl, hj, hall, rfl⟩ := hrel
            have HA := Lib.hid hall
            clear hall
            by_cases hjk : (j : Int) < (k : Int)
            · have hj0 : (0 : Int) ≤ (j : Int) := by omega
              have hjl : j < ps.length := by rw [HPL.out]; omega
              obtain ⟨p, hpe⟩ : ∃ p, p = ps.getD j 0 := ⟨_, rfl⟩
              have hpl2 : p < N := by
                rw [hpe]
                have := HPT.out ps[j] (List.getElem_mem hjl)
                simpa [List.getD, List.getElem?_eq_getElem hjl] using this
              have cl := HO.out.cell rfl (natInts_get ps hjl)
              rw [← hpe] at cl
              have htake : ps.take (j + 1) = ps.take j ++ [p] := by
                rw [hpe, List.take_succ_eq_append_getElem hjl]
                simp [List.getD, List.getElem?_eq_getElem hjl]
              have hmem : p ∈ ps := by
                rw [hpe]
                simp [List.getD, List.getElem?_eq_getElem hjl]
              have HT := Lib.hid htake
              have HMEM := Lib.hid hmem
              obtain ⟨a, ha⟩ : ∃ a, a = p / 8 := ⟨_, rfl⟩
              obtain ⟨r, hr⟩ : ∃ r, r = p % 8 := ⟨_, rfl⟩
              have hax : (p : Int) / 8 = (a : Int) := by omega
              have hrx : (p : Int) % 8 = (r : Int) := by omega
              have htm : (p : Int).tmod 8 = (r : Int) := by rw [Int.tmod_eq_emod_of_nonneg (by omega)]; exact hrx
              have has : (a : Int) < (sz : Int) + 1 := by have := HNE.out; omega
              have ha0 : (0 : Int) ≤ (a : Int) := by omega
              have hr0 : (0 : Int) ≤ (r : Int) := by omega
              have hr8 : (r : Int) < 8 := by omega
              have hwa : IntKind.i64.wrap (a : Int) = (a : Int) := IntWalk.i64_in _ (by omega)
              have hwr : IntKind.i64.wrap (r : Int) = (r : Int) := IntWalk.i64_in _ (by omega)
              obtain ⟨ad', e, _, cb⟩ := HX2.out.u8_ (k := a) (by omega)
              injection e with e
              subst e
              have hbit : hasBit f p = ((f.getD a 0).toNat / 2 ^ r % 2 == 1) := by unfold hasBit; rw [ha, hr]
              obtain ⟨b, hbe⟩ : ∃ b, b = (f.getD a 0).toNat := ⟨_, rfl⟩
              have hb256 : (b : Int) < 256 := by have := (f.getD a 0).toNat_lt; omega
              rw [← hbe] at hbit cb
              obtain ⟨v, hv⟩ : ∃ v, v = b / 2 ^ r := ⟨_, rfl⟩
              have hvx : (b : Int) / 2 ^ r = (v : Int) := by rw [hv]; simp
              have hvb : v ≤ b := by rw [hv]; exact Nat.div_le_self _ _
              have hwv : IntKind.i64.wrap (v : Int) = (v : Int) := IntWalk.i64_in _ (by omega)
              rw [← hv] at hbit
              have HBIT := Lib.hid hbit
              clear hpe htake ha hr hbe hbit hjl hmem hv
              by_cases hv2 : v % 2 = 0
              · have hvm : (v : Int).tmod 2 = 0 := by rw [Int.tmod_eq_emod_of_nonneg (by omega)]; omega
                have hvm2 : (v : Int) % 2 = 0 := by omega
                have hf : mayL f s.data.toList = false := by
                  rw [HM2.out, List.all_eq_false]
                  exact ⟨p, HMEM.out, by rw [HBIT.out, hv2]; simp⟩
                have HF := Lib.hid hf
                have HV := Lib.hid hv2
                clear hf hv2
                go_wp2_with fail
                go_quiet (fail)
                go_wp2_with fail
                go_ret
                exact ⟨by rw [HF.out]; rfl, below_drewN (below_drewN HB.out _) _⟩
              · have hv1 : v % 2 = 1 := by omega
                have hvm : (v : Int).tmod 2 = 1 := by rw [Int.tmod_eq_emod_of_nonneg (by omega)]; omega
                have hvm2 : (v : Int) % 2 = 1 := by omega
                have hnx : (ps.take (j + 1)).all (hasBit f) = true := by
                  rw [HT.out, List.all_append, HA.out]
                  simp [HBIT.out, hv1]
                have HNX := Lib.hid hnx
                clear hnx hv1 hv2
                go_wp2_with fail
                go_quiet (fail)
                go_wp2_with fail
                go_roundw
                case rel => exact ⟨j + 1, _, by go_num, by omega, HNX.out, by first | rfl | (rw [World.drewN_drewN])⟩
                case measure => simp [intOf]; omega
            · have htk : ps.take j = ps := List.take_of_length_le (by rw [HPL.out]; omega)
              have ht : mayL f s.data.toList = true := by rw [HM2.out]; have := HA.out; rwa [htk] at this
              have HT := Lib.hid ht
              clear htk ht
              go_wp2_with fail
              go_ret
              exact ⟨by rw [HT.out]; rfl, below_drewN HB.out _⟩
end Go.Proofs.Ytmlkjeaoaanogaa
