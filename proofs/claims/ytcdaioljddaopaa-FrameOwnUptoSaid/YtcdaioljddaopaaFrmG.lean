/- walks: frame.Seal, convoyref01.Seal -/
import Derived.Test.YtcdaioljddaopaaFrmF
namespace Go.Proofs.Ytcdaioljddaopaa
open Go.RowKit

def sum4 (s : Nat) : List UInt8 := [UInt8.ofNat (s % 256), UInt8.ofNat (s / 256 % 256), UInt8.ofNat (s / 65536 % 256), UInt8.ofNat (s / 16777216)]
/-- The frame of a payload. -/
def sealL (l : List UInt8) : List UInt8 := uintL l.length ++ sum4 (sumL l) ++ l
theorem u8_cast {m : Nat} (h : m < 256) : ((UInt8.ofNat m).toNat : Int) = m := by simp; omega
theorem u8s_sum4 {s : Nat} (h : s < 4294967296) : u8s (sum4 s) = [.int .u8 ((s : Int) % 256), .int .u8 ((s : Int) / 256 % 256), .int .u8 ((s : Int) / 65536 % 256), .int .u8 ((s : Int) / 16777216)] := by
  simp only [sum4, u8s, List.map_cons, List.map_nil]
  rw [u8_cast (by omega), u8_cast (by omega), u8_cast (by omega), u8_cast (by omega)]
  simp

set_option maxRecDepth 100000 in
set_option maxHeartbeats 2000000 in
theorem seal_any (A : Option Addr) (n c : Nat) (l : List UInt8) (w : World) (hx : Reads w w.heap.size 1 A n (u8s l)) (hn : n ≤ 4096) :
    Calls Try.prog 23 #[.slice A n c] w fun e w' => ∃ A' c', e = .returned (.tuple #[.slice A' (sealL l).length c', .int .i64 0]) ∧ Own w' w.heap.size 5 1 A' (sealL l).length c' (u8s (sealL l)) ∧ Below w.heap.size w w' := by
  have hlen := hx.len_
  have HX := Lib.hid hx
  clear hx
  have h1 : ¬ (4096 : Int) < n := by omega
  go_enter Try.func23, Try.ntmps23
  go_wp2_with fail
  refine (sum_any A n c l w HX.out (by unfold maxLen; omega)).mono ?_
  rintro e w1 ⟨rfl, hb1⟩
  have hs := sumL_lt l
  obtain ⟨s, hss⟩ : ∃ s, s = sumL l := ⟨_, rfl⟩
  rw [← hss] at hs ⊢
  have HS := Lib.hid hss
  clear hss
  have HB1 := Lib.hid hb1
  clear hb1
  go_wp2_with fail
  refine (uint_any n w1 (by omega)).mono ?_
  rintro e w2 ⟨A2, c2, rfl, ho, hb⟩
  have hlu := uintL_len64 (n := n) (by omega)
  have HO := Lib.hid ho
  have HB2 := Lib.hid (HB1.out.trans (hb.mono HB1.out.size))
  have hz1 := HB1.out.size
  have hz2 := HB2.out.size
  clear ho hb
  go_wp2_with (at_builtin; refine halt_ ?_)
  refine unhalt ?_
  refine wpList_app elem_u8 ((HO.out.mono hz1).alloc _) (reads_new (cs := #[_, _, _, _]) w2 5 4 rfl) (by simp [Value.oneCell']) (by omega) (by simp; omega) _ _ rfl rfl rfl rfl ?_
  intro A3 c3 w3 ho hup hat
  have HB3 := Lib.hid ((HB2.out.alloc hz2 _).trans (hup.to_below (by simp; omega) (fun i hi e => by have := HO.out.ge _ e; omega)))
  have hz3 := HB3.out.size
  rw [← u8s_sum4 hs, ← u8s_append] at ho
  have HO3 := Lib.hid ho
  clear ho hup hat
  go_wp2_with (at_builtin; refine halt_ ?_)
  refine unhalt ?_
  refine wpList_app elem_u8 HO3.out (HX.out.below HB3.out) (u8s_one l) (by omega) hz3 _ _ rfl rfl rfl rfl ?_
  intro A4 c4 w4 ho hup hat
  have HB4 := Lib.hid (HB3.out.trans (hup.to_below hz3 (fun i hi e => by have := HO3.out.ge _ e; omega)))
  rw [← u8s_append] at ho
  have hlen4 : (sealL l).length = (uintL n).length + 4 + n := by simp [sealL, sum4, hlen]; omega
  have e4 : sealL l = uintL n ++ sum4 s ++ l := by rw [HS.out, ← hlen]; rfl
  clear hup hat
  go_wp2_with fail
  go_ret2
  refine ⟨A4, c4, by rw [hlen4]; rfl, ?_, HB4.out⟩
  rw [hlen4, e4]
  exact ho

theorem seal_long (A : Option Addr) (n c : Nat) (w : World) (hn : 4096 < n) :
    Calls Try.prog 23 #[.slice A n c] w fun e w' => e = .returned (.tuple #[.slice none 0 0, .int .i64 3]) ∧ w = w' := by
  have h1 : (4096 : Int) < n := by omega
  go_enter Try.func23, Try.ntmps23
  go_wp2_with fail
  go_ret2
  exact ⟨rfl, rfl⟩

set_option maxRecDepth 100000 in
set_option maxHeartbeats 2000000 in
theorem refSeal_any (A : Option Addr) (n c : Nat) (l : List UInt8) (w : World) (hx : Reads w w.heap.size 1 A n (u8s l)) (hn : n ≤ 140737488355000) :
    Calls Try.prog 25 #[.slice A n c] w fun e w' => ∃ A' c', e = .returned (.slice A' (sealL l).length c') ∧ Own w' w.heap.size 5 1 A' (sealL l).length c' (u8s (sealL l)) ∧ Below w.heap.size w w' := by
  have hlen := hx.len_
  have HX := Lib.hid hx
  clear hx
  go_enter Try.func25, Try.ntmps25
  go_wp2_with fail
  refine (refSum_any A n c l w HX.out (by unfold maxLen; omega)).mono ?_
  rintro e w1 ⟨rfl, rfl⟩
  have hs := sumL_lt l
  obtain ⟨s, hss⟩ : ∃ s, s = sumL l := ⟨_, rfl⟩
  rw [← hss] at hs ⊢
  have HS := Lib.hid hss
  clear hss
  have hm1 : (s : Int) % 256 % 256 = (s : Int) % 256 := by omega
  have hm2 : (s : Int) / 256 % 256 % 256 = (s : Int) / 256 % 256 := by omega
  have hm3 : (s : Int) / 65536 % 256 % 256 = (s : Int) / 65536 % 256 := by omega
  have hm4 : (s : Int) / 16777216 % 256 = (s : Int) / 16777216 := by omega
  go_wp2_with fail
  refine (refUint_any n w (by omega)).mono ?_
  rintro e w2 ⟨A2, c2, rfl, ho, hb⟩
  have hlu := uintL_len64 (n := n) (by omega)
  have HO := Lib.hid ho
  have HB2 := Lib.hid hb
  have hz1 : w.heap.size ≤ w.heap.size := Nat.le_refl _
  have hz2 := HB2.out.size
  clear ho hb
  go_wp2_with (at_builtin; refine halt_ ?_)
  refine unhalt ?_
  refine wpList_app elem_u8 ((HO.out.mono hz1).alloc _) (reads_new (cs := #[_, _, _, _]) w2 5 4 rfl) (by simp [Value.oneCell']) (by omega) (by simp; omega) _ _ rfl rfl rfl rfl ?_
  intro A3 c3 w3 ho hup hat
  have HB3 := Lib.hid ((HB2.out.alloc hz2 _).trans (hup.to_below (by simp; omega) (fun i hi e => by have := HO.out.ge _ e; omega)))
  have hz3 := HB3.out.size
  rw [← u8s_sum4 hs, ← u8s_append] at ho
  have HO3 := Lib.hid ho
  clear ho hup hat
  go_wp2_with (at_builtin; refine halt_ ?_)
  refine unhalt ?_
  refine wpList_app elem_u8 HO3.out (HX.out.below HB3.out) (u8s_one l) (by omega) hz3 _ _ rfl rfl rfl rfl ?_
  intro A4 c4 w4 ho hup hat
  have HB4 := Lib.hid (HB3.out.trans (hup.to_below hz3 (fun i hi e => by have := HO3.out.ge _ e; omega)))
  rw [← u8s_append] at ho
  have hlen4 : (sealL l).length = (uintL n).length + 4 + n := by simp [sealL, sum4, hlen]; omega
  have e4 : sealL l = uintL n ++ sum4 s ++ l := by rw [HS.out, ← hlen]; rfl
  clear hup hat
  go_wp2_with fail
  go_ret
  refine ⟨A4, c4, by rw [hlen4]; rfl, ?_, HB4.out⟩
  rw [hlen4, e4]
  exact ho
end Go.Proofs.Ytcdaioljddaopaa
