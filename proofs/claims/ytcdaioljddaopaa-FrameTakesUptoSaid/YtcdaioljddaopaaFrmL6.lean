/- law: FrameTakes (the second form) -/
import Derived.Test.YtcdaioljddaopaaFrmW
import Derived.Test.YtcdaioljddaopaaFrmX
import Derived.Test.YtcdaioljddaopaaFrmV
import Derived.Test.YtcdaioljddaopaaLibU
namespace Go.Proofs.Ytcdaioljddaopaa
open Go.RowKit



set_option maxRecDepth 100000 in
set_option maxHeartbeats 4000000 in
theorem takes_walk (A : Option Addr) (n c : Nat) (l : List UInt8) (w : World) (hx : Reads w w.heap.size 1 A n (u8s l)) (hn : n ≤ c) (hc : c ≤ 1048576) :
    Calls Try.prog 8 #[.slice A n c] w fun e w' => e = .returned (.bool true) ∧ Below w.heap.size w w' := by
  have hlen := hx.len_
  have HL := Lib.hid hlen
  clear hlen
  have hcm : c ≤ maxLen := by unfold maxLen; omega
  have HK := Lib.hid ((Keeps.start w).and (hx.keeps (Nat.le_refl _)))
  clear hx
  go_enter Try.func8, Try.ntmps8
  go_wp2_with fail
  refine (awake_any w).mono ?_
  rintro e w1 ⟨rfl, hb⟩
  have HK1 := Lib.hid (HK.out.on hb)
  clear HK hb
  go_wp2_with fail
  refine (own_any A n c l w1 HK1.out.now.2 (by omega)).mono ?_
  rintro e w2 ⟨A2, c2, rfl, ho, hb⟩
  have HK2 := Lib.hid ((HK1.out.on hb).and ho.keepsR)
  have hle2 := ho.le
  have hcl2 := ho.capLe
  clear HK1 hb ho
  go_wp2_with fail
  refine (take_any A2 n c2 l w2 HK2.out.now.2 hle2 hcl2).mono ?_
  cases hf : takeF l with
  | none =>
    rintro e w3 ⟨rfl, hb⟩
    have HK3 := Lib.hid (HK2.out.on hb)
    have HF := Lib.hid hf
    clear hb hf
    go_wp2_with fail
    refine (refTake_any A n c l w3 HK3.out.now.1.2 hn hcm).mono ?_
    rw [HF.out]
    rintro e w4 ⟨rfl, hb⟩
    have HK4 := Lib.hid (HK3.out.on hb)
    have kp := fun w => str_u8 (c := 0) (l := []) (A := none) (n := 0) (Reads.none_ (w := w) (B := 0) (size := 1))
    clear hb
    go_wp2_with fail
    have hx4 : Reads w4 w4.heap.size 1 A n (u8s l) := by have := HK4.out.now; simp only [and_assoc] at this; exact this.2.1
    refine (own_any A n c l w4 hx4 (by omega)).mono ?_
    rintro e w5 ⟨A5, c5, rfl, ho, hb⟩
    have HK5 := Lib.hid ((HK4.out.on hb).and (((hx4.keeps (Nat.le_refl _)).on hb).and ho.keepsR))
    have hle5 := ho.le
    have hcl5 := ho.capLe
    clear hb ho hx4
    go_wp2_with fail
    refine (scan_any A5 n c5 l w5 HK5.out.now.2.2 hle5 hcl5 (by omega)).mono ?_
    rintro e w6 ⟨D6, d6, vs6, rfl, ho, hr, hb⟩
    have HK6 := Lib.hid ((HK5.out.on hb).and (ho.keepsR.and hr.reads.keeps))
    clear hb ho hr
    go_wp2_with fail
    refine (refScan_any A n c l w6 HK6.out.now.1.2.1 hn hcm (by omega)).mono ?_
    rintro e w7 ⟨D7, d7, vs7, rfl, ho, hr, hb⟩
    have HK7 := Lib.hid ((HK6.out.on hb).and (ho.keepsR.and hr.reads.keeps))
    clear hb ho hr
    have hsz := scanF_size l
    rw [HL.out] at hsz
    have hsl : (scanF l).1.length ≤ 1048576 := by omega
    obtain ⟨q, hq⟩ : ∃ q, q = scanF l := ⟨_, rfl⟩
    rw [← hq] at HK7 hsl ⊢
    clear hsz hq
    go_wp2_with fail
    refine (same_any D6 D7 q.1.length d6 q.1.length d7 vs6 vs7 q.1 q.1 w7 HK7.out.now.1.2.1 HK7.out.now.1.2.2 HK7.out.now.2.1 HK7.out.now.2.2 (by omega) (by omega)).mono ?_
    rintro e w8 ⟨rfl, hb⟩
    have HB8 := Lib.hid (HK7.out.on hb).now.1.1.1.1.1
    clear hb
    go_wp2_with fail
    go_ret
    exact ⟨by simp, HB8.out⟩
  | some x =>
    obtain ⟨p, k⟩ := x
    rintro e w3 ⟨⟨A3, c3, rfl, ho⟩, hb⟩
    have HK3 := Lib.hid ((HK2.out.on hb).and ho.keepsR)
    have hk := (takeF_size hf).1
    have HF := Lib.hid hf
    clear hb hf ho
    go_wp2_with fail
    refine (refTake_any A n c l w3 HK3.out.now.1.1.2 hn hcm).mono ?_
    rw [HF.out]
    rintro e w4 ⟨⟨A4, c4, rfl, ho⟩, hb⟩
    have HK4 := Lib.hid ((HK3.out.on hb).and ho.keepsR)
    clear hb ho
    go_wp2_with fail
    have hx4 : Reads w4 w4.heap.size 1 A n (u8s l) := by have := HK4.out.now; simp only [and_assoc] at this; exact this.2.1
    refine (own_any A n c l w4 hx4 (by omega)).mono ?_
    rintro e w5 ⟨A5, c5, rfl, ho, hb⟩
    have HK5 := Lib.hid ((HK4.out.on hb).and (((hx4.keeps (Nat.le_refl _)).on hb).and ho.keepsR))
    have hle5 := ho.le
    have hcl5 := ho.capLe
    clear hb ho hx4
    go_wp2_with fail
    refine (scan_any A5 n c5 l w5 HK5.out.now.2.2 hle5 hcl5 (by omega)).mono ?_
    rintro e w6 ⟨D6, d6, vs6, rfl, ho, hr, hb⟩
    have HK6 := Lib.hid ((HK5.out.on hb).and (ho.keepsR.and hr.reads.keeps))
    clear hb ho hr
    go_wp2_with fail
    refine (refScan_any A n c l w6 HK6.out.now.1.2.1 hn hcm (by omega)).mono ?_
    rintro e w7 ⟨D7, d7, vs7, rfl, ho, hr, hb⟩
    have HK7 := Lib.hid ((HK6.out.on hb).and (ho.keepsR.and hr.reads.keeps))
    clear hb ho hr
    have hsz := scanF_size l
    rw [HL.out] at hsz
    have hsl : (scanF l).1.length ≤ 1048576 := by omega
    obtain ⟨q, hq⟩ : ∃ q, q = scanF l := ⟨_, rfl⟩
    rw [← hq] at HK7 hsl ⊢
    clear hsz hq
    have hk0 : (0 : Int) < (k : Int) := by omega
    have ks3 := str_u8 (c := c3) HK7.out.now.1.1.1.1.2
    have ks4 := str_u8 (c := c4) HK7.out.now.1.1.1.2
    go_wp2_with fail
    refine (same_any D6 D7 q.1.length d6 q.1.length d7 vs6 vs7 q.1 q.1 w7 HK7.out.now.1.2.1 HK7.out.now.1.2.2 HK7.out.now.2.1 HK7.out.now.2.2 (by omega) (by omega)).mono ?_
    rintro e w8 ⟨rfl, hb⟩
    have HB8 := Lib.hid (HK7.out.on hb).now.1.1.1.1.1.1.1
    clear hb
    go_wp2_with fail
    go_ret
    exact ⟨by simp, HB8.out⟩

theorem takes_vals (W : World) (args : Array Value) (hv : Vals Try.prog W [23] args.toList) (hs : Smalls Try.prog [23] args.toList) :
    Calls Try.prog 8 args W fun e W' => e = .returned (.bool true) ∧ Below W.heap.size W W' := by
  obtain ⟨v0, r0, e0, h0, rfl⟩ := hv
  obtain rfl : args = #[v0] := by cases args; simp_all
  obtain ⟨A, n, c, l, rfl, hr, hn, hc⟩ := val_bytes h0
  exact takes_walk A n c l W hr hn (hs.1.1 _ Try.underlying23 A n c rfl)

set_option maxRecDepth 100000 in
theorem takes_lifted (os : Os) (started : os.Started) (H : Type) (enc : TypeId × Value → H) (F : Stop.Interp) :
    ReturnsInHanded {} Try.checked os 8 .any ((Rows.OpenSpec.upto Rows.frameTakesSpec).pre6 enc Try.prog Try.f8 Rows.frameTakesUptoRow.domain false) (((Rows.OpenSpec.upto Rows.frameTakesSpec).at F).post enc Try.prog Try.f8 false true false false) :=
  lift_upto (C := Try.checked) #[23] (by kernel_rfl) (by kernel_rfl) started (by kernel_rfl) Try.func8
    (OpenSpec.witness (enc := enc) (C := Try.checked) (s := Rows.OpenSpec.upto Rows.frameTakesSpec) (k := Rows.uptoSmall) rfl false ⟨#[], #[.slice none 0 0], []⟩ 8 (by kernel_rfl) (by kernel_rfl) (by kernel_rfl)
      (x := ([.nil], [], [])) (by kernel_rfl) rfl (by kernel_rfl))
    Try.params8 (by kernel_rfl) rfl rfl Try.underlying4 (fun ds hl => match ds, hl with | [_], _ => rfl) (fun W args hv hs => takes_vals W args hv hs)

theorem takes_holds : Rows.FrameTakesUptoSaid :=
  OpenClaim.holds_of_cond 8 Try.f8 rfl rfl rfl rfl rfl rfl rfl ⟨rfl, rfl, rfl, rfl, rfl⟩ rfl rfl rfl rfl rfl (by kernel_rfl) Try.func8 (by kernel_rfl)
    (of_decide_eq_true (by kernel_rfl)) (by unfold Func.isWrapper; rw [if_neg (of_decide_eq_false (by kernel_rfl))]; exact ⟨rfl, rfl⟩)
    (fun os started H enc _ F => takes_lifted os started H enc F)
end Go.Proofs.Ytcdaioljddaopaa
