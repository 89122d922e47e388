/- law: FrameSums -/
import Derived.Test.YtcdaioljddaopaaFrmV
import Derived.Test.YtcdaioljddaopaaLibA
namespace Go.Proofs.Ytcdaioljddaopaa
open Go.RowKit

set_option maxRecDepth 100000 in
set_option maxHeartbeats 2000000 in
theorem sums_walk (A : Option Addr) (n c : Nat) (l : List UInt8) (w : World) (hx : Reads w w.heap.size 1 A n (u8s l)) (hn : n ≤ 140737488351232) :
    Calls Try.prog 4 #[.slice A n c] w fun e w' => e = .returned (.bool true) ∧ Below w.heap.size w w' := by
  have HX := Lib.hid hx
  clear hx
  go_enter Try.func4, Try.ntmps4
  go_wp2_with fail
  refine (awake_any w).mono ?_
  rintro e w1 ⟨rfl, hb1⟩
  have HX1 := Lib.hid ((HX.out.below hb1).more hb1.size)
  have HB1 := Lib.hid hb1
  clear hb1
  go_wp2_with fail
  refine (own_any A n c l w1 HX1.out (by omega)).mono ?_
  rintro e w2 ⟨A2, c2, rfl, ho, hb⟩
  have HR2 := Lib.hid ho.reads
  have HX2 := Lib.hid ((HX1.out.below hb).more hb.size)
  have HB2 := Lib.hid (HB1.out.trans (hb.mono HB1.out.size))
  clear ho hb
  go_wp2_with fail
  refine (sum_any A2 n c2 l w2 HR2.out (by unfold maxLen; omega)).mono ?_
  rintro e w3 ⟨rfl, hb⟩
  have HX3 := Lib.hid ((HX2.out.below hb).more hb.size)
  have HB3 := Lib.hid (HB2.out.trans (hb.mono HB2.out.size))
  clear hb
  go_wp2_with fail
  refine (refSum_any A n c l w3 HX3.out (by unfold maxLen; omega)).mono ?_
  rintro e w4 ⟨rfl, rfl⟩
  go_wp2_with fail
  go_ret
  exact ⟨by simp, HB3.out⟩

theorem sums_vals (W : World) (args : Array Value) (hv : Vals Try.prog W [23] args.toList) :
    Calls Try.prog 4 args W fun e W' => e = .returned (.bool true) ∧ Below W.heap.size W W' := by
  obtain ⟨v0, r0, e0, h0, rfl⟩ := hv
  obtain rfl : args = #[v0] := by cases args; simp_all
  obtain ⟨A, n, c, l, rfl, hr, hn, hc⟩ := val_bytes h0
  exact sums_walk A n c l W hr (by omega)

set_option maxRecDepth 100000 in
theorem sums_lifted (os : Os) (started : os.Started) (H : Type) (enc : TypeId × Value → H) :
    ReturnsInHanded {} Try.checked os 4 .any (Rows.frameSumsSpec.pre6 enc Try.prog Try.f4 Rows.frameSumsRow.domain false) (Rows.frameSumsSpec.post enc Try.prog Try.f4 false true false false) :=
  lift_law (C := Try.checked) #[23] (by kernel_rfl) (by kernel_rfl) started (by kernel_rfl) Try.func4
    (ChangeSpec.witness6 (enc := enc) (C := Try.checked) false ⟨#[], #[.slice none 0 0], []⟩ 8 (by kernel_rfl) (by kernel_rfl) (by kernel_rfl) (by kernel_rfl))
    Try.params4 (by kernel_rfl) rfl rfl Try.underlying4 (fun ds hl => match ds, hl with | [_], _ => rfl) (fun W args hv => sums_vals W args hv)

theorem sums_holds : Rows.FrameSumsSaid :=
  OpenClaim.holds_of_wide 4 Try.f4 rfl rfl rfl rfl rfl rfl rfl ⟨rfl, rfl, rfl, rfl, rfl⟩ rfl rfl rfl rfl rfl (by kernel_rfl) Try.func4 (by kernel_rfl)
    (of_decide_eq_true (by kernel_rfl)) (by unfold Func.isWrapper; rw [if_neg (of_decide_eq_false (by kernel_rfl))]; exact ⟨rfl, rfl⟩)
    (fun os started H enc _ => sums_lifted os started H enc)
end Go.Proofs.Ytcdaioljddaopaa
