/- the law WalCrashes -/
import Derived.Test.YtceanciekadkeaaGreatDoorMWlL3l
import Derived.Test.YtceanciekadkeaaGreatDoorCards
import Derived.Test.YtceanciekadkeaaGreatDoorTie
import Derived.OpenShut
namespace Go.Proofs.YtceanciekadkeaaGreatDoor
open Go.RowKit
theorem argR {W : World} : ∀ D ∈ [argc W, laidC], D.excl = false := fun D hD => by
  rcases List.mem_cons.1 hD with rfl | hD
  · rfl
  · rw [List.mem_singleton.1 hD]
    rfl
theorem argH {W : World} (hl : laidH W) : ∀ D ∈ [argc W, laidC], D.holds W := fun D hD => by
  rcases List.mem_cons.1 hD with rfl | hD
  · exact ⟨Nat.le_refl _, fun _ _ => rfl⟩
  · rw [List.mem_singleton.1 hD]
    exact hl
theorem cel_life {w : World} (n : Nat) (cs : List Value) (h : Cel Tryz.prog w n 59 cs) : ∃ x : LfS, cs = x.enc ∧ x.ok w := by
  obtain ⟨hl, m, hf⟩ := cel_fields (k := 4) (rows := [(22, 0, 1), (3, 1, 1), (3, 2, 1), (35, 3, 1)]) Tryz.underlying59 (by kernel_rfl) (by kernel_rfl) h
  simp only [List.forall_mem_cons] at hf
  obtain ⟨h0, h1, h2, h3, _⟩ := hf
  obtain ⟨a0, c0, S, e0, w0, q0, l0, b0⟩ := cel_slice1 (f := ByS.v) (Q := ByS.ok w) Tryz.underlying22 cells_bys (fun n cs h => cel_bys h) h0
  obtain ⟨f1, e1, w1⟩ := cel_int Tryz.underlying3 h1
  obtain ⟨f2, e2, w2⟩ := cel_int Tryz.underlying3 h2
  obtain ⟨a3, c3, f3, e3, w3⟩ := cel_ints Tryz.underlying35 Tryz.underlying3 (by kernel_rfl) (by kernel_rfl) h3
  rw [bytes_bys] at b0
  unfold reachBytes at b0
  have t0 := seg_ (off' := 1) e0 rfl
  have t1 := seg_ (off' := 2) e1 rfl
  have t2 := seg_ (off' := 3) e2 rfl
  have t3 := seg_ (off' := 4) e3 rfl
  rw [List.drop_zero] at t0
  refine ⟨⟨a0, c0, S, f1, f2, a3, c3, f3⟩, ?_, ⟨⟨w0, q0⟩, ⟨by show S.length ≤ _; omega, (wf_bd w2).2⟩, w3.1⟩⟩
  rw [t0, t1, t2, t3, List.drop_of_length_le (by omega)]
  first | rfl | simp [LfS.enc]
set_option maxRecDepth 20000 in
theorem crashes_vals (W : World) (args : Array Value) (hl : laidH W) (hv : Vals Tryz.prog W [57] args.toList) :
    Calls Tryz.prog 6 args W fun e W' => e = .returned (.bool true) ∧ Below W.heap.size W W' := by
  obtain ⟨v0, r0, e0, h0, rfl⟩ := hv
  obtain rfl : args = #[v0] := Array.ext' e0
  obtain ⟨A, c, S, rfl, hr, hq, h1, h2⟩ := val_list (f := LfS.enc) (Q := fun W x => LfS.ok W x) (m := 4) Tryz.underlying57 (by kernel_rfl) (by decide) (fun _ => rfl) cel_life h0
  rw [show Tryz.prog.bytesOf 59 = 64 by kernel_rfl] at h2
  unfold reachBytes at h2
  exact Fn.lawR argR (argH hl) (crashes_sl W A c S hr hq (by omega))

set_option maxRecDepth 100000 in
theorem crashes_lifted (os : Os) (started : os.Started) (H : Type) (enc : TypeId × Value → H) (F : Stop.Interp) :
    ReturnsInHanded {} Tryz.checked os 6 .any ((OpenSpec.ofChange Rows.walCrashesSpec).preRow enc Tryz.prog Tryz.f6 Rows.walCrashesRow.domain false Rows.walCrashesRow.laid) (((OpenSpec.ofChange Rows.walCrashesSpec).at F).post enc Tryz.prog Tryz.f6 false true false false) := by
  have hx : ∃ places, DataW.whole enc Tryz.prog ((laidWorld os).forCall (fun _ _ => 0) ⟨#[], #[.slice none 0 0], []⟩).memory Tryz.f6.params.toList Rows.walCrashesSpec.vars false (#[.slice none 0 0] : Array Value).toList 8 = some ([.nil], [], places) := ⟨[], by kernel_rfl⟩
  obtain ⟨places, hx⟩ := hx
  exact lift_laid (C := Tryz.checked) (s := Rows.walCrashesSpec) (sp := OpenSpec.ofChange Rows.walCrashesSpec) (laid := lawsLaid) #[57] rfl rfl own_none laid_outB started (by kernel_rfl) Tryz.func6
    (witness_row_at (enc := enc) (C := Tryz.checked) (s := OpenSpec.ofChange Rows.walCrashesSpec) false (laidWorld os) #[.slice none 0 0] rfl (by kernel_rfl) (by kernel_rfl) (by kernel_rfl)
      (OpenSpec.preRow_of_cond 8 hx (by kernel_rfl) (fun k hk => by cases hk) (by kernel_rfl) (laid_metH os _)))
    Tryz.params6 (by kernel_rfl) rfl rfl rfl Tryz.underlying4 (fun ds hl => match ds, hl with | [_], _ => rfl)
    (fun W args ds p hL hsh hv hA hk => crashes_vals W args (laidH_of_row hL hsh) hv)

theorem crashes_said : Rows.WalCrashesSaid :=
  OpenClaim.holds_of_cond 6 Tryz.f6 rfl rfl rfl rfl rfl rfl rfl ⟨rfl, rfl, rfl, rfl, rfl⟩ rfl rfl rfl rfl rfl (by kernel_rfl) Tryz.func6 (by kernel_rfl)
    (of_decide_eq_true (by kernel_rfl)) (by unfold Func.isWrapper; first | (rw [if_pos (by decide +kernel)]; kernel_rfl) | (rw [if_neg (by decide +kernel)]; exact ⟨rfl, rfl⟩))
    (fun os started H enc _ F => by rw [OpenClaim.pre_eq_preRow]; exact crashes_lifted os started H enc F)

theorem crashes_plain (f : FuncId) (fn : Func) (hf : Tryz.pinned.checked.prog.funcNamed "convoy/convoylaw03.WalCrashes" = some f) (hfn : Tryz.pinned.checked.prog.funcs[f]? = some fn) :
    true = Tryz.pinned.checked.prog.looks [] ∧ ∀ (j : Nat) t, fn.params[j]? = some t → Tryz.pinned.checked.prog.wantsStandIn t = false := by
  obtain rfl : f = 6 := Option.some.inj ((show Tryz.prog.funcNamed "convoy/convoylaw03.WalCrashes" = some 6 by kernel_rfl).symm.trans hf) |>.symm
  obtain rfl : fn = Tryz.f6 := (Option.some.inj (Tryz.func6.symm.trans hfn)).symm
  refine ⟨by kernel_rfl, fun j t ht => ?_⟩
  rw [Tryz.params6] at ht
  have hm := Array.mem_of_getElem? ht
  simp only [List.mem_toArray, List.mem_cons, List.not_mem_nil, or_false] at hm
  rcases hm with rfl
  · exact (show Tryz.prog.wantsStandIn 57 = false by kernel_rfl)

theorem crashes_holds : Rows.WalCrashesCardSaid :=
  Claim7.holds_tied_plain_at .later [] _ _ _ _ crashes_said (fun _ h => by cases h) (by kernel_rfl) (fun _ h => by cases h) walCrashes_row_tie rfl ⟨rfl, rfl⟩ (by kernel_rfl) rfl crashes_plain (by kernel_rfl)

end Go.Proofs.YtceanciekadkeaaGreatDoor
