/- the law WalDrops -/
import Derived.Test.YtceanciekadkeaaGreatDoorMWlL2m
import Derived.Test.YtceanciekadkeaaGreatDoorCards
import Derived.Test.YtceanciekadkeaaGreatDoorTie
import Derived.OpenShut
namespace Go.Proofs.YtceanciekadkeaaGreatDoor
open Go.RowKit
theorem argR {W : World} : ∀ D ∈ [argc W, laidC], D.excl = false := fun D hD => by
  rcases List.mem_cons.1 hD with rfl | hD
  · rfl
  · rw [List.mem_singleton.1 hD]
    rfl
theorem argH {W : World} (hl : laidH W) : ∀ D ∈ [argc W, laidC], D.holds W := fun D hD => by
  rcases List.mem_cons.1 hD with rfl | hD
  · exact ⟨Nat.le_refl _, fun _ _ => rfl⟩
  · rw [List.mem_singleton.1 hD]
    exact hl
set_option maxRecDepth 20000 in
theorem drops_vals (W : World) (args : Array Value) (hl : laidH W) (hv : Vals Tryz.prog W [22, 3] args.toList) :
    Calls Tryz.prog 5 args W fun e W' => e = .returned (.bool true) ∧ Below W.heap.size W W' := by
  obtain ⟨v0, r0, e0, h0, v1, r1, rfl, h1, rfl⟩ := hv
  obtain rfl : args = #[v0, v1] := Array.ext' e0
  obtain ⟨A, c, S, rfl, hr, hq, h2, h3⟩ := val_pay h0
  obtain ⟨b, rfl, -⟩ := val_int Tryz.underlying3 h1
  exact Fn.lawR argR (argH hl) (drops_sl W A c S hr hq (by omega) b)

set_option maxRecDepth 100000 in
theorem drops_lifted (os : Os) (started : os.Started) (H : Type) (enc : TypeId × Value → H) (F : Stop.Interp) :
    ReturnsInHanded {} Tryz.checked os 5 .any ((OpenSpec.ofChange Rows.walDropsSpec).preRow enc Tryz.prog Tryz.f5 Rows.walDropsRow.domain false Rows.walDropsRow.laid) (((OpenSpec.ofChange Rows.walDropsSpec).at F).post enc Tryz.prog Tryz.f5 false true false false) := by
  have hx : ∃ places, DataW.whole enc Tryz.prog ((laidWorld os).forCall (fun _ _ => 0) ⟨#[], #[.slice none 0 0, .int .i64 0], []⟩).memory Tryz.f5.params.toList Rows.walDropsSpec.vars false (#[.slice none 0 0, .int .i64 0] : Array Value).toList 8 = some ([.nil, .lit (.int .i64 0)], [], places) := ⟨[], by kernel_rfl⟩
  obtain ⟨places, hx⟩ := hx
  exact lift_laid (C := Tryz.checked) (s := Rows.walDropsSpec) (sp := OpenSpec.ofChange Rows.walDropsSpec) (laid := lawsLaid) #[22, 3] rfl rfl own_none laid_outB started (by kernel_rfl) Tryz.func5
    (witness_row_at (enc := enc) (C := Tryz.checked) (s := OpenSpec.ofChange Rows.walDropsSpec) false (laidWorld os) #[.slice none 0 0, .int .i64 0] rfl (by kernel_rfl) (by kernel_rfl) (by kernel_rfl)
      (OpenSpec.preRow_of_cond 8 hx (by kernel_rfl) (fun k hk => by cases hk) (by kernel_rfl) (laid_metH os _)))
    Tryz.params5 (by kernel_rfl) rfl rfl rfl Tryz.underlying4 (fun ds hl => match ds, hl with | [_, _], _ => rfl)
    (fun W args ds p hL hsh hv hA hk => drops_vals W args (laidH_of_row hL hsh) hv)

theorem drops_said : Rows.WalDropsSaid :=
  OpenClaim.holds_of_cond 5 Tryz.f5 rfl rfl rfl rfl rfl rfl rfl ⟨rfl, rfl, rfl, rfl, rfl⟩ rfl rfl rfl rfl rfl (by kernel_rfl) Tryz.func5 (by kernel_rfl)
    (of_decide_eq_true (by kernel_rfl)) (by unfold Func.isWrapper; first | (rw [if_pos (by decide +kernel)]; kernel_rfl) | (rw [if_neg (by decide +kernel)]; exact ⟨rfl, rfl⟩))
    (fun os started H enc _ F => by rw [OpenClaim.pre_eq_preRow]; exact drops_lifted os started H enc F)

theorem drops_plain (f : FuncId) (fn : Func) (hf : Tryz.pinned.checked.prog.funcNamed "convoy/convoylaw03.WalDrops" = some f) (hfn : Tryz.pinned.checked.prog.funcs[f]? = some fn) :
    true = Tryz.pinned.checked.prog.looks [] ∧ ∀ (j : Nat) t, fn.params[j]? = some t → Tryz.pinned.checked.prog.wantsStandIn t = false := by
  obtain rfl : f = 5 := Option.some.inj ((show Tryz.prog.funcNamed "convoy/convoylaw03.WalDrops" = some 5 by kernel_rfl).symm.trans hf) |>.symm
  obtain rfl : fn = Tryz.f5 := (Option.some.inj (Tryz.func5.symm.trans hfn)).symm
  refine ⟨by kernel_rfl, fun j t ht => ?_⟩
  rw [Tryz.params5] at ht
  have hm := Array.mem_of_getElem? ht
  simp only [List.mem_toArray, List.mem_cons, List.not_mem_nil, or_false] at hm
  rcases hm with rfl | rfl
  · exact (show Tryz.prog.wantsStandIn 22 = false by kernel_rfl)
  · exact (show Tryz.prog.wantsStandIn 3 = false by kernel_rfl)

theorem drops_holds : Rows.WalDropsCardSaid :=
  Claim7.holds_tied_plain_at .later [] _ _ _ _ drops_said (fun _ h => by cases h) (by kernel_rfl) (fun _ h => by cases h) walDrops_row_tie rfl ⟨rfl, rfl⟩ (by kernel_rfl) rfl drops_plain (by kernel_rfl)

end Go.Proofs.YtceanciekadkeaaGreatDoor
