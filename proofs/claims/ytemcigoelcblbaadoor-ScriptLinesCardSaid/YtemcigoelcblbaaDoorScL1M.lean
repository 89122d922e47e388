/- the law ScriptLines -/
import Derived.Test.YtemcigoelcblbaaDoorMScL1k
import Derived.Test.YtemcigoelcblbaaDoorCards
import Derived.Test.YtemcigoelcblbaaDoorTie
import Derived.OpenShut
namespace Go.Proofs.YtemcigoelcblbaaDoor
open Go.RowKit
set_option maxRecDepth 20000 in
theorem lines_vals (W : World) (args : Array Value) (hl : laidH W) (hv : Vals Tryd.prog W [9] args.toList) :
    Calls Tryd.prog 3 args W fun e W' => e = .returned (.bool true) ∧ Below W.heap.size W W' := by
  obtain ⟨v0, r0, e0, h0, rfl⟩ := hv
  obtain rfl : args = #[v0] := Array.ext' e0
  obtain ⟨s, rfl, _, hs⟩ := val_string Tryd.underlying9 h0
  have he : s = txt s.data.toList := rfl
  have hz : s.data.toList.length = s.size := rfl
  rw [he]
  exact Fn.lawR (H := [laidC]) (fun D hD => by rw [List.mem_singleton.1 hD]; rfl) (fun D hD => by rw [List.mem_singleton.1 hD]; exact hl) (lines_sl s.data.toList (by unfold reachBytes at hs; omega))

set_option maxRecDepth 100000 in
theorem lines_lifted (os : Os) (started : os.Started) (H : Type) (enc : TypeId × Value → H) (F : Stop.Interp) :
    ReturnsInHanded {} Tryd.checked os 3 .any ((OpenSpec.ofChange Rows.scriptLinesSpec).preRow enc Tryd.prog Tryd.f3 Rows.scriptLinesRow.domain false Rows.scriptLinesRow.laid) (((OpenSpec.ofChange Rows.scriptLinesSpec).at F).post enc Tryd.prog Tryd.f3 false true false false) := by
  have hx : ∃ places, DataW.whole enc Tryd.prog ((laidWorld os).forCall (fun _ _ => 0) ⟨#[], #[.string ByteArray.empty], []⟩).memory Tryd.f3.params.toList Rows.scriptLinesSpec.vars false (#[.string ByteArray.empty] : Array Value).toList 8 = some ([.lit (.string [])], [], places) := ⟨[], by kernel_rfl⟩
  obtain ⟨places, hx⟩ := hx
  exact lift_laid (C := Tryd.checked) (s := Rows.scriptLinesSpec) (sp := OpenSpec.ofChange Rows.scriptLinesSpec) (laid := lawsLaid) #[9] rfl rfl own_none laid_outB started (by kernel_rfl) Tryd.func3
    (witness_row_at (enc := enc) (C := Tryd.checked) (s := OpenSpec.ofChange Rows.scriptLinesSpec) false (laidWorld os) #[.string ByteArray.empty] rfl (by kernel_rfl) (by kernel_rfl) (by kernel_rfl)
      (OpenSpec.preRow_of_cond 8 hx (by kernel_rfl) (fun k hk => by cases hk) (by kernel_rfl) (laid_metH os _)))
    Tryd.params3 (by kernel_rfl) rfl rfl rfl Tryd.underlying4 (fun ds hl => match ds, hl with | [_], _ => rfl)
    (fun W args ds p hL hsh hv hA hk => lines_vals W args (laidH_of_row hL hsh) hv)

theorem lines_said : Rows.ScriptLinesSaid :=
  OpenClaim.holds_of_cond 3 Tryd.f3 rfl rfl rfl rfl rfl rfl rfl ⟨rfl, rfl, rfl, rfl, rfl⟩ rfl rfl rfl rfl rfl (by kernel_rfl) Tryd.func3 (by kernel_rfl)
    (of_decide_eq_true (by kernel_rfl)) (by unfold Func.isWrapper; first | (rw [if_pos (by decide +kernel)]; kernel_rfl) | (rw [if_neg (by decide +kernel)]; exact ⟨rfl, rfl⟩))
    (fun os started H enc _ F => by rw [OpenClaim.pre_eq_preRow]; exact lines_lifted os started H enc F)

theorem lines_plain (f : FuncId) (fn : Func) (hf : Tryd.pinned.checked.prog.funcNamed "convoy/convoylaw24.ScriptLines" = some f) (hfn : Tryd.pinned.checked.prog.funcs[f]? = some fn) :
    true = Tryd.pinned.checked.prog.looks [] ∧ ∀ (j : Nat) t, fn.params[j]? = some t → Tryd.pinned.checked.prog.wantsStandIn t = false := by
  obtain rfl : f = 3 := Option.some.inj ((show Tryd.prog.funcNamed "convoy/convoylaw24.ScriptLines" = some 3 by kernel_rfl).symm.trans hf) |>.symm
  obtain rfl : fn = Tryd.f3 := (Option.some.inj (Tryd.func3.symm.trans hfn)).symm
  refine ⟨by kernel_rfl, fun j t ht => ?_⟩
  rw [Tryd.params3] at ht
  have hm := Array.mem_of_getElem? ht
  simp only [List.mem_toArray, List.mem_cons, List.not_mem_nil, or_false] at hm
  rcases hm with rfl
  · exact (show Tryd.prog.wantsStandIn 9 = false by kernel_rfl)

theorem lines_holds : Rows.ScriptLinesCardSaid :=
  Claim7.holds_tied_plain_at .later [] _ _ _ _ lines_said (fun _ h => by cases h) (by kernel_rfl) (fun _ h => by cases h) scriptLines_row_tie rfl ⟨rfl, rfl⟩ (by kernel_rfl) rfl lines_plain (by kernel_rfl)
end Go.Proofs.YtemcigoelcblbaaDoor
