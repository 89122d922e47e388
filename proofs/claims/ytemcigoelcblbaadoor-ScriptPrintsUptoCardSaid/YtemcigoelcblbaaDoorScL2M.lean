/- the law ScriptPrints, in the second form -/
import Derived.Test.YtemcigoelcblbaaDoorMScL2k
import Derived.Test.YtemcigoelcblbaaDoorCards
import Derived.Test.YtemcigoelcblbaaDoorTie
import Derived.OpenShut
namespace Go.Proofs.YtemcigoelcblbaaDoor
open Go.RowKit
theorem argR {W : World} : ∀ D ∈ [argc W, laidC], D.excl = false := fun D hD => by
  rcases List.mem_cons.1 hD with rfl | hD
  · rfl
  · rw [List.mem_singleton.1 hD]
    rfl
theorem argH {W : World} (hl : laidH W) : ∀ D ∈ [argc W, laidC], D.holds W := fun D hD => by
  rcases List.mem_cons.1 hD with rfl | hD
  · exact ⟨Nat.le_refl _, fun _ _ => rfl⟩
  · rw [List.mem_singleton.1 hD]
    exact hl
set_option maxRecDepth 20000 in
theorem prints_vals (W : World) (args : Array Value) (hl : laidH W) (hv : Vals Tryd.prog W [35] args.toList) (hs : Smls Tryd.prog W [35] args.toList) :
    Calls Tryd.prog 4 args W fun e W' => e = .returned (.bool true) ∧ Below W.heap.size W W' := by
  obtain ⟨v0, r0, e0, h0, rfl⟩ := hv
  obtain rfl : args = #[v0] := Array.ext' e0
  obtain ⟨z, rfl, hz, ha⟩ := step_arg h0 hs.1
  exact Fn.lawR argR (argH hl) (prints_sl W z hz ha)

set_option maxRecDepth 100000 in
theorem prints_lifted (os : Os) (started : os.Started) (H : Type) (enc : TypeId × Value → H) (F : Stop.Interp) :
    ReturnsInHanded {} Tryd.checked os 4 .any ((Rows.OpenSpec.upto Rows.scriptPrintsSpec).preRow enc Tryd.prog Tryd.f4 Rows.scriptPrintsUptoRow.domain false Rows.scriptPrintsUptoRow.laid) (((Rows.OpenSpec.upto Rows.scriptPrintsSpec).at F).post enc Tryd.prog Tryd.f4 false true false false) := by
  have hx : ∃ places, DataW.whole enc Tryd.prog ((laidWorld os).forCall (fun _ _ => 0) ⟨#[], #[.agg #[.int .i64 0, .int .i64 0, .int .i64 0, .int .i64 0, .int .i64 0, .int .i64 0, .int .i64 0, .int .i64 0, .int .i64 0, .int .i64 0, .slice none 0 0, .slice none 0 0]], []⟩).memory Tryd.f4.params.toList Rows.scriptPrintsSpec.vars false (#[.agg #[.int .i64 0, .int .i64 0, .int .i64 0, .int .i64 0, .int .i64 0, .int .i64 0, .int .i64 0, .int .i64 0, .int .i64 0, .int .i64 0, .slice none 0 0, .slice none 0 0]] : Array Value).toList 8 = some ([.agg [.lit (.int .i64 0), .lit (.int .i64 0), .lit (.int .i64 0), .lit (.int .i64 0), .agg [.lit (.int .i64 0), .lit (.int .i64 0), .lit (.int .i64 0), .agg [.lit (.int .i64 0), .lit (.int .i64 0), .agg [.lit (.int .i64 0), .nil]], .nil]]], [], places) := ⟨[], by kernel_rfl⟩
  obtain ⟨places, hx⟩ := hx
  exact lift_laid (C := Tryd.checked) (s := Rows.scriptPrintsSpec) (sp := Rows.OpenSpec.upto Rows.scriptPrintsSpec) (laid := lawsLaid) #[35] rfl rfl own_none laid_outB started (by kernel_rfl) Tryd.func4
    (witness_row_at (enc := enc) (C := Tryd.checked) (s := Rows.OpenSpec.upto Rows.scriptPrintsSpec) false (laidWorld os) #[.agg #[.int .i64 0, .int .i64 0, .int .i64 0, .int .i64 0, .int .i64 0, .int .i64 0, .int .i64 0, .int .i64 0, .int .i64 0, .int .i64 0, .slice none 0 0, .slice none 0 0]] rfl (by kernel_rfl) (by kernel_rfl) (by kernel_rfl)
      (OpenSpec.preRow_of_cond 8 hx (by kernel_rfl) (fun k hk => by cases hk; kernel_rfl) (by kernel_rfl) (laid_metH os _)))
    Tryd.params4 (by kernel_rfl) rfl rfl rfl Tryd.underlying4 (fun ds hl => match ds, hl with | [_], _ => rfl)
    (fun W args ds p hL hsh hv hA hk => prints_vals W args (laidH_of_row hL hsh) hv (smls_of_trodAll hA (of_decide_eq_true (hk _ rfl))))

theorem prints_said : Rows.ScriptPrintsUptoSaid :=
  OpenClaim.holds_of_cond 4 Tryd.f4 rfl rfl rfl rfl rfl rfl rfl ⟨rfl, rfl, rfl, rfl, rfl⟩ rfl rfl rfl rfl rfl (by kernel_rfl) Tryd.func4 (by kernel_rfl)
    (of_decide_eq_true (by kernel_rfl)) (by unfold Func.isWrapper; first | (rw [if_pos (by decide +kernel)]; kernel_rfl) | (rw [if_neg (by decide +kernel)]; exact ⟨rfl, rfl⟩))
    (fun os started H enc _ F => by rw [OpenClaim.pre_eq_preRow]; exact prints_lifted os started H enc F)

theorem prints_plain (f : FuncId) (fn : Func) (hf : Tryd.pinned.checked.prog.funcNamed "convoy/convoylaw24.ScriptPrints" = some f) (hfn : Tryd.pinned.checked.prog.funcs[f]? = some fn) :
    true = Tryd.pinned.checked.prog.looks [] ∧ ∀ (j : Nat) t, fn.params[j]? = some t → Tryd.pinned.checked.prog.wantsStandIn t = false := by
  obtain rfl : f = 4 := Option.some.inj ((show Tryd.prog.funcNamed "convoy/convoylaw24.ScriptPrints" = some 4 by kernel_rfl).symm.trans hf) |>.symm
  obtain rfl : fn = Tryd.f4 := (Option.some.inj (Tryd.func4.symm.trans hfn)).symm
  refine ⟨by kernel_rfl, fun j t ht => ?_⟩
  rw [Tryd.params4] at ht
  have hm := Array.mem_of_getElem? ht
  simp only [List.mem_toArray, List.mem_cons, List.not_mem_nil, or_false] at hm
  rcases hm with rfl
  · exact (show Tryd.prog.wantsStandIn 35 = false by kernel_rfl)

theorem prints_holds : Rows.ScriptPrintsUptoCardSaid :=
  Claim7.holds_tied_plain_at .later [] _ _ _ _ prints_said (fun _ h => by cases h) (by kernel_rfl) (fun _ h => by cases h) scriptPrintsUpto_row_tie rfl ⟨rfl, rfl⟩ (by kernel_rfl) rfl prints_plain (by kernel_rfl)
end Go.Proofs.YtemcigoelcblbaaDoor
