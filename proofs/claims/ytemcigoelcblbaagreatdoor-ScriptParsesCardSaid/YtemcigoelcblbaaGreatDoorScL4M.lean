/- the law ScriptParses -/
import Derived.Test.YtemcigoelcblbaaGreatDoorMScL4k
import Derived.Test.YtemcigoelcblbaaGreatDoorCards
import Derived.Test.YtemcigoelcblbaaGreatDoorTie
import Derived.OpenShut
namespace Go.Proofs.YtemcigoelcblbaaGreatDoor
open Go.RowKit
set_option maxRecDepth 20000 in
theorem parses_vals (W : World) (args : Array Value) (hl : laidH W) (hv : Vals Tryz.prog W [9] args.toList) :
    Calls Tryz.prog 3 args W fun e W' => e = .returned (.bool true) ∧ Below W.heap.size W W' := by
  obtain ⟨v0, r0, e0, h0, rfl⟩ := hv
  obtain rfl : args = #[v0] := Array.ext' e0
  obtain ⟨s, rfl, _, hs⟩ := val_string Tryz.underlying9 h0
  have he : s = txt s.data.toList := rfl
  have hz : s.data.toList.length = s.size := rfl
  rw [he]
  exact Fn.lawR (H := [laidC]) (fun D hD => by rw [List.mem_singleton.1 hD]; rfl) (fun D hD => by rw [List.mem_singleton.1 hD]; exact hl) (parses_sl s.data.toList (by unfold reachBytes at hs; omega))

set_option maxRecDepth 100000 in
theorem parses_lifted (os : Os) (started : os.Started) (H : Type) (enc : TypeId × Value → H) (F : Stop.Interp) :
    ReturnsInHanded {} Tryz.checked os 3 .any ((OpenSpec.ofChange Rows.scriptParsesSpec).preRow enc Tryz.prog Tryz.f3 Rows.scriptParsesRow.domain false Rows.scriptParsesRow.laid) (((OpenSpec.ofChange Rows.scriptParsesSpec).at F).post enc Tryz.prog Tryz.f3 false true false false) := by
  have hx : ∃ places, DataW.whole enc Tryz.prog ((laidWorld os).forCall (fun _ _ => 0) ⟨#[], #[.string ByteArray.empty], []⟩).memory Tryz.f3.params.toList Rows.scriptParsesSpec.vars false (#[.string ByteArray.empty] : Array Value).toList 8 = some ([.lit (.string [])], [], places) := ⟨[], by kernel_rfl⟩
  obtain ⟨places, hx⟩ := hx
  exact lift_laid (C := Tryz.checked) (s := Rows.scriptParsesSpec) (sp := OpenSpec.ofChange Rows.scriptParsesSpec) (laid := lawsLaid) #[9] rfl rfl own_none laid_outB started (by kernel_rfl) Tryz.func3
    (witness_row_at (enc := enc) (C := Tryz.checked) (s := OpenSpec.ofChange Rows.scriptParsesSpec) false (laidWorld os) #[.string ByteArray.empty] rfl (by kernel_rfl) (by kernel_rfl) (by kernel_rfl)
      (OpenSpec.preRow_of_cond 8 hx (by kernel_rfl) (fun k hk => by cases hk) (by kernel_rfl) (laid_metH os _)))
    Tryz.params3 (by kernel_rfl) rfl rfl rfl Tryz.underlying4 (fun ds hl => match ds, hl with | [_], _ => rfl)
    (fun W args ds p hL hsh hv hA hk => parses_vals W args (laidH_of_row hL hsh) hv)

theorem parses_said : Rows.ScriptParsesSaid :=
  OpenClaim.holds_of_cond 3 Tryz.f3 rfl rfl rfl rfl rfl rfl rfl ⟨rfl, rfl, rfl, rfl, rfl⟩ rfl rfl rfl rfl rfl (by kernel_rfl) Tryz.func3 (by kernel_rfl)
    (of_decide_eq_true (by kernel_rfl)) (by unfold Func.isWrapper; first | (rw [if_pos (by decide +kernel)]; kernel_rfl) | (rw [if_neg (by decide +kernel)]; exact ⟨rfl, rfl⟩))
    (fun os started H enc _ F => by rw [OpenClaim.pre_eq_preRow]; exact parses_lifted os started H enc F)

theorem parses_plain (f : FuncId) (fn : Func) (hf : Tryz.pinned.checked.prog.funcNamed "convoy/convoylaw24.ScriptParses" = some f) (hfn : Tryz.pinned.checked.prog.funcs[f]? = some fn) :
    true = Tryz.pinned.checked.prog.looks [] ∧ ∀ (j : Nat) t, fn.params[j]? = some t → Tryz.pinned.checked.prog.wantsStandIn t = false := by
  obtain rfl : f = 3 := Option.some.inj ((show Tryz.prog.funcNamed "convoy/convoylaw24.ScriptParses" = some 3 by kernel_rfl).symm.trans hf) |>.symm
  obtain rfl : fn = Tryz.f3 := (Option.some.inj (Tryz.func3.symm.trans hfn)).symm
  refine ⟨by kernel_rfl, fun j t ht => ?_⟩
  rw [Tryz.params3] at ht
  have hm := Array.mem_of_getElem? ht
  simp only [List.mem_toArray, List.mem_cons, List.not_mem_nil, or_false] at hm
  rcases hm with rfl
  · exact (show Tryz.prog.wantsStandIn 9 = false by kernel_rfl)

theorem parses_holds : Rows.ScriptParsesCardSaid :=
  Claim7.holds_tied_plain_at .later [] _ _ _ _ parses_said (fun _ h => by cases h) (by kernel_rfl) (fun _ h => by cases h) scriptParses_row_tie rfl ⟨rfl, rfl⟩ (by kernel_rfl) rfl parses_plain (by kernel_rfl)
end Go.Proofs.YtemcigoelcblbaaGreatDoor
