/- the law ScriptOwn, in the second form -/
import Derived.Test.YtemcigoelcblbaaGreatDoorMScL5k
import Derived.Test.YtemcigoelcblbaaGreatDoorCards
import Derived.Test.YtemcigoelcblbaaGreatDoorTie
import Derived.OpenShut
namespace Go.Proofs.YtemcigoelcblbaaGreatDoor
open Go.RowKit
theorem argR {W : World} : ∀ D ∈ [argc W, laidC], D.excl = false := fun D hD => by
  rcases List.mem_cons.1 hD with rfl | hD
  · rfl
  · rw [List.mem_singleton.1 hD]
    rfl
theorem argH {W : World} (hl : laidH W) : ∀ D ∈ [argc W, laidC], D.holds W := fun D hD => by
  rcases List.mem_cons.1 hD with rfl | hD
  · exact ⟨Nat.le_refl _, fun _ _ => rfl⟩
  · rw [List.mem_singleton.1 hD]
    exact hl
set_option maxRecDepth 20000 in
theorem own24_vals (W : World) (args : Array Value) (hl : laidH W) (hv : Vals Tryz.prog W [47, 9] args.toList) (hs : Smls Tryz.prog W [47, 9] args.toList) :
    Calls Tryz.prog 4 args W fun e W' => e = .returned (.bool true) ∧ Below W.heap.size W W' := by
  obtain ⟨v0, r0, e0, h0, v1, r1, rfl, h1, rfl⟩ := hv
  obtain rfl : args = #[v0, v1] := Array.ext' e0
  obtain ⟨z, rfl, hz, ha⟩ := step_arg h0 hs.1
  obtain ⟨s, rfl, _, hr⟩ := val_string Tryz.underlying9 h1
  have he : s = txt s.data.toList := rfl
  have hz2 : s.data.toList.length = s.size := rfl
  rw [he]
  exact Fn.lawR argR (argH hl) (own24_sl W z hz ha s.data.toList (by unfold reachBytes at hr; omega))

set_option maxRecDepth 100000 in
theorem own24_lifted (os : Os) (started : os.Started) (H : Type) (enc : TypeId × Value → H) (F : Stop.Interp) :
    ReturnsInHanded {} Tryz.checked os 4 .any ((Rows.OpenSpec.upto Rows.scriptOwnSpec).preRow enc Tryz.prog Tryz.f4 Rows.scriptOwnUptoRow.domain false Rows.scriptOwnUptoRow.laid) (((Rows.OpenSpec.upto Rows.scriptOwnSpec).at F).post enc Tryz.prog Tryz.f4 false true false false) := by
  have hx : ∃ places, DataW.whole enc Tryz.prog ((laidWorld os).forCall (fun _ _ => 0) ⟨#[], #[.agg #[.int .i64 0, .int .i64 0, .int .i64 0, .int .i64 0, .int .i64 0, .int .i64 0, .int .i64 0, .int .i64 0, .int .i64 0, .int .i64 0, .slice none 0 0, .slice none 0 0], .string ByteArray.empty], []⟩).memory Tryz.f4.params.toList Rows.scriptOwnSpec.vars false (#[.agg #[.int .i64 0, .int .i64 0, .int .i64 0, .int .i64 0, .int .i64 0, .int .i64 0, .int .i64 0, .int .i64 0, .int .i64 0, .int .i64 0, .slice none 0 0, .slice none 0 0], .string ByteArray.empty] : Array Value).toList 8 = some ([.agg [.lit (.int .i64 0), .lit (.int .i64 0), .lit (.int .i64 0), .lit (.int .i64 0), .agg [.lit (.int .i64 0), .lit (.int .i64 0), .lit (.int .i64 0), .agg [.lit (.int .i64 0), .lit (.int .i64 0), .agg [.lit (.int .i64 0), .nil]], .nil]], .lit (.string [])], [], places) := ⟨[], by kernel_rfl⟩
  obtain ⟨places, hx⟩ := hx
  exact lift_laid (C := Tryz.checked) (s := Rows.scriptOwnSpec) (sp := Rows.OpenSpec.upto Rows.scriptOwnSpec) (laid := lawsLaid) #[47, 9] rfl rfl own_none laid_outB started (by kernel_rfl) Tryz.func4
    (witness_row_at (enc := enc) (C := Tryz.checked) (s := Rows.OpenSpec.upto Rows.scriptOwnSpec) false (laidWorld os) #[.agg #[.int .i64 0, .int .i64 0, .int .i64 0, .int .i64 0, .int .i64 0, .int .i64 0, .int .i64 0, .int .i64 0, .int .i64 0, .int .i64 0, .slice none 0 0, .slice none 0 0], .string ByteArray.empty] rfl (by kernel_rfl) (by kernel_rfl) (by kernel_rfl)
      (OpenSpec.preRow_of_cond 8 hx (by kernel_rfl) (fun k hk => by cases hk; kernel_rfl) (by kernel_rfl) (laid_metH os _)))
    Tryz.params4 (by kernel_rfl) rfl rfl rfl Tryz.underlying4 (fun ds hl => match ds, hl with | [_, _], _ => rfl)
    (fun W args ds p hL hsh hv hA hk => own24_vals W args (laidH_of_row hL hsh) hv (smls_of_trodAll hA (of_decide_eq_true (hk _ rfl))))

theorem own24_said : Rows.ScriptOwnUptoSaid :=
  OpenClaim.holds_of_cond 4 Tryz.f4 rfl rfl rfl rfl rfl rfl rfl ⟨rfl, rfl, rfl, rfl, rfl⟩ rfl rfl rfl rfl rfl (by kernel_rfl) Tryz.func4 (by kernel_rfl)
    (of_decide_eq_true (by kernel_rfl)) (by unfold Func.isWrapper; first | (rw [if_pos (by decide +kernel)]; kernel_rfl) | (rw [if_neg (by decide +kernel)]; exact ⟨rfl, rfl⟩))
    (fun os started H enc _ F => by rw [OpenClaim.pre_eq_preRow]; exact own24_lifted os started H enc F)

theorem own24_plain (f : FuncId) (fn : Func) (hf : Tryz.pinned.checked.prog.funcNamed "convoy/convoylaw24.ScriptOwn" = some f) (hfn : Tryz.pinned.checked.prog.funcs[f]? = some fn) :
    true = Tryz.pinned.checked.prog.looks [] ∧ ∀ (j : Nat) t, fn.params[j]? = some t → Tryz.pinned.checked.prog.wantsStandIn t = false := by
  obtain rfl : f = 4 := Option.some.inj ((show Tryz.prog.funcNamed "convoy/convoylaw24.ScriptOwn" = some 4 by kernel_rfl).symm.trans hf) |>.symm
  obtain rfl : fn = Tryz.f4 := (Option.some.inj (Tryz.func4.symm.trans hfn)).symm
  refine ⟨by kernel_rfl, fun j t ht => ?_⟩
  rw [Tryz.params4] at ht
  have hm := Array.mem_of_getElem? ht
  simp only [List.mem_toArray, List.mem_cons, List.not_mem_nil, or_false] at hm
  rcases hm with rfl | rfl
  · exact (show Tryz.prog.wantsStandIn 47 = false by kernel_rfl)
  · exact (show Tryz.prog.wantsStandIn 9 = false by kernel_rfl)

theorem own24_holds : Rows.ScriptOwnUptoCardSaid :=
  Claim7.holds_tied_plain_at .later [] _ _ _ _ own24_said (fun _ h => by cases h) (by kernel_rfl) (fun _ h => by cases h) scriptOwnUpto_row_tie rfl ⟨rfl, rfl⟩ (by kernel_rfl) rfl own24_plain (by kernel_rfl)
end Go.Proofs.YtemcigoelcblbaaGreatDoor
