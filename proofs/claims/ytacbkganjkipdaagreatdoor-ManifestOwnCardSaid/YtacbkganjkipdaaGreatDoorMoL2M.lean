/- the law ManifestOwn -/
import Derived.Test.YtacbkganjkipdaaGreatDoorMMoL2m
import Derived.Test.YtacbkganjkipdaaGreatDoorMMoL2s
import Derived.Test.YtacbkganjkipdaaGreatDoorCards
import Derived.Test.YtacbkganjkipdaaGreatDoorTie
import Derived.OpenShut
namespace Go.Proofs.YtacbkganjkipdaaGreatDoor
open Go.RowKit
set_option maxRecDepth 20000 in
theorem own_vals (W : World) (args : Array Value) (hl : laidH W) (hv : Vals Tryz.prog W [27] args.toList) :
    Calls Tryz.prog 4 args W fun e W' => e = .returned (.bool true) ∧ Below W.heap.size W W' := by
  obtain ⟨v1, r1, e0, h1, rfl⟩ := hv
  obtain rfl : args = #[v1] := Array.ext' e0
  obtain ⟨e, B, b, D, d, rfl, he⟩ := val_edit h1
  exact Fn.lawR (H := [rdT B e.add, rd D e.drop.length 1 (ints e.drop), laidC]) (fun C hC => by
    simp only [List.mem_cons, List.not_mem_nil, or_false] at hC
    rcases hC with rfl | rfl | rfl <;> rfl) (fun C hC => by
    simp only [List.mem_cons, List.not_mem_nil, or_false] at hC
    rcases hC with rfl | rfl | rfl
    · exact he.add
    · exact he.drp
    · exact hl) (own_sl W e B b D d he)

set_option maxRecDepth 100000 in
theorem own_lifted (os : Os) (started : os.Started) (H : Type) (enc : TypeId × Value → H) (F : Stop.Interp) :
    ReturnsInHanded {} Tryz.checked os 4 .any ((OpenSpec.ofChange Rows.manifestOwnSpec).preRow enc Tryz.prog Tryz.f4 Rows.manifestOwnRow.domain false Rows.manifestOwnRow.laid) (((OpenSpec.ofChange Rows.manifestOwnSpec).at F).post enc Tryz.prog Tryz.f4 false true false false) := by
  have hx : ∃ places, DataW.whole enc Tryz.prog ((laidWorld os).forCall (fun _ _ => 0) ⟨#[], #[.agg #[.slice none 0 0, .slice none 0 0, .int .i64 0, .int .i64 0, .int .i64 0]], []⟩).memory Tryz.f4.params.toList Rows.manifestOwnSpec.vars false (#[.agg #[.slice none 0 0, .slice none 0 0, .int .i64 0, .int .i64 0, .int .i64 0]] : Array Value).toList 8 = some ([.agg [.nil, .nil, .lit (.int .i64 0), .lit (.int .i64 0), .lit (.int .i64 0)]], [], places) := ⟨[], by kernel_rfl⟩
  obtain ⟨places, hx⟩ := hx
  exact lift_laid (C := Tryz.checked) (s := Rows.manifestOwnSpec) (sp := OpenSpec.ofChange Rows.manifestOwnSpec) (laid := lawsLaid) #[27] rfl rfl own_none laid_outB started (by kernel_rfl) Tryz.func4
    (witness_row_at (enc := enc) (C := Tryz.checked) (s := OpenSpec.ofChange Rows.manifestOwnSpec) false (laidWorld os) #[.agg #[.slice none 0 0, .slice none 0 0, .int .i64 0, .int .i64 0, .int .i64 0]] rfl (by kernel_rfl) (by kernel_rfl) (by kernel_rfl)
      (OpenSpec.preRow_of_cond 8 hx (by kernel_rfl) (fun k hk => by cases hk) (by kernel_rfl) (laid_metH os _)))
    Tryz.params4 (by kernel_rfl) rfl rfl rfl Tryz.underlying4 (fun ds hl => match ds, hl with | [_], _ => rfl)
    (fun W args ds p hL hsh hv hA hk => own_vals W args (laidH_of_row hL hsh) hv)

theorem own_said : Rows.ManifestOwnSaid :=
  OpenClaim.holds_of_cond 4 Tryz.f4 rfl rfl rfl rfl rfl rfl rfl ⟨rfl, rfl, rfl, rfl, rfl⟩ rfl rfl rfl rfl rfl (by kernel_rfl) Tryz.func4 (by kernel_rfl)
    (of_decide_eq_true (by kernel_rfl)) (by unfold Func.isWrapper; first | (rw [if_pos (by decide +kernel)]; kernel_rfl) | (rw [if_neg (by decide +kernel)]; exact ⟨rfl, rfl⟩))
    (fun os started H enc _ F => by rw [OpenClaim.pre_eq_preRow]; exact own_lifted os started H enc F)

theorem own_plain (f : FuncId) (fn : Func) (hf : Tryz.pinned.checked.prog.funcNamed "convoy/convoylaw08.ManifestOwn" = some f) (hfn : Tryz.pinned.checked.prog.funcs[f]? = some fn) :
    true = Tryz.pinned.checked.prog.looks [] ∧ ∀ (j : Nat) t, fn.params[j]? = some t → Tryz.pinned.checked.prog.wantsStandIn t = false := by
  obtain rfl : f = 4 := Option.some.inj ((show Tryz.prog.funcNamed "convoy/convoylaw08.ManifestOwn" = some 4 by kernel_rfl).symm.trans hf) |>.symm
  obtain rfl : fn = Tryz.f4 := (Option.some.inj (Tryz.func4.symm.trans hfn)).symm
  refine ⟨by kernel_rfl, fun j t ht => ?_⟩
  rw [Tryz.params4] at ht
  have hm := Array.mem_of_getElem? ht
  simp only [List.mem_toArray, List.mem_cons, List.not_mem_nil, or_false] at hm
  rcases hm with rfl
  · exact (show Tryz.prog.wantsStandIn 27 = false by kernel_rfl)

theorem own_holds : Rows.ManifestOwnCardSaid :=
  Claim7.holds_tied_plain_at .later [] _ _ _ _ own_said (fun _ h => by cases h) (by kernel_rfl) (fun _ h => by cases h) manifestOwn_row_tie rfl ⟨rfl, rfl⟩ (by kernel_rfl) rfl own_plain (by kernel_rfl)
end Go.Proofs.YtacbkganjkipdaaGreatDoor
