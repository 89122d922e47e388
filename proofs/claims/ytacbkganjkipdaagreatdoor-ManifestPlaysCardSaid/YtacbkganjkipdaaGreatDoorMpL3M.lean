import Derived.Test.YtacbkganjkipdaaGreatDoorMMpL3m
import Derived.Test.YtacbkganjkipdaaGreatDoorMMpL3r
import Derived.Test.YtacbkganjkipdaaGreatDoorCards
import Derived.Test.YtacbkganjkipdaaGreatDoorTie
import Derived.OpenShut
namespace Go.Proofs.YtacbkganjkipdaaGreatDoor
open Go.RowKit
set_option maxRecDepth 20000 in
theorem plays_vals (W : World) (args : Array Value) (hl : laidH W) (hv : Vals Tryz.prog W [70] args.toList) :
 Calls Tryz.prog 6 args W fun e W' => e = .returned (.bool true) ∧ Below W.heap.size W W' := by
 obtain ⟨v1, r1, e0, h1, rfl⟩ := hv
 obtain rfl : args = #[v1] := Array.ext' e0
 obtain ⟨X, A, c, rfl, hr, hX⟩ := val_acts h1
 exact Fn.lawR (H := [rd A X.length 8 (X.flatMap ActX.enc), stars (X.flatMap ActX.parts), laidC]) (fun C hC => by
  simp only [List.mem_cons, List.not_mem_nil, or_false] at hC
  rcases hC with rfl | rfl | rfl <;> rfl) (fun C hC => by
  simp only [List.mem_cons, List.not_mem_nil, or_false] at hC
  rcases hC with rfl | rfl | rfl
  · exact hr
  · exact fun C hC => by
     obtain ⟨x, hx, hC⟩ := List.mem_flatMap.1 hC
     obtain ⟨⟨he, _⟩, hk⟩ := hX x hx
     unfold ActX.parts at hC
     simp only [List.mem_cons, List.not_mem_nil, or_false] at hC
     rcases hC with rfl | rfl | rfl
     · exact ⟨rfl, he.add⟩
     · exact ⟨rfl, he.drp⟩
     · exact ⟨rfl, hk⟩
  · exact hl) (plays_sl W X A c fun x hx => (hX x hx).1)
set_option maxRecDepth 100000 in
theorem plays_lifted (os : Os) (started : os.Started) (H : Type) (enc : TypeId × Value → H) (F : Stop.Interp) :
 ReturnsInHanded {} Tryz.checked os 6 .any ((OpenSpec.ofChange Rows.manifestPlaysSpec).preRow enc Tryz.prog Tryz.f6 Rows.manifestPlaysRow.domain false Rows.manifestPlaysRow.laid) (((OpenSpec.ofChange Rows.manifestPlaysSpec).at F).post enc Tryz.prog Tryz.f6 false true false false) := by
 have hx : ∃ places, DataW.whole enc Tryz.prog ((laidWorld os).forCall (fun _ _ => 0) ⟨#[], #[.slice none 0 0], []⟩).memory Tryz.f6.params.toList Rows.manifestPlaysSpec.vars false (#[.slice none 0 0] : Array Value).toList 8 = some ([.nil], [], places) := ⟨[], by kernel_rfl⟩
 obtain ⟨places, hx⟩ := hx
 exact lift_laid (C := Tryz.checked) (s := Rows.manifestPlaysSpec) (sp := OpenSpec.ofChange Rows.manifestPlaysSpec) (laid := lawsLaid) #[70] rfl rfl own_none laid_outB started (by kernel_rfl) Tryz.func6
  (witness_row_at (enc := enc) (C := Tryz.checked) (s := OpenSpec.ofChange Rows.manifestPlaysSpec) false (laidWorld os) #[.slice none 0 0] rfl (by kernel_rfl) (by kernel_rfl) (by kernel_rfl)
   (OpenSpec.preRow_of_cond 8 hx (by kernel_rfl) (fun k hk => by cases hk) (by kernel_rfl) (laid_metH os _)))
  Tryz.params6 (by kernel_rfl) rfl rfl rfl Tryz.underlying4 (fun ds hl => match ds, hl with | [_], _ => rfl)
  (fun W args ds p hL hsh hv hA hk => plays_vals W args (laidH_of_row hL hsh) hv)
theorem plays_said : Rows.ManifestPlaysSaid :=
 OpenClaim.holds_of_cond 6 Tryz.f6 rfl rfl rfl rfl rfl rfl rfl ⟨rfl, rfl, rfl, rfl, rfl⟩ rfl rfl rfl rfl rfl (by kernel_rfl) Tryz.func6 (by kernel_rfl)
  (of_decide_eq_true (by kernel_rfl)) (by unfold Func.isWrapper; first | (rw [if_pos (by decide +kernel)]; kernel_rfl) | (rw [if_neg (by decide +kernel)]; exact ⟨rfl, rfl⟩))
  (fun os started H enc _ F => by rw [OpenClaim.pre_eq_preRow]; exact plays_lifted os started H enc F)
theorem plays_plain (f : FuncId) (fn : Func) (hf : Tryz.pinned.checked.prog.funcNamed "convoy/convoylaw08.ManifestPlays" = some f) (hfn : Tryz.pinned.checked.prog.funcs[f]? = some fn) :
 true = Tryz.pinned.checked.prog.looks [] ∧ ∀ (j : Nat) t, fn.params[j]? = some t → Tryz.pinned.checked.prog.wantsStandIn t = false := by
 obtain rfl : f = 6 := Option.some.inj ((show Tryz.prog.funcNamed "convoy/convoylaw08.ManifestPlays" = some 6 by kernel_rfl).symm.trans hf) |>.symm
 obtain rfl : fn = Tryz.f6 := (Option.some.inj (Tryz.func6.symm.trans hfn)).symm
 refine ⟨by kernel_rfl, fun j t ht => ?_⟩
 rw [Tryz.params6] at ht
 have hm := Array.mem_of_getElem? ht
 simp only [List.mem_toArray, List.mem_cons, List.not_mem_nil, or_false] at hm
 rcases hm with rfl
 · exact (show Tryz.prog.wantsStandIn 70 = false by kernel_rfl)
theorem plays_holds : Rows.ManifestPlaysCardSaid :=
 Claim7.holds_tied_plain_at .later [] _ _ _ _ plays_said (fun _ h => by cases h) (by kernel_rfl) (fun _ h => by cases h) manifestPlays_row_tie rfl ⟨rfl, rfl⟩ (by kernel_rfl) rfl plays_plain (by kernel_rfl)
end Go.Proofs.YtacbkganjkipdaaGreatDoor
