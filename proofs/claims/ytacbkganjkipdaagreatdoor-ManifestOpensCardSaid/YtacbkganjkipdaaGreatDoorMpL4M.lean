import Derived.Test.YtacbkganjkipdaaGreatDoorMMpL4m
import Derived.Test.YtacbkganjkipdaaGreatDoorMMpL4q
import Derived.Test.YtacbkganjkipdaaGreatDoorMMpL4r
import Derived.Test.YtacbkganjkipdaaGreatDoorCards
import Derived.Test.YtacbkganjkipdaaGreatDoorTie
import Derived.OpenShut
namespace Go.Proofs.YtacbkganjkipdaaGreatDoor
open Go.RowKit
set_option maxRecDepth 20000 in
theorem opens_vals (W : World) (args : Array Value) (hl : laidH W) (hv : Vals Tryz.prog W [47, 48, 27] args.toList) :
 Calls Tryz.prog 5 args W fun e W' => e = .returned (.bool true) ∧ Below W.heap.size W W' := by
 obtain ⟨v0, r0, e0, h0, v1, r1, rfl, h1, v2, r2, rfl, h2, rfl⟩ := hv
 obtain rfl : args = #[v0, v1, v2] := Array.ext' e0
 obtain ⟨A, n, c, l, rfl, hL, hn1, hn2⟩ := val_bytes h0
 obtain rfl : l.length = n := hL.len_
 obtain ⟨lA, lc, S, rfl, hr, hq, h3, h4⟩ := val_pay h1
 obtain ⟨e, B, b, D, d, rfl, he⟩ := val_edit h2
 exact Fn.lawR (H := [rdT B e.add, rd D e.drop.length 1 (ints e.drop), argc W, laidC]) (fun C hC => by
  simp only [List.mem_cons, List.not_mem_nil, or_false] at hC
  rcases hC with rfl | rfl | rfl | rfl <;> rfl) (fun C hC => by
  simp only [List.mem_cons, List.not_mem_nil, or_false] at hC
  rcases hC with rfl | rfl | rfl | rfl
  · exact he.add
  · exact he.drp
  · exact ⟨Nat.le_refl _, fun _ _ => rfl⟩
  · exact hl) (opens_sl W A c l hL lA lc S hr hq e B b D d he)
set_option maxRecDepth 100000 in
theorem opens_lifted (os : Os) (started : os.Started) (H : Type) (enc : TypeId × Value → H) (F : Stop.Interp) :
 ReturnsInHanded {} Tryz.checked os 5 .any ((OpenSpec.ofChange Rows.manifestOpensSpec).preRow enc Tryz.prog Tryz.f5 Rows.manifestOpensRow.domain false Rows.manifestOpensRow.laid) (((OpenSpec.ofChange Rows.manifestOpensSpec).at F).post enc Tryz.prog Tryz.f5 false true false false) := by
 have hx : ∃ places, DataW.whole enc Tryz.prog ((laidWorld os).forCall (fun _ _ => 0) ⟨#[], #[.slice none 0 0, .slice none 0 0, .agg #[.slice none 0 0, .slice none 0 0, .int .i64 0, .int .i64 0, .int .i64 0]], []⟩).memory Tryz.f5.params.toList Rows.manifestOpensSpec.vars false (#[.slice none 0 0, .slice none 0 0, .agg #[.slice none 0 0, .slice none 0 0, .int .i64 0, .int .i64 0, .int .i64 0]] : Array Value).toList 8 = some ([.nil, .nil, .agg [.nil, .nil, .lit (.int .i64 0), .lit (.int .i64 0), .lit (.int .i64 0)]], [], places) := ⟨[], by kernel_rfl⟩
 obtain ⟨places, hx⟩ := hx
 exact lift_laid (C := Tryz.checked) (s := Rows.manifestOpensSpec) (sp := OpenSpec.ofChange Rows.manifestOpensSpec) (laid := lawsLaid) #[47, 48, 27] rfl rfl own_none laid_outB started (by kernel_rfl) Tryz.func5
  (witness_row_at (enc := enc) (C := Tryz.checked) (s := OpenSpec.ofChange Rows.manifestOpensSpec) false (laidWorld os) #[.slice none 0 0, .slice none 0 0, .agg #[.slice none 0 0, .slice none 0 0, .int .i64 0, .int .i64 0, .int .i64 0]] rfl (by kernel_rfl) (by kernel_rfl) (by kernel_rfl)
   (OpenSpec.preRow_of_cond 8 hx (by kernel_rfl) (fun k hk => by cases hk) (by kernel_rfl) (laid_metH os _)))
  Tryz.params5 (by kernel_rfl) rfl rfl rfl Tryz.underlying4 (fun ds hl => match ds, hl with | [_, _, _], _ => rfl)
  (fun W args ds p hL hsh hv hA hk => opens_vals W args (laidH_of_row hL hsh) hv)
theorem opens_said : Rows.ManifestOpensSaid :=
 OpenClaim.holds_of_cond 5 Tryz.f5 rfl rfl rfl rfl rfl rfl rfl ⟨rfl, rfl, rfl, rfl, rfl⟩ rfl rfl rfl rfl rfl (by kernel_rfl) Tryz.func5 (by kernel_rfl)
  (of_decide_eq_true (by kernel_rfl)) (by unfold Func.isWrapper; first | (rw [if_pos (by decide +kernel)]; kernel_rfl) | (rw [if_neg (by decide +kernel)]; exact ⟨rfl, rfl⟩))
  (fun os started H enc _ F => by rw [OpenClaim.pre_eq_preRow]; exact opens_lifted os started H enc F)
theorem opens_plain (f : FuncId) (fn : Func) (hf : Tryz.pinned.checked.prog.funcNamed "convoy/convoylaw08.ManifestOpens" = some f) (hfn : Tryz.pinned.checked.prog.funcs[f]? = some fn) :
 true = Tryz.pinned.checked.prog.looks [] ∧ ∀ (j : Nat) t, fn.params[j]? = some t → Tryz.pinned.checked.prog.wantsStandIn t = false := by
 obtain rfl : f = 5 := Option.some.inj ((show Tryz.prog.funcNamed "convoy/convoylaw08.ManifestOpens" = some 5 by kernel_rfl).symm.trans hf) |>.symm
 obtain rfl : fn = Tryz.f5 := (Option.some.inj (Tryz.func5.symm.trans hfn)).symm
 refine ⟨by kernel_rfl, fun j t ht => ?_⟩
 rw [Tryz.params5] at ht
 have hm := Array.mem_of_getElem? ht
 simp only [List.mem_toArray, List.mem_cons, List.not_mem_nil, or_false] at hm
 rcases hm with rfl | rfl | rfl
 · exact (show Tryz.prog.wantsStandIn 47 = false by kernel_rfl)
 · exact (show Tryz.prog.wantsStandIn 48 = false by kernel_rfl)
 · exact (show Tryz.prog.wantsStandIn 27 = false by kernel_rfl)
theorem opens_holds : Rows.ManifestOpensCardSaid :=
 Claim7.holds_tied_plain_at .later [] _ _ _ _ opens_said (fun _ h => by cases h) (by kernel_rfl) (fun _ h => by cases h) manifestOpens_row_tie rfl ⟨rfl, rfl⟩ (by kernel_rfl) rfl opens_plain (by kernel_rfl)
end Go.Proofs.YtacbkganjkipdaaGreatDoor
