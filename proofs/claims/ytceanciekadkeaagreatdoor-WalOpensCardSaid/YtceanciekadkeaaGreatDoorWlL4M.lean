/- the law WalOpens -/
import Derived.Test.YtceanciekadkeaaGreatDoorMWlL4n
import Derived.Test.YtceanciekadkeaaGreatDoorCards
import Derived.Test.YtceanciekadkeaaGreatDoorTie
import Derived.OpenShut
namespace Go.Proofs.YtceanciekadkeaaGreatDoor
open Go.RowKit
theorem argR {W : World} : ∀ D ∈ [argc W, laidC], D.excl = false := fun D hD => by
  rcases List.mem_cons.1 hD with rfl | hD
  · rfl
  · rw [List.mem_singleton.1 hD]
    rfl
theorem argH {W : World} (hl : laidH W) : ∀ D ∈ [argc W, laidC], D.holds W := fun D hD => by
  rcases List.mem_cons.1 hD with rfl | hD
  · exact ⟨Nat.le_refl _, fun _ _ => rfl⟩
  · rw [List.mem_singleton.1 hD]
    exact hl
set_option maxRecDepth 20000 in
theorem opens_vals (W : World) (args : Array Value) (hl : laidH W) (hv : Vals Tryz.prog W [35, 22, 3] args.toList) :
    Calls Tryz.prog 4 args W fun e W' => e = .returned (.bool true) ∧ Below W.heap.size W W' := by
  obtain ⟨v0, r0, e0, h0, v1, r1, rfl, h1, v2, r2, rfl, h2, rfl⟩ := hv
  obtain rfl : args = #[v0, v1, v2] := Array.ext' e0
  obtain ⟨mA, mc, ms, rfl, hmr, -, hml⟩ := val_ints Tryz.underlying35 Tryz.underlying3 (by kernel_rfl) (by kernel_rfl) h0
  obtain ⟨A, c, S, rfl, hr, hq, h3, h4⟩ := val_pay h1
  obtain ⟨b, rfl, -⟩ := val_int Tryz.underlying3 h2
  exact Fn.lawR argR (argH hl) (opens_sl W mA mc ms hmr hml A c S hr hq (by omega) b)

set_option maxRecDepth 100000 in
theorem opens_lifted (os : Os) (started : os.Started) (H : Type) (enc : TypeId × Value → H) (F : Stop.Interp) :
    ReturnsInHanded {} Tryz.checked os 4 .any ((OpenSpec.ofChange Rows.walOpensSpec).preRow enc Tryz.prog Tryz.f4 Rows.walOpensRow.domain false Rows.walOpensRow.laid) (((OpenSpec.ofChange Rows.walOpensSpec).at F).post enc Tryz.prog Tryz.f4 false true false false) := by
  have hx : ∃ places, DataW.whole enc Tryz.prog ((laidWorld os).forCall (fun _ _ => 0) ⟨#[], #[.slice none 0 0, .slice none 0 0, .int .i64 0], []⟩).memory Tryz.f4.params.toList Rows.walOpensSpec.vars false (#[.slice none 0 0, .slice none 0 0, .int .i64 0] : Array Value).toList 8 = some ([.nil, .nil, .lit (.int .i64 0)], [], places) := ⟨[], by kernel_rfl⟩
  obtain ⟨places, hx⟩ := hx
  exact lift_laid (C := Tryz.checked) (s := Rows.walOpensSpec) (sp := OpenSpec.ofChange Rows.walOpensSpec) (laid := lawsLaid) #[35, 22, 3] rfl rfl own_none laid_outB started (by kernel_rfl) Tryz.func4
    (witness_row_at (enc := enc) (C := Tryz.checked) (s := OpenSpec.ofChange Rows.walOpensSpec) false (laidWorld os) #[.slice none 0 0, .slice none 0 0, .int .i64 0] rfl (by kernel_rfl) (by kernel_rfl) (by kernel_rfl)
      (OpenSpec.preRow_of_cond 8 hx (by kernel_rfl) (fun k hk => by cases hk) (by kernel_rfl) (laid_metH os _)))
    Tryz.params4 (by kernel_rfl) rfl rfl rfl Tryz.underlying4 (fun ds hl => match ds, hl with | [_, _, _], _ => rfl)
    (fun W args ds p hL hsh hv hA hk => opens_vals W args (laidH_of_row hL hsh) hv)

theorem opens_said : Rows.WalOpensSaid :=
  OpenClaim.holds_of_cond 4 Tryz.f4 rfl rfl rfl rfl rfl rfl rfl ⟨rfl, rfl, rfl, rfl, rfl⟩ rfl rfl rfl rfl rfl (by kernel_rfl) Tryz.func4 (by kernel_rfl)
    (of_decide_eq_true (by kernel_rfl)) (by unfold Func.isWrapper; first | (rw [if_pos (by decide +kernel)]; kernel_rfl) | (rw [if_neg (by decide +kernel)]; exact ⟨rfl, rfl⟩))
    (fun os started H enc _ F => by rw [OpenClaim.pre_eq_preRow]; exact opens_lifted os started H enc F)

theorem opens_plain (f : FuncId) (fn : Func) (hf : Tryz.pinned.checked.prog.funcNamed "convoy/convoylaw03.WalOpens" = some f) (hfn : Tryz.pinned.checked.prog.funcs[f]? = some fn) :
    true = Tryz.pinned.checked.prog.looks [] ∧ ∀ (j : Nat) t, fn.params[j]? = some t → Tryz.pinned.checked.prog.wantsStandIn t = false := by
  obtain rfl : f = 4 := Option.some.inj ((show Tryz.prog.funcNamed "convoy/convoylaw03.WalOpens" = some 4 by kernel_rfl).symm.trans hf) |>.symm
  obtain rfl : fn = Tryz.f4 := (Option.some.inj (Tryz.func4.symm.trans hfn)).symm
  refine ⟨by kernel_rfl, fun j t ht => ?_⟩
  rw [Tryz.params4] at ht
  have hm := Array.mem_of_getElem? ht
  simp only [List.mem_toArray, List.mem_cons, List.not_mem_nil, or_false] at hm
  rcases hm with rfl | rfl | rfl
  · exact (show Tryz.prog.wantsStandIn 35 = false by kernel_rfl)
  · exact (show Tryz.prog.wantsStandIn 22 = false by kernel_rfl)
  · exact (show Tryz.prog.wantsStandIn 3 = false by kernel_rfl)

theorem opens_holds : Rows.WalOpensCardSaid :=
  Claim7.holds_tied_plain_at .later [] _ _ _ _ opens_said (fun _ h => by cases h) (by kernel_rfl) (fun _ h => by cases h) walOpens_row_tie rfl ⟨rfl, rfl⟩ (by kernel_rfl) rfl opens_plain (by kernel_rfl)

end Go.Proofs.YtceanciekadkeaaGreatDoor
