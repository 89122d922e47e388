/- PROVED HERE: JudgeTells: for every input the law of layer 23 answers true and its input reads as before: of any history the first event that breaks a rule, and the first rule that it breaks, are told. No conditions. -/
import Derived.Test.YtegjoabfoddadaaMJdL1l
import Derived.Test.YtegjoabfoddadaaRows
import Derived.Test.YtegjoabfoddadaaChecked
namespace Go.Proofs.Ytegjoabfoddadaa
open Go.RowKit
set_option maxRecDepth 20000 in
theorem tells_vals (W : World) (args : Array Value) (hv : Vals Try.prog W [24, 25] args.toList) :
    Calls Try.prog 3 args W fun e W' => e = .returned (.bool true) ∧ Below W.heap.size W W' := by
  obtain ⟨v0, r0, e0, h0, v1, r1, rfl, h1, rfl⟩ := hv
  obtain rfl : args = #[v0, v1] := Array.ext' e0
  obtain ⟨cs, n, rfl, hc⟩ := val_celS Try.underlying24 h0
  obtain ⟨⟨w, h, sh, A, c, bl⟩, hcs, ⟨_, _, _, hr, _, hl⟩⟩ := cel_mapa _ _ hc
  obtain rfl : cs = (mapV ⟨w, h, sh, bl⟩ A c).toArray := by
    apply Array.ext'
    exact hcs
  obtain ⟨EA, ec, l, rfl, he, hx, _, _⟩ := val_list (Q := fun W x => EvS.At W x) Try.underlying25 (show Try.prog.cellsOf 47 = 12 by kernel_rfl) (by decide) EvS.enc_len cel_ev h1
  exact Fn.law (tells_sl W ⟨w, h, sh, bl⟩ A c hl hr EA ec l he hx)

set_option maxRecDepth 100000 in
theorem tells_lifted (os : Os) (started : os.Started) (H : Type) (enc : TypeId × Value → H) :
    ReturnsInHanded {} Try.checked os 3 .any (Rows.judgeTellsSpec.pre6 enc Try.prog Try.f3 Rows.judgeTellsRow.domain false) (Rows.judgeTellsSpec.post enc Try.prog Try.f3 false true false false) :=
  lift_law (C := Try.checked) #[24, 25] (by kernel_rfl) (by kernel_rfl) started (by kernel_rfl) Try.func3
    (ChangeSpec.witness6 (enc := enc) (C := Try.checked) false ⟨#[], #[.agg #[.int .i64 0, .int .i64 0, .int .i64 0, .slice none 0 0], .slice none 0 0], []⟩ 8 (by kernel_rfl) (by kernel_rfl) (by kernel_rfl) (by kernel_rfl))
    Try.params3 (by kernel_rfl) rfl rfl Try.underlying4 (fun ds hl => match ds, hl with | [_, _], _ => rfl) (fun W args hv => tells_vals W args hv)

theorem tells_holds : Rows.JudgeTellsSaid :=
  OpenClaim.holds_of_wide 3 Try.f3 rfl rfl rfl rfl rfl rfl rfl ⟨rfl, rfl, rfl, rfl, rfl⟩ rfl rfl rfl rfl rfl (by kernel_rfl) Try.func3 (by kernel_rfl)
    (of_decide_eq_true (by kernel_rfl)) (by unfold Func.isWrapper; rw [if_neg (of_decide_eq_false (by kernel_rfl))]; exact ⟨rfl, rfl⟩)
    (fun os started H enc _ => tells_lifted os started H enc)
end Go.Proofs.Ytegjoabfoddadaa
