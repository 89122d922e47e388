/- PROVED HERE: JudgeOwn: for every input the law of layer 23 answers true and its input reads as before: a history that is handed in stays, spare room too. No conditions. -/
import Derived.Test.YtegjoabfoddadaaMJdL3i
import Derived.Test.YtegjoabfoddadaaRows
import Derived.Test.YtegjoabfoddadaaChecked
namespace Go.Proofs.Ytegjoabfoddadaa
open Go.RowKit
set_option maxRecDepth 20000 in
theorem jown_vals (W : World) (args : Array Value) (hv : Vals Try.prog W [24, 25] args.toList) :
    Calls Try.prog 5 args W fun e W' => e = .returned (.bool true) ∧ Below W.heap.size W W' := by
  obtain ⟨v0, r0, e0, h0, v1, r1, rfl, h1, rfl⟩ := hv
  obtain rfl : args = #[v0, v1] := Array.ext' e0
  obtain ⟨cs, n, rfl, hc⟩ := val_celS Try.underlying24 h0
  obtain ⟨⟨w, h, sh, A, c, bl⟩, hcs, ⟨_, _, _, hr, _, hl⟩⟩ := cel_mapa _ _ hc
  obtain rfl : cs = (mapV ⟨w, h, sh, bl⟩ A c).toArray := by
    apply Array.ext'
    exact hcs
  obtain ⟨EA, ec, l, rfl, he, hx, _, _⟩ := val_list (Q := fun W x => EvS.At W x) Try.underlying25 (show Try.prog.cellsOf 47 = 12 by kernel_rfl) (by decide) EvS.enc_len cel_ev h1
  exact Fn.law (jown_sl W ⟨w, h, sh, bl⟩ A c hl hr EA ec l he hx)

set_option maxRecDepth 100000 in
theorem jown_lifted (os : Os) (started : os.Started) (H : Type) (enc : TypeId × Value → H) :
    ReturnsInHanded {} Try.checked os 5 .any (Rows.judgeOwnSpec.pre6 enc Try.prog Try.f5 Rows.judgeOwnRow.domain false) (Rows.judgeOwnSpec.post enc Try.prog Try.f5 false true false false) :=
  lift_law (C := Try.checked) #[24, 25] (by kernel_rfl) (by kernel_rfl) started (by kernel_rfl) Try.func5
    (ChangeSpec.witness6 (enc := enc) (C := Try.checked) false ⟨#[], #[.agg #[.int .i64 0, .int .i64 0, .int .i64 0, .slice none 0 0], .slice none 0 0], []⟩ 8 (by kernel_rfl) (by kernel_rfl) (by kernel_rfl) (by kernel_rfl))
    Try.params5 (by kernel_rfl) rfl rfl Try.underlying4 (fun ds hl => match ds, hl with | [_, _], _ => rfl) (fun W args hv => jown_vals W args hv)

theorem jown_holds : Rows.JudgeOwnSaid :=
  OpenClaim.holds_of_wide 5 Try.f5 rfl rfl rfl rfl rfl rfl rfl ⟨rfl, rfl, rfl, rfl, rfl⟩ rfl rfl rfl rfl rfl (by kernel_rfl) Try.func5 (by kernel_rfl)
    (of_decide_eq_true (by kernel_rfl)) (by unfold Func.isWrapper; rw [if_neg (of_decide_eq_false (by kernel_rfl))]; exact ⟨rfl, rfl⟩)
    (fun os started H enc _ => jown_lifted os started H enc)
end Go.Proofs.Ytegjoabfoddadaa
