/- PROVED HERE: JudgeBeginnings: for every input the law of layer 23 answers true and its input reads as before: what stands behind the first event that breaks a rule changes no verdict. No conditions. -/
import Derived.Test.YtegjoabfoddadaaMJdL2i
import Derived.Test.YtegjoabfoddadaaRows
import Derived.Test.YtegjoabfoddadaaChecked
namespace Go.Proofs.Ytegjoabfoddadaa
open Go.RowKit
set_option maxRecDepth 20000 in
theorem begins_vals (W : World) (args : Array Value) (hv : Vals Try.prog W [24, 25, 25] args.toList) :
    Calls Try.prog 4 args W fun e W' => e = .returned (.bool true) ∧ Below W.heap.size W W' := by
  obtain ⟨v0, r0, e0, h0, v1, r1, rfl, h1, v2, r2, rfl, h2, rfl⟩ := hv
  obtain rfl : args = #[v0, v1, v2] := Array.ext' e0
  obtain ⟨cs, n, rfl, hc⟩ := val_celS Try.underlying24 h0
  obtain ⟨⟨w, h, sh, A, c, bl⟩, hcs, ⟨_, _, _, hr, _, hl⟩⟩ := cel_mapa _ _ hc
  obtain rfl : cs = (mapV ⟨w, h, sh, bl⟩ A c).toArray := by
    apply Array.ext'
    exact hcs
  obtain ⟨EA, ec, l, rfl, he, hx, _, _⟩ := val_list (Q := fun W x => EvS.At W x) Try.underlying25 (show Try.prog.cellsOf 47 = 12 by kernel_rfl) (by decide) EvS.enc_len cel_ev h1
  obtain ⟨FA, fc, r, rfl, hf, hy, _, _⟩ := val_list (Q := fun W x => EvS.At W x) Try.underlying25 (show Try.prog.cellsOf 47 = 12 by kernel_rfl) (by decide) EvS.enc_len cel_ev h2
  exact Fn.law (begins_sl W ⟨w, h, sh, bl⟩ A c hl hr EA ec l he hx FA fc r hf hy)

set_option maxRecDepth 100000 in
theorem begins_lifted (os : Os) (started : os.Started) (H : Type) (enc : TypeId × Value → H) :
    ReturnsInHanded {} Try.checked os 4 .any (Rows.judgeBeginningsSpec.pre6 enc Try.prog Try.f4 Rows.judgeBeginningsRow.domain false) (Rows.judgeBeginningsSpec.post enc Try.prog Try.f4 false true false false) :=
  lift_law (C := Try.checked) #[24, 25, 25] (by kernel_rfl) (by kernel_rfl) started (by kernel_rfl) Try.func4
    (ChangeSpec.witness6 (enc := enc) (C := Try.checked) false ⟨#[], #[.agg #[.int .i64 0, .int .i64 0, .int .i64 0, .slice none 0 0], .slice none 0 0, .slice none 0 0], []⟩ 8 (by kernel_rfl) (by kernel_rfl) (by kernel_rfl) (by kernel_rfl))
    Try.params4 (by kernel_rfl) rfl rfl Try.underlying4 (fun ds hl => match ds, hl with | [_, _, _], _ => rfl) (fun W args hv => begins_vals W args hv)

theorem begins_holds : Rows.JudgeBeginningsSaid :=
  OpenClaim.holds_of_wide 4 Try.f4 rfl rfl rfl rfl rfl rfl rfl ⟨rfl, rfl, rfl, rfl, rfl⟩ rfl rfl rfl rfl rfl (by kernel_rfl) Try.func4 (by kernel_rfl)
    (of_decide_eq_true (by kernel_rfl)) (by unfold Func.isWrapper; rw [if_neg (of_decide_eq_false (by kernel_rfl))]; exact ⟨rfl, rfl⟩)
    (fun os started H enc _ => begins_lifted os started H enc)
end Go.Proofs.Ytegjoabfoddadaa
