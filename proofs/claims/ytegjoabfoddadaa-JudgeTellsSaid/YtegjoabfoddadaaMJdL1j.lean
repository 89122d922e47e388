/-
  Texts joined: DcB, DcC, DcD, DcE, DcF, DcG, DcH, DcI.
-/
import Derived.Test.YtegjoabfoddadaaMJdL1h
import Derived.Test.YtegjoabfoddadaaMJdL1i
/- the document over pieces: neighbours, maps, routes -/
namespace Go.Proofs.Ytegjoabfoddadaa
open Go.RowKit
section
variable (m : MapP) (hw : Dims m) (A : Option Addr) (c : Nat)
include hw
theorem dBeside_sl (a b : Int) : Fn Try.prog 54 #[.agg (mapV m A c).toArray, .int .i64 a, .int .i64 b] [] Unit (fun _ => .bool (besideM m a b)) (fun _ => []) (fun _ => True) := by
  have hA := dIs_sl m hw A c a
  have hB := dIs_sl m hw A c b
  obtain ⟨w, h, sh, bl⟩ := m
  obtain ⟨d1, d2, d3, d4, d5, d6⟩ := hw
  dsimp only [mapV] at *
  refine Fn.enter Try.func54 rfl Try.ntmps54 (by rfl) ?_
  intro w0
  refine Cd.seq ?_
  refine Cd.region ?_
  refine Ls.does (some 3) (Does.box (show Oper.op _ = Op.box 24 (Operand.tmp 0) from rfl) (by rfl)) (by rfl) (by rfl) ?_
  intro g1 _
  refine Ls.ev (some 6) (Ev.assign (show Oper.op _ = Op.assign (Operand.const (Value.bool false)) from rfl) (by rfl)) (by rfl) (by rfl) ?_
  refine Ls.nil ?_
  refine Cd.seq ?_
  refine Cd.seq ?_
  refine Cd.region ?_
  refine Ls.ev (some 9) (Ev.loads 0 (show Oper.op _ = Op.load 24 (Operand.tmp 3) from rfl) (by rfl) (by rfl) (n := 4) (by kernel_rfl) (by rfl) (by rfl)) (by rfl) (by rfl) ?_
  refine Ls.ev (some 10) (Ev.move (show Oper.op _ = Op.move (Operand.tmp 1) from rfl) (by rfl)) (by rfl) (by rfl) ?_
  refine Ls.does (some 11) (Does.read (show Oper.op _ = Op.call { callee := Callee.value (Operand.func 17), args := #[Operand.tmp 9, Operand.tmp 10], argTypes := #[24, 3] } from rfl) Try.func17 (by kernel_rfl) (by kernel_rfl) (hA) (by rfl) (by rfl) trivial) (by rfl) (by rfl) ?_
  rintro _ -
  refine Ls.ev (some 12) (Ev.not (show Oper.op _ = Op.unOp UnOp.not 4 (Operand.tmp 11) from rfl) (by rfl)) (by rfl) (by rfl) ?_
  refine Ls.ev (some 13) (Ev.move (show Oper.op _ = Op.move (Operand.tmp 12) from rfl) (by rfl)) (by rfl) (by rfl) ?_
  refine Ent.split 13 (by rfl) (fun h1 => ?_) (fun h1 => ?_)
  · skip
    have h1 : isM ⟨w, h, sh, bl⟩ a = true := by simpa using h1
    refine Ls.ev (some 14) (Ev.loads 0 (show Oper.op _ = Op.load 24 (Operand.tmp 3) from rfl) (by rfl) (by rfl) (n := 4) (by kernel_rfl) (by rfl) (by rfl)) (by rfl) (by rfl) ?_
    refine Ls.ev (some 15) (Ev.move (show Oper.op _ = Op.move (Operand.tmp 2) from rfl) (by rfl)) (by rfl) (by rfl) ?_
    refine Ls.does (some 16) (Does.read (show Oper.op _ = Op.call { callee := Callee.value (Operand.func 17), args := #[Operand.tmp 14, Operand.tmp 15], argTypes := #[24, 3] } from rfl) Try.func17 (by kernel_rfl) (by kernel_rfl) (hB) (by rfl) (by rfl) trivial) (by rfl) (by rfl) ?_
    rintro _ -
    refine Ls.ev (some 17) (Ev.not (show Oper.op _ = Op.unOp UnOp.not 4 (Operand.tmp 16) from rfl) (by rfl)) (by rfl) (by rfl) ?_
    refine Ls.ev (some 18) (Ev.pickF (show Oper.op _ = Op.pick (Operand.tmp 13) (Operand.const (Value.bool true)) (Operand.tmp 17) from rfl) (by rfl) (by rfl)) (by rfl) (by rfl) ?_
    refine Ls.nil ?_
    refine Cd.cond _ (by rfl) (fun h2 => ?_) (fun h2 => ?_)
    · skip
      have h2 : isM ⟨w, h, sh, bl⟩ b = false := by simpa using h2
      refine Cd.seq ?_
      refine Cd.region ?_
      refine Ls.ev (some 6) (Ev.assign (show Oper.op _ = Op.assign (Operand.const (Value.bool false)) from rfl) (by rfl)) (by rfl) (by rfl) ?_
      refine Ls.nil ?_
      refine Cd.ret ?_
      refine Ent.ret (()) (trivial) (Res.tmp (by rfl) (by rfl)) ?_ [] (by rfl) ?_
      · unfold besideM; rw [h2, Bool.and_false, Bool.false_and]
      · rfl
    · skip
      have h2 : isM ⟨w, h, sh, bl⟩ b = true := by simpa using h2
      have ba := div_bd (w := w) (h := h) ⟨d2, d3⟩ ⟨d4, d5⟩ (isM_iff.1 h1)
      have bb := div_bd (w := w) (h := h) ⟨d2, d3⟩ ⟨d4, d5⟩ (isM_iff.1 h2)
      have ia := (isM_iff.1 h1)
      have ib := (isM_iff.1 h2)
      dsimp only at ia ib
      refine Cd.skip ?_
      refine Cd.seq ?_
      refine Cd.draw [] (by kernel_rfl) ?_
      refine Rg.ev 0 (by rfl) (fun _ h => h) (Ev.move (show Oper.op _ = Op.move (Operand.tmp 1) from rfl) (by rfl)) (by rfl) (some 19) (by rfl) (by kernel_rfl) (by kernel_rfl) (by kernel_rfl) (by kernel_rfl) ?_
      refine Rg.ev 1 (by rfl) (fun _ h => h) (Ev.fieldAddr (k := 0) (show Oper.op _ = Op.fieldAddr 24 (Operand.tmp 3) 0 from rfl) (by rfl) (by kernel_rfl) (by rfl)) (by rfl) (some 20) (by rfl) (by kernel_rfl) (by kernel_rfl) (by kernel_rfl) (by kernel_rfl) ?_
      refine Rg.ev 2 (by rfl) (fun _ h => h) (Ev.load 0 (show Oper.op _ = Op.load 3 (Operand.tmp 20) from rfl) (by rfl) (by rfl) (by kernel_rfl) (by rfl)) (by rfl) (some 21) (by rfl) (by kernel_rfl) (by kernel_rfl) (by kernel_rfl) (by kernel_rfl) ?_
      refine Rg.ev 3 (by rfl) (fun _ h => h) (Ev.remI (show Oper.op _ = Op.binOp BinOp.rem 3 (Operand.tmp 19) (Operand.tmp 21) 3 from rfl) (by rfl) (by rfl) (by omega)) (by rfl) (some 22) (by rfl) (by kernel_rfl) (by kernel_rfl) (by kernel_rfl) (by kernel_rfl) ?_
      refine Rg.ev 4 (by rfl) (fun _ h => h) (Ev.move (show Oper.op _ = Op.move (Operand.tmp 2) from rfl) (by rfl)) (by rfl) (some 23) (by rfl) (by kernel_rfl) (by kernel_rfl) (by kernel_rfl) (by kernel_rfl) ?_
      refine Rg.ev 5 (by rfl) (fun _ h => h) (Ev.fieldAddr (k := 0) (show Oper.op _ = Op.fieldAddr 24 (Operand.tmp 3) 0 from rfl) (by rfl) (by kernel_rfl) (by rfl)) (by rfl) (some 24) (by rfl) (by kernel_rfl) (by kernel_rfl) (by kernel_rfl) (by kernel_rfl) ?_
      refine Rg.ev 6 (by rfl) (fun _ h => h) (Ev.load 0 (show Oper.op _ = Op.load 3 (Operand.tmp 24) from rfl) (by rfl) (by rfl) (by kernel_rfl) (by rfl)) (by rfl) (some 25) (by rfl) (by kernel_rfl) (by kernel_rfl) (by kernel_rfl) (by kernel_rfl) ?_
      refine Rg.ev 7 (by rfl) (fun _ h => h) (Ev.remI (show Oper.op _ = Op.binOp BinOp.rem 3 (Operand.tmp 23) (Operand.tmp 25) 3 from rfl) (by rfl) (by rfl) (by omega)) (by rfl) (some 26) (by rfl) (by kernel_rfl) (by kernel_rfl) (by kernel_rfl) (by kernel_rfl) ?_
      refine Rg.ev 8 (by rfl) (fun _ h => h) (Ev.subI (show Oper.op _ = Op.binOp BinOp.sub 3 (Operand.tmp 22) (Operand.tmp 26) 3 from rfl) (by rfl) (by rfl) (by omega)) (by rfl) (some 27) (by rfl) (by kernel_rfl) (by kernel_rfl) (by kernel_rfl) (by kernel_rfl) ?_
      refine Rg.ev 9 (by rfl) (fun _ h => h) (Ev.move (show Oper.op _ = Op.move (Operand.tmp 1) from rfl) (by rfl)) (by rfl) (some 28) (by rfl) (by kernel_rfl) (by kernel_rfl) (by kernel_rfl) (by kernel_rfl) ?_
      refine Rg.ev 10 (by rfl) (fun _ h => h) (Ev.fieldAddr (k := 0) (show Oper.op _ = Op.fieldAddr 24 (Operand.tmp 3) 0 from rfl) (by rfl) (by kernel_rfl) (by rfl)) (by rfl) (some 29) (by rfl) (by kernel_rfl) (by kernel_rfl) (by kernel_rfl) (by kernel_rfl) ?_
      refine Rg.ev 11 (by rfl) (fun _ h => h) (Ev.load 0 (show Oper.op _ = Op.load 3 (Operand.tmp 29) from rfl) (by rfl) (by rfl) (by kernel_rfl) (by rfl)) (by rfl) (some 30) (by rfl) (by kernel_rfl) (by kernel_rfl) (by kernel_rfl) (by kernel_rfl) ?_
      refine Rg.ev 12 (by rfl) (fun _ h => h) (Ev.quoI (show Oper.op _ = Op.binOp BinOp.quo 3 (Operand.tmp 28) (Operand.tmp 30) 3 from rfl) (by rfl) (by rfl) (by omega)) (by rfl) (some 31) (by rfl) (by kernel_rfl) (by kernel_rfl) (by kernel_rfl) (by kernel_rfl) ?_
      refine Rg.ev 13 (by rfl) (fun _ h => h) (Ev.move (show Oper.op _ = Op.move (Operand.tmp 2) from rfl) (by rfl)) (by rfl) (some 32) (by rfl) (by kernel_rfl) (by kernel_rfl) (by kernel_rfl) (by kernel_rfl) ?_
      refine Rg.ev 14 (by rfl) (fun _ h => h) (Ev.fieldAddr (k := 0) (show Oper.op _ = Op.fieldAddr 24 (Operand.tmp 3) 0 from rfl) (by rfl) (by kernel_rfl) (by rfl)) (by rfl) (some 33) (by rfl) (by kernel_rfl) (by kernel_rfl) (by kernel_rfl) (by kernel_rfl) ?_
      refine Rg.ev 15 (by rfl) (fun _ h => h) (Ev.load 0 (show Oper.op _ = Op.load 3 (Operand.tmp 33) from rfl) (by rfl) (by rfl) (by kernel_rfl) (by rfl)) (by rfl) (some 34) (by rfl) (by kernel_rfl) (by kernel_rfl) (by kernel_rfl) (by kernel_rfl) ?_
      refine Rg.ev 16 (by rfl) (fun _ h => h) (Ev.quoI (show Oper.op _ = Op.binOp BinOp.quo 3 (Operand.tmp 32) (Operand.tmp 34) 3 from rfl) (by rfl) (by rfl) (by omega)) (by rfl) (some 35) (by rfl) (by kernel_rfl) (by kernel_rfl) (by kernel_rfl) (by kernel_rfl) ?_
      refine Rg.ev 17 (by rfl) (fun _ h => h) (Ev.subI (show Oper.op _ = Op.binOp BinOp.sub 3 (Operand.tmp 31) (Operand.tmp 35) 3 from rfl) (by rfl) (by rfl) (by omega)) (by rfl) (some 36) (by rfl) (by kernel_rfl) (by kernel_rfl) (by kernel_rfl) (by kernel_rfl) ?_
      refine Rg.ev 18 (by rfl) (fun _ h => h) (Ev.assign (show Oper.op _ = Op.assign (Operand.tmp 27) from rfl) (by rfl)) (by rfl) (some 7) (by rfl) (by kernel_rfl) (by kernel_rfl) (by kernel_rfl) (by kernel_rfl) ?_
      refine Rg.ev 19 (by rfl) (fun _ h => h) (Ev.assign (show Oper.op _ = Op.assign (Operand.tmp 36) from rfl) (by rfl)) (by rfl) (some 8) (by rfl) (by kernel_rfl) (by kernel_rfl) (by kernel_rfl) (by kernel_rfl) ?_
      refine Rg.done (by kernel_rfl) ?_ _
      refine Cd.seq ?_
      have hR : besideM ⟨w, h, sh, bl⟩ a b = decide ((a % w - b % w = 0 ∧ (a / w - b / w = 1 ∨ a / w - b / w = -1)) ∨ (a / w - b / w = 0 ∧ (a % w - b % w = 1 ∨ a % w - b % w = -1))) := by
        unfold besideM; rw [h1, h2, Bool.true_and, Bool.true_and]; rfl
      rw [hR]
      refine Cd.cut (ι := Unit) (fun _ => [(6, .bool (decide ((a % w - b % w = 0 ∧ (a / w - b / w = 1 ∨ a / w - b / w = -1)) ∨ (a / w - b / w = 0 ∧ (a % w - b % w = 1 ∨ a % w - b % w = -1)))))]) (fun _ => []) (fun _ => True) ?_ ?_
      · skip
        refine Cd.region ?_
        refine Ls.ev (some 37) (Ev.move (show Oper.op _ = Op.move (Operand.tmp 7) from rfl) (by rfl)) (by rfl) (by rfl) ?_
        refine Ls.ev (some 38) (Ev.eql (show Oper.op _ = Op.binOp BinOp.eql 3 (Operand.tmp 37) (Operand.const (Value.int IntKind.i64 0)) 3 from rfl) (by rfl) (by rfl)) (by rfl) (by rfl) ?_
        refine Ls.ev (some 39) (Ev.move (show Oper.op _ = Op.move (Operand.tmp 38) from rfl) (by rfl)) (by rfl) (by rfl) ?_
        refine Ent.split 39 (by rfl) (fun hT1 => ?_) (fun hT1 => ?_)
        · first | have hT1 := of_decide_eq_false hT1 | have hT1 := of_not_decide_false hT1 | skip
          refine Ls.pass (some 40) (by rfl) (by rfl) ?_
          refine Ls.pass (some 41) (by rfl) (by rfl) ?_
          refine Ls.pass (some 42) (by rfl) (by rfl) ?_
          refine Ls.pass (some 43) (by rfl) (by rfl) ?_
          refine Ls.pass (some 44) (by rfl) (by rfl) ?_
          refine Ls.pass (some 45) (by rfl) (by rfl) ?_
          refine Ls.ev (some 46) (Ev.pickF (show Oper.op _ = Op.pick (Operand.tmp 39) (Operand.tmp 45) (Operand.const (Value.bool false)) from rfl) (by rfl) (by rfl)) (by rfl) (by rfl) ?_
          refine Ls.ev (some 47) (Ev.move (show Oper.op _ = Op.move (Operand.tmp 46) from rfl) (by rfl)) (by rfl) (by rfl) ?_
          refine Ls.ev (some 48) (Ev.move (show Oper.op _ = Op.move (Operand.tmp 8) from rfl) (by rfl)) (by rfl) (by rfl) ?_
          refine Ls.ev (some 49) (Ev.eql (show Oper.op _ = Op.binOp BinOp.eql 3 (Operand.tmp 48) (Operand.const (Value.int IntKind.i64 0)) 3 from rfl) (by rfl) (by rfl)) (by rfl) (by rfl) ?_
          refine Ls.ev (some 50) (Ev.move (show Oper.op _ = Op.move (Operand.tmp 49) from rfl) (by rfl)) (by rfl) (by rfl) ?_
          refine Ent.split 50 (by rfl) (fun hT2 => ?_) (fun hT2 => ?_)
          · first | have hT2 := of_decide_eq_false hT2 | have hT2 := of_not_decide_false hT2 | skip
            refine Ls.pass (some 51) (by rfl) (by rfl) ?_
            refine Ls.pass (some 52) (by rfl) (by rfl) ?_
            refine Ls.pass (some 53) (by rfl) (by rfl) ?_
            refine Ls.pass (some 54) (by rfl) (by rfl) ?_
            refine Ls.pass (some 55) (by rfl) (by rfl) ?_
            refine Ls.pass (some 56) (by rfl) (by rfl) ?_
            refine Ls.ev (some 57) (Ev.pickF (show Oper.op _ = Op.pick (Operand.tmp 50) (Operand.tmp 56) (Operand.const (Value.bool false)) from rfl) (by rfl) (by rfl)) (by rfl) (by rfl) ?_
            refine Ls.ev (some 58) (Ev.pickF (show Oper.op _ = Op.pick (Operand.tmp 47) (Operand.const (Value.bool true)) (Operand.tmp 57) from rfl) (by rfl) (by rfl)) (by rfl) (by rfl) ?_
            refine Ls.ev (some 6) (Ev.assign (show Oper.op _ = Op.assign (Operand.tmp 58) from rfl) (by rfl)) (by rfl) (by rfl) ?_
            refine Ls.nil ?_
            refine Ent.pick [] (by rfl) ?_
            refine Ent.inv () ?_ ?_ ?_
            · exact trivial
            · (repeat (first | exact trivial | refine ⟨by rfl, ?_⟩ | refine ⟨by simp only [List.length_append, List.length_cons, List.length_nil]; rfl, ?_⟩ | refine ⟨by push_cast; rfl, ?_⟩ | refine ⟨by (show some (Value.bool _) = some (Value.bool _); congr 2; (first | exact (decide_eq_false (by omega)).symm | exact (decide_eq_true (by omega)).symm | exact decide_eq_decide.2 (by omega))), ?_⟩))
            · rfl
          · first | have hT2 := of_decide_eq_true hT2 | have hT2 := of_not_decide_true hT2 | skip
            refine Ls.ev (some 51) (Ev.move (show Oper.op _ = Op.move (Operand.tmp 7) from rfl) (by rfl)) (by rfl) (by rfl) ?_
            refine Ls.ev (some 52) (Ev.eql (show Oper.op _ = Op.binOp BinOp.eql 3 (Operand.tmp 51) (Operand.const (Value.int IntKind.i64 1)) 3 from rfl) (by rfl) (by rfl)) (by rfl) (by rfl) ?_
            refine Ls.ev (some 53) (Ev.move (show Oper.op _ = Op.move (Operand.tmp 52) from rfl) (by rfl)) (by rfl) (by rfl) ?_
            refine Ent.split 53 (by rfl) (fun hT3 => ?_) (fun hT3 => ?_)
            · first | have hT3 := of_decide_eq_false hT3 | have hT3 := of_not_decide_false hT3 | skip
              refine Ls.ev (some 54) (Ev.move (show Oper.op _ = Op.move (Operand.tmp 7) from rfl) (by rfl)) (by rfl) (by rfl) ?_
              refine Ls.ev (some 55) (Ev.eql (show Oper.op _ = Op.binOp BinOp.eql 3 (Operand.tmp 54) (Operand.const (Value.int IntKind.i64 (-1))) 3 from rfl) (by rfl) (by rfl)) (by rfl) (by rfl) ?_
              refine Ls.ev (some 56) (Ev.pickF (show Oper.op _ = Op.pick (Operand.tmp 53) (Operand.const (Value.bool true)) (Operand.tmp 55) from rfl) (by rfl) (by rfl)) (by rfl) (by rfl) ?_
              refine Ls.ev (some 57) (Ev.pickT (show Oper.op _ = Op.pick (Operand.tmp 50) (Operand.tmp 56) (Operand.const (Value.bool false)) from rfl) (by rfl) (by rfl)) (by rfl) (by rfl) ?_
              refine Ls.ev (some 58) (Ev.pickF (show Oper.op _ = Op.pick (Operand.tmp 47) (Operand.const (Value.bool true)) (Operand.tmp 57) from rfl) (by rfl) (by rfl)) (by rfl) (by rfl) ?_
              refine Ls.ev (some 6) (Ev.assign (show Oper.op _ = Op.assign (Operand.tmp 58) from rfl) (by rfl)) (by rfl) (by rfl) ?_
              refine Ls.nil ?_
              refine Ent.pick [] (by rfl) ?_
              refine Ent.inv () ?_ ?_ ?_
              · exact trivial
              · (repeat (first | exact trivial | refine ⟨by rfl, ?_⟩ | refine ⟨by simp only [List.length_append, List.length_cons, List.length_nil]; rfl, ?_⟩ | refine ⟨by push_cast; rfl, ?_⟩ | refine ⟨by (show some (Value.bool _) = some (Value.bool _); congr 2; (first | exact (decide_eq_false (by omega)).symm | exact (decide_eq_true (by omega)).symm | exact decide_eq_decide.2 (by omega))), ?_⟩))
              · rfl
            · first | have hT3 := of_decide_eq_true hT3 | have hT3 := of_not_decide_true hT3 | skip
              refine Ls.pass (some 54) (by rfl) (by rfl) ?_
              refine Ls.pass (some 55) (by rfl) (by rfl) ?_
              refine Ls.ev (some 56) (Ev.pickT (show Oper.op _ = Op.pick (Operand.tmp 53) (Operand.const (Value.bool true)) (Operand.tmp 55) from rfl) (by rfl) (by rfl)) (by rfl) (by rfl) ?_
              refine Ls.ev (some 57) (Ev.pickT (show Oper.op _ = Op.pick (Operand.tmp 50) (Operand.tmp 56) (Operand.const (Value.bool false)) from rfl) (by rfl) (by rfl)) (by rfl) (by rfl) ?_
              refine Ls.ev (some 58) (Ev.pickF (show Oper.op _ = Op.pick (Operand.tmp 47) (Operand.const (Value.bool true)) (Operand.tmp 57) from rfl) (by rfl) (by rfl)) (by rfl) (by rfl) ?_
              refine Ls.ev (some 6) (Ev.assign (show Oper.op _ = Op.assign (Operand.tmp 58) from rfl) (by rfl)) (by rfl) (by rfl) ?_
              refine Ls.nil ?_
              refine Ent.pick [] (by rfl) ?_
              refine Ent.inv () ?_ ?_ ?_
              · exact trivial
              · (repeat (first | exact trivial | refine ⟨by rfl, ?_⟩ | refine ⟨by simp only [List.length_append, List.length_cons, List.length_nil]; rfl, ?_⟩ | refine ⟨by push_cast; rfl, ?_⟩ | refine ⟨by (show some (Value.bool _) = some (Value.bool _); congr 2; (first | exact (decide_eq_false (by omega)).symm | exact (decide_eq_true (by omega)).symm | exact decide_eq_decide.2 (by omega))), ?_⟩))
              · rfl
        · first | have hT1 := of_decide_eq_true hT1 | have hT1 := of_not_decide_true hT1 | skip
          refine Ls.ev (some 40) (Ev.move (show Oper.op _ = Op.move (Operand.tmp 8) from rfl) (by rfl)) (by rfl) (by rfl) ?_
          refine Ls.ev (some 41) (Ev.eql (show Oper.op _ = Op.binOp BinOp.eql 3 (Operand.tmp 40) (Operand.const (Value.int IntKind.i64 1)) 3 from rfl) (by rfl) (by rfl)) (by rfl) (by rfl) ?_
          refine Ls.ev (some 42) (Ev.move (show Oper.op _ = Op.move (Operand.tmp 41) from rfl) (by rfl)) (by rfl) (by rfl) ?_
          refine Ent.split 42 (by rfl) (fun hT2 => ?_) (fun hT2 => ?_)
          · first | have hT2 := of_decide_eq_false hT2 | have hT2 := of_not_decide_false hT2 | skip
            refine Ls.ev (some 43) (Ev.move (show Oper.op _ = Op.move (Operand.tmp 8) from rfl) (by rfl)) (by rfl) (by rfl) ?_
            refine Ls.ev (some 44) (Ev.eql (show Oper.op _ = Op.binOp BinOp.eql 3 (Operand.tmp 43) (Operand.const (Value.int IntKind.i64 (-1))) 3 from rfl) (by rfl) (by rfl)) (by rfl) (by rfl) ?_
            refine Ls.ev (some 45) (Ev.pickF (show Oper.op _ = Op.pick (Operand.tmp 42) (Operand.const (Value.bool true)) (Operand.tmp 44) from rfl) (by rfl) (by rfl)) (by rfl) (by rfl) ?_
            refine Ls.ev (some 46) (Ev.pickT (show Oper.op _ = Op.pick (Operand.tmp 39) (Operand.tmp 45) (Operand.const (Value.bool false)) from rfl) (by rfl) (by rfl)) (by rfl) (by rfl) ?_
            refine Ls.ev (some 47) (Ev.move (show Oper.op _ = Op.move (Operand.tmp 46) from rfl) (by rfl)) (by rfl) (by rfl) ?_
            refine Ent.split 47 (by rfl) (fun hT3 => ?_) (fun hT3 => ?_)
            · first | have hT3 := of_decide_eq_false hT3 | have hT3 := of_not_decide_false hT3 | skip
              refine Ls.ev (some 48) (Ev.move (show Oper.op _ = Op.move (Operand.tmp 8) from rfl) (by rfl)) (by rfl) (by rfl) ?_
              refine Ls.ev (some 49) (Ev.eql (show Oper.op _ = Op.binOp BinOp.eql 3 (Operand.tmp 48) (Operand.const (Value.int IntKind.i64 0)) 3 from rfl) (by rfl) (by rfl)) (by rfl) (by rfl) ?_
              refine Ls.ev (some 50) (Ev.move (show Oper.op _ = Op.move (Operand.tmp 49) from rfl) (by rfl)) (by rfl) (by rfl) ?_
              refine Ent.split 50 (by rfl) (fun hT4 => ?_) (fun hT4 => ?_)
              · first | have hT4 := of_decide_eq_false hT4 | have hT4 := of_not_decide_false hT4 | skip
                refine Ls.pass (some 51) (by rfl) (by rfl) ?_
                refine Ls.pass (some 52) (by rfl) (by rfl) ?_
                refine Ls.pass (some 53) (by rfl) (by rfl) ?_
                refine Ls.pass (some 54) (by rfl) (by rfl) ?_
                refine Ls.pass (some 55) (by rfl) (by rfl) ?_
                refine Ls.pass (some 56) (by rfl) (by rfl) ?_
                refine Ls.ev (some 57) (Ev.pickF (show Oper.op _ = Op.pick (Operand.tmp 50) (Operand.tmp 56) (Operand.const (Value.bool false)) from rfl) (by rfl) (by rfl)) (by rfl) (by rfl) ?_
                refine Ls.ev (some 58) (Ev.pickF (show Oper.op _ = Op.pick (Operand.tmp 47) (Operand.const (Value.bool true)) (Operand.tmp 57) from rfl) (by rfl) (by rfl)) (by rfl) (by rfl) ?_
                refine Ls.ev (some 6) (Ev.assign (show Oper.op _ = Op.assign (Operand.tmp 58) from rfl) (by rfl)) (by rfl) (by rfl) ?_
                refine Ls.nil ?_
                refine Ent.pick [] (by rfl) ?_
                refine Ent.inv () ?_ ?_ ?_
                · exact trivial
                · (repeat (first | exact trivial | refine ⟨by rfl, ?_⟩ | refine ⟨by simp only [List.length_append, List.length_cons, List.length_nil]; rfl, ?_⟩ | refine ⟨by push_cast; rfl, ?_⟩ | refine ⟨by (show some (Value.bool _) = some (Value.bool _); congr 2; (first | exact (decide_eq_false (by omega)).symm | exact (decide_eq_true (by omega)).symm | exact decide_eq_decide.2 (by omega))), ?_⟩))
                · rfl
              · first | have hT4 := of_decide_eq_true hT4 | have hT4 := of_not_decide_true hT4 | skip
                refine Ls.ev (some 51) (Ev.move (show Oper.op _ = Op.move (Operand.tmp 7) from rfl) (by rfl)) (by rfl) (by rfl) ?_
                refine Ls.ev (some 52) (Ev.eql (show Oper.op _ = Op.binOp BinOp.eql 3 (Operand.tmp 51) (Operand.const (Value.int IntKind.i64 1)) 3 from rfl) (by rfl) (by rfl)) (by rfl) (by rfl) ?_
                refine Ls.ev (some 53) (Ev.move (show Oper.op _ = Op.move (Operand.tmp 52) from rfl) (by rfl)) (by rfl) (by rfl) ?_
                refine Ent.split 53 (by rfl) (fun hT5 => ?_) (fun hT5 => ?_)
                · first | have hT5 := of_decide_eq_false hT5 | have hT5 := of_not_decide_false hT5 | skip
                  refine Ls.ev (some 54) (Ev.move (show Oper.op _ = Op.move (Operand.tmp 7) from rfl) (by rfl)) (by rfl) (by rfl) ?_
                  refine Ls.ev (some 55) (Ev.eql (show Oper.op _ = Op.binOp BinOp.eql 3 (Operand.tmp 54) (Operand.const (Value.int IntKind.i64 (-1))) 3 from rfl) (by rfl) (by rfl)) (by rfl) (by rfl) ?_
                  refine Ls.ev (some 56) (Ev.pickF (show Oper.op _ = Op.pick (Operand.tmp 53) (Operand.const (Value.bool true)) (Operand.tmp 55) from rfl) (by rfl) (by rfl)) (by rfl) (by rfl) ?_
                  refine Ls.ev (some 57) (Ev.pickT (show Oper.op _ = Op.pick (Operand.tmp 50) (Operand.tmp 56) (Operand.const (Value.bool false)) from rfl) (by rfl) (by rfl)) (by rfl) (by rfl) ?_
                  refine Ls.ev (some 58) (Ev.pickF (show Oper.op _ = Op.pick (Operand.tmp 47) (Operand.const (Value.bool true)) (Operand.tmp 57) from rfl) (by rfl) (by rfl)) (by rfl) (by rfl) ?_
                  refine Ls.ev (some 6) (Ev.assign (show Oper.op _ = Op.assign (Operand.tmp 58) from rfl) (by rfl)) (by rfl) (by rfl) ?_
                  refine Ls.nil ?_
                  refine Ent.pick [] (by rfl) ?_
                  refine Ent.inv () ?_ ?_ ?_
                  · exact trivial
                  · (repeat (first | exact trivial | refine ⟨by rfl, ?_⟩ | refine ⟨by simp only [List.length_append, List.length_cons, List.length_nil]; rfl, ?_⟩ | refine ⟨by push_cast; rfl, ?_⟩ | refine ⟨by (show some (Value.bool _) = some (Value.bool _); congr 2; (first | exact (decide_eq_false (by omega)).symm | exact (decide_eq_true (by omega)).symm | exact decide_eq_decide.2 (by omega))), ?_⟩))
                  · rfl
                · first | have hT5 := of_decide_eq_true hT5 | have hT5 := of_not_decide_true hT5 | skip
                  refine Ls.pass (some 54) (by rfl) (by rfl) ?_
                  refine Ls.pass (some 55) (by rfl) (by rfl) ?_
                  refine Ls.ev (some 56) (Ev.pickT (show Oper.op _ = Op.pick (Operand.tmp 53) (Operand.const (Value.bool true)) (Operand.tmp 55) from rfl) (by rfl) (by rfl)) (by rfl) (by rfl) ?_
                  refine Ls.ev (some 57) (Ev.pickT (show Oper.op _ = Op.pick (Operand.tmp 50) (Operand.tmp 56) (Operand.const (Value.bool false)) from rfl) (by rfl) (by rfl)) (by rfl) (by rfl) ?_
                  refine Ls.ev (some 58) (Ev.pickF (show Oper.op _ = Op.pick (Operand.tmp 47) (Operand.const (Value.bool true)) (Operand.tmp 57) from rfl) (by rfl) (by rfl)) (by rfl) (by rfl) ?_
                  refine Ls.ev (some 6) (Ev.assign (show Oper.op _ = Op.assign (Operand.tmp 58) from rfl) (by rfl)) (by rfl) (by rfl) ?_
                  refine Ls.nil ?_
                  refine Ent.pick [] (by rfl) ?_
                  refine Ent.inv () ?_ ?_ ?_
                  · exact trivial
                  · (repeat (first | exact trivial | refine ⟨by rfl, ?_⟩ | refine ⟨by simp only [List.length_append, List.length_cons, List.length_nil]; rfl, ?_⟩ | refine ⟨by push_cast; rfl, ?_⟩ | refine ⟨by (show some (Value.bool _) = some (Value.bool _); congr 2; (first | exact (decide_eq_false (by omega)).symm | exact (decide_eq_true (by omega)).symm | exact decide_eq_decide.2 (by omega))), ?_⟩))
                  · rfl
            · first | have hT3 := of_decide_eq_true hT3 | have hT3 := of_not_decide_true hT3 | skip
              refine Ls.pass (some 48) (by rfl) (by rfl) ?_
              refine Ls.pass (some 49) (by rfl) (by rfl) ?_
              refine Ls.pass (some 50) (by rfl) (by rfl) ?_
              refine Ls.pass (some 51) (by rfl) (by rfl) ?_
              refine Ls.pass (some 52) (by rfl) (by rfl) ?_
              refine Ls.pass (some 53) (by rfl) (by rfl) ?_
              refine Ls.pass (some 54) (by rfl) (by rfl) ?_
              refine Ls.pass (some 55) (by rfl) (by rfl) ?_
              refine Ls.pass (some 56) (by rfl) (by rfl) ?_
              refine Ls.pass (some 57) (by rfl) (by rfl) ?_
              refine Ls.ev (some 58) (Ev.pickT (show Oper.op _ = Op.pick (Operand.tmp 47) (Operand.const (Value.bool true)) (Operand.tmp 57) from rfl) (by rfl) (by rfl)) (by rfl) (by rfl) ?_
              refine Ls.ev (some 6) (Ev.assign (show Oper.op _ = Op.assign (Operand.tmp 58) from rfl) (by rfl)) (by rfl) (by rfl) ?_
              refine Ls.nil ?_
              refine Ent.pick [] (by rfl) ?_
              refine Ent.inv () ?_ ?_ ?_
              · exact trivial
              · (repeat (first | exact trivial | refine ⟨by rfl, ?_⟩ | refine ⟨by simp only [List.length_append, List.length_cons, List.length_nil]; rfl, ?_⟩ | refine ⟨by push_cast; rfl, ?_⟩ | refine ⟨by (show some (Value.bool _) = some (Value.bool _); congr 2; (first | exact (decide_eq_false (by omega)).symm | exact (decide_eq_true (by omega)).symm | exact decide_eq_decide.2 (by omega))), ?_⟩))
              · rfl
          · first | have hT2 := of_decide_eq_true hT2 | have hT2 := of_not_decide_true hT2 | skip
            refine Ls.pass (some 43) (by rfl) (by rfl) ?_
            refine Ls.pass (some 44) (by rfl) (by rfl) ?_
            refine Ls.ev (some 45) (Ev.pickT (show Oper.op _ = Op.pick (Operand.tmp 42) (Operand.const (Value.bool true)) (Operand.tmp 44) from rfl) (by rfl) (by rfl)) (by rfl) (by rfl) ?_
            refine Ls.ev (some 46) (Ev.pickT (show Oper.op _ = Op.pick (Operand.tmp 39) (Operand.tmp 45) (Operand.const (Value.bool false)) from rfl) (by rfl) (by rfl)) (by rfl) (by rfl) ?_
            refine Ls.ev (some 47) (Ev.move (show Oper.op _ = Op.move (Operand.tmp 46) from rfl) (by rfl)) (by rfl) (by rfl) ?_
            refine Ls.pass (some 48) (by rfl) (by rfl) ?_
            refine Ls.pass (some 49) (by rfl) (by rfl) ?_
            refine Ls.pass (some 50) (by rfl) (by rfl) ?_
            refine Ls.pass (some 51) (by rfl) (by rfl) ?_
            refine Ls.pass (some 52) (by rfl) (by rfl) ?_
            refine Ls.pass (some 53) (by rfl) (by rfl) ?_
            refine Ls.pass (some 54) (by rfl) (by rfl) ?_
            refine Ls.pass (some 55) (by rfl) (by rfl) ?_
            refine Ls.pass (some 56) (by rfl) (by rfl) ?_
            refine Ls.pass (some 57) (by rfl) (by rfl) ?_
            refine Ls.ev (some 58) (Ev.pickT (show Oper.op _ = Op.pick (Operand.tmp 47) (Operand.const (Value.bool true)) (Operand.tmp 57) from rfl) (by rfl) (by rfl)) (by rfl) (by rfl) ?_
            refine Ls.ev (some 6) (Ev.assign (show Oper.op _ = Op.assign (Operand.tmp 58) from rfl) (by rfl)) (by rfl) (by rfl) ?_
            refine Ls.nil ?_
            refine Ent.pick [] (by rfl) ?_
            refine Ent.inv () ?_ ?_ ?_
            · exact trivial
            · (repeat (first | exact trivial | refine ⟨by rfl, ?_⟩ | refine ⟨by simp only [List.length_append, List.length_cons, List.length_nil]; rfl, ?_⟩ | refine ⟨by push_cast; rfl, ?_⟩ | refine ⟨by (show some (Value.bool _) = some (Value.bool _); congr 2; (first | exact (decide_eq_false (by omega)).symm | exact (decide_eq_true (by omega)).symm | exact decide_eq_decide.2 (by omega))), ?_⟩))
            · rfl
      skip
      rintro _ -
      skip
      refine Cd.ret ?_
      refine Ent.ret (()) (trivial) (Res.tmp (by rfl) (by rfl)) ?_ [] (by rfl) ?_
      · rfl
      · rfl
  · skip
    have h1 : isM ⟨w, h, sh, bl⟩ a = false := by simpa using h1
    refine Ls.pass (some 14) (by rfl) (by rfl) ?_
    refine Ls.pass (some 15) (by rfl) (by rfl) ?_
    refine Ls.pass (some 16) (by rfl) (by rfl) ?_
    refine Ls.pass (some 17) (by rfl) (by rfl) ?_
    refine Ls.ev (some 18) (Ev.pickT (show Oper.op _ = Op.pick (Operand.tmp 13) (Operand.const (Value.bool true)) (Operand.tmp 17) from rfl) (by rfl) (by rfl)) (by rfl) (by rfl) ?_
    refine Ls.nil ?_
    skip
    refine Cd.cond_true (by rfl) (rfl) ?_
    refine Cd.seq ?_
    refine Cd.region ?_
    refine Ls.ev (some 6) (Ev.assign (show Oper.op _ = Op.assign (Operand.const (Value.bool false)) from rfl) (by rfl)) (by rfl) (by rfl) ?_
    refine Ls.nil ?_
    refine Cd.ret ?_
    refine Ent.ret (()) (trivial) (Res.tmp (by rfl) (by rfl)) ?_ [] (by rfl) ?_
    · unfold besideM; rw [h1, Bool.false_and, Bool.false_and]
    · rfl
theorem dNear_sl (hl : m.bl.length ≤ 17592186044415) (a b : Int) : Fn Try.prog 48 #[.agg (mapV m A c).toArray, .int .i64 a, .int .i64 b] [rdI A m.bl] Unit (fun _ => .bool (nearM m a b)) (fun _ => []) (fun _ => True) := by
  have hA := dFree_sl m hw A c hl a
  have hB := dFree_sl m hw A c hl b
  have hC := dBeside_sl m hw A c a b
  obtain ⟨w, h, sh, bl⟩ := m
  dsimp only [mapV] at *
  refine Fn.enter Try.func48 rfl Try.ntmps48 (by rfl) ?_
  intro w0
  refine Cd.seq ?_
  refine Cd.region ?_
  refine Ls.does (some 3) (Does.box (show Oper.op _ = Op.box 24 (Operand.tmp 0) from rfl) (by rfl)) (by rfl) (by rfl) ?_
  intro g1 _
  refine Ls.ev (some 6) (Ev.assign (show Oper.op _ = Op.assign (Operand.const (Value.bool false)) from rfl) (by rfl)) (by rfl) (by rfl) ?_
  refine Ls.nil ?_
  refine Cd.seq ?_
  refine Cd.region ?_
  refine Ls.ev (some 7) (Ev.loads 0 (show Oper.op _ = Op.load 24 (Operand.tmp 3) from rfl) (by rfl) (by rfl) (n := 4) (by kernel_rfl) (by rfl) (by rfl)) (by rfl) (by rfl) ?_
  refine Ls.ev (some 8) (Ev.move (show Oper.op _ = Op.move (Operand.tmp 1) from rfl) (by rfl)) (by rfl) (by rfl) ?_
  refine Ls.does (some 9) (Does.read (show Oper.op _ = Op.call { callee := Callee.value (Operand.func 47), args := #[Operand.tmp 7, Operand.tmp 8], argTypes := #[24, 3] } from rfl) Try.func47 (by kernel_rfl) (by kernel_rfl) (hA) (by rfl) (by rfl) ⟨ReadsIn.rd 1 (by rfl), trivial⟩) (by rfl) (by rfl) ?_
  rintro _ -
  refine Ls.ev (some 10) (Ev.move (show Oper.op _ = Op.move (Operand.tmp 9) from rfl) (by rfl)) (by rfl) (by rfl) ?_
  refine Ent.split 10 (by rfl) (fun h1 => ?_) (fun h1 => ?_)
  · skip
    refine Ls.pass (some 11) (by rfl) (by rfl) ?_
    refine Ls.pass (some 12) (by rfl) (by rfl) ?_
    refine Ls.pass (some 13) (by rfl) (by rfl) ?_
    refine Ls.ev (some 14) (Ev.pickF (show Oper.op _ = Op.pick (Operand.tmp 10) (Operand.tmp 13) (Operand.const (Value.bool false)) from rfl) (by rfl) (by rfl)) (by rfl) (by rfl) ?_
    refine Ls.ev (some 15) (Ev.move (show Oper.op _ = Op.move (Operand.tmp 14) from rfl) (by rfl)) (by rfl) (by rfl) ?_
    refine Ls.pass (some 16) (by rfl) (by rfl) ?_
    refine Ls.pass (some 17) (by rfl) (by rfl) ?_
    refine Ls.pass (some 18) (by rfl) (by rfl) ?_
    refine Ls.pass (some 19) (by rfl) (by rfl) ?_
    refine Ls.pass (some 20) (by rfl) (by rfl) ?_
    refine Ls.pass (some 21) (by rfl) (by rfl) ?_
    refine Ls.pass (some 22) (by rfl) (by rfl) ?_
    refine Ls.pass (some 23) (by rfl) (by rfl) ?_
    refine Ls.pass (some 24) (by rfl) (by rfl) ?_
    refine Ls.ev (some 25) (Ev.pickF (show Oper.op _ = Op.pick (Operand.tmp 15) (Operand.tmp 24) (Operand.const (Value.bool false)) from rfl) (by rfl) (by rfl)) (by rfl) (by rfl) ?_
    refine Ls.ev (some 6) (Ev.assign (show Oper.op _ = Op.assign (Operand.tmp 25) from rfl) (by rfl)) (by rfl) (by rfl) ?_
    refine Ls.nil ?_
    skip
    refine Cd.ret ?_
    refine Ent.ret (()) (trivial) (Res.tmp (by rfl) (by rfl)) ?_ [] (by rfl) ?_
    · unfold nearM; rw [h1, Bool.false_and, Bool.false_and]
    · rfl
  · skip
    refine Ls.ev (some 11) (Ev.loads 0 (show Oper.op _ = Op.load 24 (Operand.tmp 3) from rfl) (by rfl) (by rfl) (n := 4) (by kernel_rfl) (by rfl) (by rfl)) (by rfl) (by rfl) ?_
    refine Ls.ev (some 12) (Ev.move (show Oper.op _ = Op.move (Operand.tmp 2) from rfl) (by rfl)) (by rfl) (by rfl) ?_
    refine Ls.does (some 13) (Does.read (show Oper.op _ = Op.call { callee := Callee.value (Operand.func 47), args := #[Operand.tmp 11, Operand.tmp 12], argTypes := #[24, 3] } from rfl) Try.func47 (by kernel_rfl) (by kernel_rfl) (hB) (by rfl) (by rfl) ⟨ReadsIn.rd 1 (by rfl), trivial⟩) (by rfl) (by rfl) ?_
    rintro _ -
    refine Ls.ev (some 14) (Ev.pickT (show Oper.op _ = Op.pick (Operand.tmp 10) (Operand.tmp 13) (Operand.const (Value.bool false)) from rfl) (by rfl) (by rfl)) (by rfl) (by rfl) ?_
    refine Ls.ev (some 15) (Ev.move (show Oper.op _ = Op.move (Operand.tmp 14) from rfl) (by rfl)) (by rfl) (by rfl) ?_
    refine Ent.split 15 (by rfl) (fun h2 => ?_) (fun h2 => ?_)
    · skip
      refine Ls.pass (some 16) (by rfl) (by rfl) ?_
      refine Ls.pass (some 17) (by rfl) (by rfl) ?_
      refine Ls.pass (some 18) (by rfl) (by rfl) ?_
      refine Ls.pass (some 19) (by rfl) (by rfl) ?_
      refine Ls.pass (some 20) (by rfl) (by rfl) ?_
      refine Ls.pass (some 21) (by rfl) (by rfl) ?_
      refine Ls.pass (some 22) (by rfl) (by rfl) ?_
      refine Ls.pass (some 23) (by rfl) (by rfl) ?_
      refine Ls.pass (some 24) (by rfl) (by rfl) ?_
      refine Ls.ev (some 25) (Ev.pickF (show Oper.op _ = Op.pick (Operand.tmp 15) (Operand.tmp 24) (Operand.const (Value.bool false)) from rfl) (by rfl) (by rfl)) (by rfl) (by rfl) ?_
      refine Ls.ev (some 6) (Ev.assign (show Oper.op _ = Op.assign (Operand.tmp 25) from rfl) (by rfl)) (by rfl) (by rfl) ?_
      refine Ls.nil ?_
      skip
      refine Cd.ret ?_
      refine Ent.ret (()) (trivial) (Res.tmp (by rfl) (by rfl)) ?_ [] (by rfl) ?_
      · unfold nearM; rw [h2, Bool.and_false, Bool.false_and]
      · rfl
    · skip
      refine Ls.ev (some 16) (Ev.move (show Oper.op _ = Op.move (Operand.tmp 1) from rfl) (by rfl)) (by rfl) (by rfl) ?_
      refine Ls.ev (some 17) (Ev.move (show Oper.op _ = Op.move (Operand.tmp 2) from rfl) (by rfl)) (by rfl) (by rfl) ?_
      refine Ls.ev (some 18) (Ev.eql (show Oper.op _ = Op.binOp BinOp.eql 3 (Operand.tmp 16) (Operand.tmp 17) 3 from rfl) (by rfl) (by rfl)) (by rfl) (by rfl) ?_
      refine Ls.ev (some 19) (Ev.move (show Oper.op _ = Op.move (Operand.tmp 18) from rfl) (by rfl)) (by rfl) (by rfl) ?_
      refine Ent.split 19 (by rfl) (fun h3 => ?_) (fun h3 => ?_)
      · skip
        refine Ls.ev (some 20) (Ev.loads 0 (show Oper.op _ = Op.load 24 (Operand.tmp 3) from rfl) (by rfl) (by rfl) (n := 4) (by kernel_rfl) (by rfl) (by rfl)) (by rfl) (by rfl) ?_
        refine Ls.ev (some 21) (Ev.move (show Oper.op _ = Op.move (Operand.tmp 1) from rfl) (by rfl)) (by rfl) (by rfl) ?_
        refine Ls.ev (some 22) (Ev.move (show Oper.op _ = Op.move (Operand.tmp 2) from rfl) (by rfl)) (by rfl) (by rfl) ?_
        refine Ls.does (some 23) (Does.read (show Oper.op _ = Op.call { callee := Callee.value (Operand.func 54), args := #[Operand.tmp 20, Operand.tmp 21, Operand.tmp 22], argTypes := #[24, 3, 3] } from rfl) Try.func54 (by kernel_rfl) (by kernel_rfl) (hC) (by rfl) (by rfl) trivial) (by rfl) (by rfl) ?_
        rintro _ -
        refine Ls.ev (some 24) (Ev.pickF (show Oper.op _ = Op.pick (Operand.tmp 19) (Operand.const (Value.bool true)) (Operand.tmp 23) from rfl) (by rfl) (by rfl)) (by rfl) (by rfl) ?_
        refine Ls.ev (some 25) (Ev.pickT (show Oper.op _ = Op.pick (Operand.tmp 15) (Operand.tmp 24) (Operand.const (Value.bool false)) from rfl) (by rfl) (by rfl)) (by rfl) (by rfl) ?_
        refine Ls.ev (some 6) (Ev.assign (show Oper.op _ = Op.assign (Operand.tmp 25) from rfl) (by rfl)) (by rfl) (by rfl) ?_
        refine Ls.nil ?_
        refine Cd.ret ?_
        refine Ent.ret (()) (trivial) (Res.tmp (by rfl) (by rfl)) ?_ [] (by rfl) ?_
        · unfold nearM; rw [h1, h2, Bool.true_and, Bool.true_and, h3, Bool.false_or]
        · rfl
      · skip
        refine Ls.pass (some 20) (by rfl) (by rfl) ?_
        refine Ls.pass (some 21) (by rfl) (by rfl) ?_
        refine Ls.pass (some 22) (by rfl) (by rfl) ?_
        refine Ls.pass (some 23) (by rfl) (by rfl) ?_
        refine Ls.ev (some 24) (Ev.pickT (show Oper.op _ = Op.pick (Operand.tmp 19) (Operand.const (Value.bool true)) (Operand.tmp 23) from rfl) (by rfl) (by rfl)) (by rfl) (by rfl) ?_
        refine Ls.ev (some 25) (Ev.pickT (show Oper.op _ = Op.pick (Operand.tmp 15) (Operand.tmp 24) (Operand.const (Value.bool false)) from rfl) (by rfl) (by rfl)) (by rfl) (by rfl) ?_
        refine Ls.ev (some 6) (Ev.assign (show Oper.op _ = Op.assign (Operand.tmp 25) from rfl) (by rfl)) (by rfl) (by rfl) ?_
        refine Ls.nil ?_
        skip
        refine Cd.ret ?_
        refine Ent.ret (()) (trivial) (Res.tmp (by rfl) (by rfl)) ?_ [] (by rfl) ?_
        · unfold nearM; rw [h1, h2, h3]; rfl
        · rfl
end
theorem dGood_sl (m : MapP) (A : Option Addr) (c : Nat) (hl : m.bl.length ≤ 17592186044415) : Fn Try.prog 9 #[.agg (mapV m A c).toArray] [rdI A m.bl] Unit (fun _ => .bool (goodM m)) (fun _ => []) (fun _ => True) := by
  obtain ⟨w, h, sh, bl⟩ := m
  dsimp only [mapV] at hl ⊢
  have hg := goodM_dim ⟨w, h, sh, bl⟩
  have hd : dimB ⟨w, h, sh, bl⟩ = decide (w < 1 ∨ 16 < w ∨ h < 1 ∨ 16 < h ∨ sh < 1 ∨ 4 < sh ∨ w < sh) := rfl
  refine Fn.enter Try.func9 rfl Try.ntmps9 (by rfl) ?_
  intro w0
  refine Cd.seq ?_
  refine Cd.region ?_
  refine Ls.does (some 1) (Does.box (show Oper.op _ = Op.box 24 (Operand.tmp 0) from rfl) (by rfl)) (by rfl) (by rfl) ?_
  intro g1 _
  refine Ls.ev (some 2) (Ev.assign (show Oper.op _ = Op.assign (Operand.const (Value.bool false)) from rfl) (by rfl)) (by rfl) (by rfl) ?_
  refine Ls.nil ?_
  refine Cd.seq ?_
  refine Cd.seq ?_
  refine Cd.cut (ι := Unit) (fun _ => [(1, .pointer (some ⟨g1, 0, none⟩)), (38, .bool (decide (w < 1 ∨ 16 < w ∨ h < 1 ∨ 16 < h ∨ sh < 1 ∨ 4 < sh ∨ w < sh)))]) (fun _ => [blk g1 24 [.int .i64 w, .int .i64 h, .int .i64 sh, .slice A bl.length c], rdI A bl]) (fun _ => True) ?_ ?_
  · skip
    refine Cd.region ?_
    refine Ls.ev (some 4) (Ev.fieldAddr (k := 0) (show Oper.op _ = Op.fieldAddr 24 (Operand.tmp 1) 0 from rfl) (by rfl) (by kernel_rfl) (by rfl)) (by rfl) (by rfl) ?_
    refine Ls.ev (some 5) (Ev.load 0 (show Oper.op _ = Op.load 3 (Operand.tmp 4) from rfl) (by rfl) (by rfl) (by kernel_rfl) (by rfl)) (by rfl) (by rfl) ?_
    refine Ls.ev (some 6) (Ev.lss (show Oper.op _ = Op.binOp BinOp.lss 3 (Operand.tmp 5) (Operand.const (Value.int IntKind.i64 1)) 3 from rfl) (by rfl) (by rfl)) (by rfl) (by rfl) ?_
    refine Ls.ev (some 7) (Ev.move (show Oper.op _ = Op.move (Operand.tmp 6) from rfl) (by rfl)) (by rfl) (by rfl) ?_
    refine Ent.split 7 (by rfl) (fun hT1 => ?_) (fun hT1 => ?_)
    · first | have hT1 := of_decide_eq_false hT1 | have hT1 := of_not_decide_false hT1 | skip
      refine Ls.ev (some 8) (Ev.fieldAddr (k := 0) (show Oper.op _ = Op.fieldAddr 24 (Operand.tmp 1) 0 from rfl) (by rfl) (by kernel_rfl) (by rfl)) (by rfl) (by rfl) ?_
      refine Ls.ev (some 9) (Ev.load 0 (show Oper.op _ = Op.load 3 (Operand.tmp 8) from rfl) (by rfl) (by rfl) (by kernel_rfl) (by rfl)) (by rfl) (by rfl) ?_
      refine Ls.ev (some 10) (Ev.gtr (show Oper.op _ = Op.binOp BinOp.gtr 3 (Operand.tmp 9) (Operand.const (Value.int IntKind.i64 16)) 3 from rfl) (by rfl) (by rfl)) (by rfl) (by rfl) ?_
      refine Ls.ev (some 11) (Ev.pickF (show Oper.op _ = Op.pick (Operand.tmp 7) (Operand.const (Value.bool true)) (Operand.tmp 10) from rfl) (by rfl) (by rfl)) (by rfl) (by rfl) ?_
      refine Ls.ev (some 12) (Ev.move (show Oper.op _ = Op.move (Operand.tmp 11) from rfl) (by rfl)) (by rfl) (by rfl) ?_
      refine Ent.split 12 (by rfl) (fun hT2 => ?_) (fun hT2 => ?_)
      · first | have hT2 := of_decide_eq_false hT2 | have hT2 := of_not_decide_false hT2 | skip
        refine Ls.ev (some 13) (Ev.fieldAddr (k := 1) (show Oper.op _ = Op.fieldAddr 24 (Operand.tmp 1) 1 from rfl) (by rfl) (by kernel_rfl) (by rfl)) (by rfl) (by rfl) ?_
        refine Ls.ev (some 14) (Ev.load 0 (show Oper.op _ = Op.load 3 (Operand.tmp 13) from rfl) (by rfl) (by rfl) (by kernel_rfl) (by rfl)) (by rfl) (by rfl) ?_
        refine Ls.ev (some 15) (Ev.lss (show Oper.op _ = Op.binOp BinOp.lss 3 (Operand.tmp 14) (Operand.const (Value.int IntKind.i64 1)) 3 from rfl) (by rfl) (by rfl)) (by rfl) (by rfl) ?_
        refine Ls.ev (some 16) (Ev.pickF (show Oper.op _ = Op.pick (Operand.tmp 12) (Operand.const (Value.bool true)) (Operand.tmp 15) from rfl) (by rfl) (by rfl)) (by rfl) (by rfl) ?_
        refine Ls.ev (some 17) (Ev.move (show Oper.op _ = Op.move (Operand.tmp 16) from rfl) (by rfl)) (by rfl) (by rfl) ?_
        refine Ent.split 17 (by rfl) (fun hT3 => ?_) (fun hT3 => ?_)
        · first | have hT3 := of_decide_eq_false hT3 | have hT3 := of_not_decide_false hT3 | skip
          refine Ls.ev (some 18) (Ev.fieldAddr (k := 1) (show Oper.op _ = Op.fieldAddr 24 (Operand.tmp 1) 1 from rfl) (by rfl) (by kernel_rfl) (by rfl)) (by rfl) (by rfl) ?_
          refine Ls.ev (some 19) (Ev.load 0 (show Oper.op _ = Op.load 3 (Operand.tmp 18) from rfl) (by rfl) (by rfl) (by kernel_rfl) (by rfl)) (by rfl) (by rfl) ?_
          refine Ls.ev (some 20) (Ev.gtr (show Oper.op _ = Op.binOp BinOp.gtr 3 (Operand.tmp 19) (Operand.const (Value.int IntKind.i64 16)) 3 from rfl) (by rfl) (by rfl)) (by rfl) (by rfl) ?_
          refine Ls.ev (some 21) (Ev.pickF (show Oper.op _ = Op.pick (Operand.tmp 17) (Operand.const (Value.bool true)) (Operand.tmp 20) from rfl) (by rfl) (by rfl)) (by rfl) (by rfl) ?_
          refine Ls.ev (some 22) (Ev.move (show Oper.op _ = Op.move (Operand.tmp 21) from rfl) (by rfl)) (by rfl) (by rfl) ?_
          refine Ent.split 22 (by rfl) (fun hT4 => ?_) (fun hT4 => ?_)
          · first | have hT4 := of_decide_eq_false hT4 | have hT4 := of_not_decide_false hT4 | skip
            refine Ls.ev (some 23) (Ev.fieldAddr (k := 2) (show Oper.op _ = Op.fieldAddr 24 (Operand.tmp 1) 2 from rfl) (by rfl) (by kernel_rfl) (by rfl)) (by rfl) (by rfl) ?_
            refine Ls.ev (some 24) (Ev.load 0 (show Oper.op _ = Op.load 3 (Operand.tmp 23) from rfl) (by rfl) (by rfl) (by kernel_rfl) (by rfl)) (by rfl) (by rfl) ?_
            refine Ls.ev (some 25) (Ev.lss (show Oper.op _ = Op.binOp BinOp.lss 3 (Operand.tmp 24) (Operand.const (Value.int IntKind.i64 1)) 3 from rfl) (by rfl) (by rfl)) (by rfl) (by rfl) ?_
            refine Ls.ev (some 26) (Ev.pickF (show Oper.op _ = Op.pick (Operand.tmp 22) (Operand.const (Value.bool true)) (Operand.tmp 25) from rfl) (by rfl) (by rfl)) (by rfl) (by rfl) ?_
            refine Ls.ev (some 27) (Ev.move (show Oper.op _ = Op.move (Operand.tmp 26) from rfl) (by rfl)) (by rfl) (by rfl) ?_
            refine Ent.split 27 (by rfl) (fun hT5 => ?_) (fun hT5 => ?_)
            · first | have hT5 := of_decide_eq_false hT5 | have hT5 := of_not_decide_false hT5 | skip
              refine Ls.ev (some 28) (Ev.fieldAddr (k := 2) (show Oper.op _ = Op.fieldAddr 24 (Operand.tmp 1) 2 from rfl) (by rfl) (by kernel_rfl) (by rfl)) (by rfl) (by rfl) ?_
              refine Ls.ev (some 29) (Ev.load 0 (show Oper.op _ = Op.load 3 (Operand.tmp 28) from rfl) (by rfl) (by rfl) (by kernel_rfl) (by rfl)) (by rfl) (by rfl) ?_
              refine Ls.ev (some 30) (Ev.gtr (show Oper.op _ = Op.binOp BinOp.gtr 3 (Operand.tmp 29) (Operand.const (Value.int IntKind.i64 4)) 3 from rfl) (by rfl) (by rfl)) (by rfl) (by rfl) ?_
              refine Ls.ev (some 31) (Ev.pickF (show Oper.op _ = Op.pick (Operand.tmp 27) (Operand.const (Value.bool true)) (Operand.tmp 30) from rfl) (by rfl) (by rfl)) (by rfl) (by rfl) ?_
              refine Ls.ev (some 32) (Ev.move (show Oper.op _ = Op.move (Operand.tmp 31) from rfl) (by rfl)) (by rfl) (by rfl) ?_
              refine Ent.split 32 (by rfl) (fun hT6 => ?_) (fun hT6 => ?_)
              · first | have hT6 := of_decide_eq_false hT6 | have hT6 := of_not_decide_false hT6 | skip
                refine Ls.ev (some 33) (Ev.fieldAddr (k := 2) (show Oper.op _ = Op.fieldAddr 24 (Operand.tmp 1) 2 from rfl) (by rfl) (by kernel_rfl) (by rfl)) (by rfl) (by rfl) ?_
                refine Ls.ev (some 34) (Ev.load 0 (show Oper.op _ = Op.load 3 (Operand.tmp 33) from rfl) (by rfl) (by rfl) (by kernel_rfl) (by rfl)) (by rfl) (by rfl) ?_
                refine Ls.ev (some 35) (Ev.fieldAddr (k := 0) (show Oper.op _ = Op.fieldAddr 24 (Operand.tmp 1) 0 from rfl) (by rfl) (by kernel_rfl) (by rfl)) (by rfl) (by rfl) ?_
                refine Ls.ev (some 36) (Ev.load 0 (show Oper.op _ = Op.load 3 (Operand.tmp 35) from rfl) (by rfl) (by rfl) (by kernel_rfl) (by rfl)) (by rfl) (by rfl) ?_
                refine Ls.ev (some 37) (Ev.gtr (show Oper.op _ = Op.binOp BinOp.gtr 3 (Operand.tmp 34) (Operand.tmp 36) 3 from rfl) (by rfl) (by rfl)) (by rfl) (by rfl) ?_
                refine Ls.ev (some 38) (Ev.pickF (show Oper.op _ = Op.pick (Operand.tmp 32) (Operand.const (Value.bool true)) (Operand.tmp 37) from rfl) (by rfl) (by rfl)) (by rfl) (by rfl) ?_
                refine Ls.nil ?_
                refine Ent.pick [0, 1] (by rfl) ?_
                refine Ent.inv () ?_ ?_ ?_
                · exact trivial
                · (repeat (first | exact trivial | refine ⟨by rfl, ?_⟩ | refine ⟨by simp only [List.length_append, List.length_cons, List.length_nil]; rfl, ?_⟩ | refine ⟨by push_cast; rfl, ?_⟩ | refine ⟨by (show some (Value.bool _) = some (Value.bool _); congr 2; (first | rfl | exact (decide_eq_true (by omega)).symm | exact (decide_eq_false (by omega)).symm | exact decide_eq_decide.2 (by omega) | exact decide_eq_decide.2 (by split <;> omega))), ?_⟩))
                · rfl
              · first | have hT6 := of_decide_eq_true hT6 | have hT6 := of_not_decide_true hT6 | skip
                refine Ls.pass (some 33) (by rfl) (by rfl) ?_
                refine Ls.pass (some 34) (by rfl) (by rfl) ?_
                refine Ls.pass (some 35) (by rfl) (by rfl) ?_
                refine Ls.pass (some 36) (by rfl) (by rfl) ?_
                refine Ls.pass (some 37) (by rfl) (by rfl) ?_
                refine Ls.ev (some 38) (Ev.pickT (show Oper.op _ = Op.pick (Operand.tmp 32) (Operand.const (Value.bool true)) (Operand.tmp 37) from rfl) (by rfl) (by rfl)) (by rfl) (by rfl) ?_
                refine Ls.nil ?_
                refine Ent.pick [0, 1] (by rfl) ?_
                refine Ent.inv () ?_ ?_ ?_
                · exact trivial
                · (repeat (first | exact trivial | refine ⟨by rfl, ?_⟩ | refine ⟨by simp only [List.length_append, List.length_cons, List.length_nil]; rfl, ?_⟩ | refine ⟨by push_cast; rfl, ?_⟩ | refine ⟨by (show some (Value.bool _) = some (Value.bool _); congr 2; (first | rfl | exact (decide_eq_true (by omega)).symm | exact (decide_eq_false (by omega)).symm | exact decide_eq_decide.2 (by omega) | exact decide_eq_decide.2 (by split <;> omega))), ?_⟩))
                · rfl
            · first | have hT5 := of_decide_eq_true hT5 | have hT5 := of_not_decide_true hT5 | skip
              refine Ls.pass (some 28) (by rfl) (by rfl) ?_
              refine Ls.pass (some 29) (by rfl) (by rfl) ?_
              refine Ls.pass (some 30) (by rfl) (by rfl) ?_
              refine Ls.ev (some 31) (Ev.pickT (show Oper.op _ = Op.pick (Operand.tmp 27) (Operand.const (Value.bool true)) (Operand.tmp 30) from rfl) (by rfl) (by rfl)) (by rfl) (by rfl) ?_
              refine Ls.ev (some 32) (Ev.move (show Oper.op _ = Op.move (Operand.tmp 31) from rfl) (by rfl)) (by rfl) (by rfl) ?_
              refine Ls.pass (some 33) (by rfl) (by rfl) ?_
              refine Ls.pass (some 34) (by rfl) (by rfl) ?_
              refine Ls.pass (some 35) (by rfl) (by rfl) ?_
              refine Ls.pass (some 36) (by rfl) (by rfl) ?_
              refine Ls.pass (some 37) (by rfl) (by rfl) ?_
              refine Ls.ev (some 38) (Ev.pickT (show Oper.op _ = Op.pick (Operand.tmp 32) (Operand.const (Value.bool true)) (Operand.tmp 37) from rfl) (by rfl) (by rfl)) (by rfl) (by rfl) ?_
              refine Ls.nil ?_
              refine Ent.pick [0, 1] (by rfl) ?_
              refine Ent.inv () ?_ ?_ ?_
              · exact trivial
              · (repeat (first | exact trivial | refine ⟨by rfl, ?_⟩ | refine ⟨by simp only [List.length_append, List.length_cons, List.length_nil]; rfl, ?_⟩ | refine ⟨by push_cast; rfl, ?_⟩ | refine ⟨by (show some (Value.bool _) = some (Value.bool _); congr 2; (first | rfl | exact (decide_eq_true (by omega)).symm | exact (decide_eq_false (by omega)).symm | exact decide_eq_decide.2 (by omega) | exact decide_eq_decide.2 (by split <;> omega))), ?_⟩))
              · rfl
          · first | have hT4 := of_decide_eq_true hT4 | have hT4 := of_not_decide_true hT4 | skip
            refine Ls.pass (some 23) (by rfl) (by rfl) ?_
            refine Ls.pass (some 24) (by rfl) (by rfl) ?_
            refine Ls.pass (some 25) (by rfl) (by rfl) ?_
            refine Ls.ev (some 26) (Ev.pickT (show Oper.op _ = Op.pick (Operand.tmp 22) (Operand.const (Value.bool true)) (Operand.tmp 25) from rfl) (by rfl) (by rfl)) (by rfl) (by rfl) ?_
            refine Ls.ev (some 27) (Ev.move (show Oper.op _ = Op.move (Operand.tmp 26) from rfl) (by rfl)) (by rfl) (by rfl) ?_
            refine Ls.pass (some 28) (by rfl) (by rfl) ?_
            refine Ls.pass (some 29) (by rfl) (by rfl) ?_
            refine Ls.pass (some 30) (by rfl) (by rfl) ?_
            refine Ls.ev (some 31) (Ev.pickT (show Oper.op _ = Op.pick (Operand.tmp 27) (Operand.const (Value.bool true)) (Operand.tmp 30) from rfl) (by rfl) (by rfl)) (by rfl) (by rfl) ?_
            refine Ls.ev (some 32) (Ev.move (show Oper.op _ = Op.move (Operand.tmp 31) from rfl) (by rfl)) (by rfl) (by rfl) ?_
            refine Ls.pass (some 33) (by rfl) (by rfl) ?_
            refine Ls.pass (some 34) (by rfl) (by rfl) ?_
            refine Ls.pass (some 35) (by rfl) (by rfl) ?_
            refine Ls.pass (some 36) (by rfl) (by rfl) ?_
            refine Ls.pass (some 37) (by rfl) (by rfl) ?_
            refine Ls.ev (some 38) (Ev.pickT (show Oper.op _ = Op.pick (Operand.tmp 32) (Operand.const (Value.bool true)) (Operand.tmp 37) from rfl) (by rfl) (by rfl)) (by rfl) (by rfl) ?_
            refine Ls.nil ?_
            refine Ent.pick [0, 1] (by rfl) ?_
            refine Ent.inv () ?_ ?_ ?_
            · exact trivial
            · (repeat (first | exact trivial | refine ⟨by rfl, ?_⟩ | refine ⟨by simp only [List.length_append, List.length_cons, List.length_nil]; rfl, ?_⟩ | refine ⟨by push_cast; rfl, ?_⟩ | refine ⟨by (show some (Value.bool _) = some (Value.bool _); congr 2; (first | rfl | exact (decide_eq_true (by omega)).symm | exact (decide_eq_false (by omega)).symm | exact decide_eq_decide.2 (by omega) | exact decide_eq_decide.2 (by split <;> omega))), ?_⟩))
            · rfl
        · first | have hT3 := of_decide_eq_true hT3 | have hT3 := of_not_decide_true hT3 | skip
          refine Ls.pass (some 18) (by rfl) (by rfl) ?_
          refine Ls.pass (some 19) (by rfl) (by rfl) ?_
          refine Ls.pass (some 20) (by rfl) (by rfl) ?_
          refine Ls.ev (some 21) (Ev.pickT (show Oper.op _ = Op.pick (Operand.tmp 17) (Operand.const (Value.bool true)) (Operand.tmp 20) from rfl) (by rfl) (by rfl)) (by rfl) (by rfl) ?_
          refine Ls.ev (some 22) (Ev.move (show Oper.op _ = Op.move (Operand.tmp 21) from rfl) (by rfl)) (by rfl) (by rfl) ?_
          refine Ls.pass (some 23) (by rfl) (by rfl) ?_
          refine Ls.pass (some 24) (by rfl) (by rfl) ?_
          refine Ls.pass (some 25) (by rfl) (by rfl) ?_
          refine Ls.ev (some 26) (Ev.pickT (show Oper.op _ = Op.pick (Operand.tmp 22) (Operand.const (Value.bool true)) (Operand.tmp 25) from rfl) (by rfl) (by rfl)) (by rfl) (by rfl) ?_
          refine Ls.ev (some 27) (Ev.move (show Oper.op _ = Op.move (Operand.tmp 26) from rfl) (by rfl)) (by rfl) (by rfl) ?_
          refine Ls.pass (some 28) (by rfl) (by rfl) ?_
          refine Ls.pass (some 29) (by rfl) (by rfl) ?_
          refine Ls.pass (some 30) (by rfl) (by rfl) ?_
          refine Ls.ev (some 31) (Ev.pickT (show Oper.op _ = Op.pick (Operand.tmp 27) (Operand.const (Value.bool true)) (Operand.tmp 30) from rfl) (by rfl) (by rfl)) (by rfl) (by rfl) ?_
          refine Ls.ev (some 32) (Ev.move (show Oper.op _ = Op.move (Operand.tmp 31) from rfl) (by rfl)) (by rfl) (by rfl) ?_
          refine Ls.pass (some 33) (by rfl) (by rfl) ?_
          refine Ls.pass (some 34) (by rfl) (by rfl) ?_
          refine Ls.pass (some 35) (by rfl) (by rfl) ?_
          refine Ls.pass (some 36) (by rfl) (by rfl) ?_
          refine Ls.pass (some 37) (by rfl) (by rfl) ?_
          refine Ls.ev (some 38) (Ev.pickT (show Oper.op _ = Op.pick (Operand.tmp 32) (Operand.const (Value.bool true)) (Operand.tmp 37) from rfl) (by rfl) (by rfl)) (by rfl) (by rfl) ?_
          refine Ls.nil ?_
          refine Ent.pick [0, 1] (by rfl) ?_
          refine Ent.inv () ?_ ?_ ?_
          · exact trivial
          · (repeat (first | exact trivial | refine ⟨by rfl, ?_⟩ | refine ⟨by simp only [List.length_append, List.length_cons, List.length_nil]; rfl, ?_⟩ | refine ⟨by push_cast; rfl, ?_⟩ | refine ⟨by (show some (Value.bool _) = some (Value.bool _); congr 2; (first | rfl | exact (decide_eq_true (by omega)).symm | exact (decide_eq_false (by omega)).symm | exact decide_eq_decide.2 (by omega) | exact decide_eq_decide.2 (by split <;> omega))), ?_⟩))
          · rfl
      · first | have hT2 := of_decide_eq_true hT2 | have hT2 := of_not_decide_true hT2 | skip
        refine Ls.pass (some 13) (by rfl) (by rfl) ?_
        refine Ls.pass (some 14) (by rfl) (by rfl) ?_
        refine Ls.pass (some 15) (by rfl) (by rfl) ?_
        refine Ls.ev (some 16) (Ev.pickT (show Oper.op _ = Op.pick (Operand.tmp 12) (Operand.const (Value.bool true)) (Operand.tmp 15) from rfl) (by rfl) (by rfl)) (by rfl) (by rfl) ?_
        refine Ls.ev (some 17) (Ev.move (show Oper.op _ = Op.move (Operand.tmp 16) from rfl) (by rfl)) (by rfl) (by rfl) ?_
        refine Ls.pass (some 18) (by rfl) (by rfl) ?_
        refine Ls.pass (some 19) (by rfl) (by rfl) ?_
        refine Ls.pass (some 20) (by rfl) (by rfl) ?_
        refine Ls.ev (some 21) (Ev.pickT (show Oper.op _ = Op.pick (Operand.tmp 17) (Operand.const (Value.bool true)) (Operand.tmp 20) from rfl) (by rfl) (by rfl)) (by rfl) (by rfl) ?_
        refine Ls.ev (some 22) (Ev.move (show Oper.op _ = Op.move (Operand.tmp 21) from rfl) (by rfl)) (by rfl) (by rfl) ?_
        refine Ls.pass (some 23) (by rfl) (by rfl) ?_
        refine Ls.pass (some 24) (by rfl) (by rfl) ?_
        refine Ls.pass (some 25) (by rfl) (by rfl) ?_
        refine Ls.ev (some 26) (Ev.pickT (show Oper.op _ = Op.pick (Operand.tmp 22) (Operand.const (Value.bool true)) (Operand.tmp 25) from rfl) (by rfl) (by rfl)) (by rfl) (by rfl) ?_
        refine Ls.ev (some 27) (Ev.move (show Oper.op _ = Op.move (Operand.tmp 26) from rfl) (by rfl)) (by rfl) (by rfl) ?_
        refine Ls.pass (some 28) (by rfl) (by rfl) ?_
        refine Ls.pass (some 29) (by rfl) (by rfl) ?_
        refine Ls.pass (some 30) (by rfl) (by rfl) ?_
        refine Ls.ev (some 31) (Ev.pickT (show Oper.op _ = Op.pick (Operand.tmp 27) (Operand.const (Value.bool true)) (Operand.tmp 30) from rfl) (by rfl) (by rfl)) (by rfl) (by rfl) ?_
        refine Ls.ev (some 32) (Ev.move (show Oper.op _ = Op.move (Operand.tmp 31) from rfl) (by rfl)) (by rfl) (by rfl) ?_
        refine Ls.pass (some 33) (by rfl) (by rfl) ?_
        refine Ls.pass (some 34) (by rfl) (by rfl) ?_
        refine Ls.pass (some 35) (by rfl) (by rfl) ?_
        refine Ls.pass (some 36) (by rfl) (by rfl) ?_
        refine Ls.pass (some 37) (by rfl) (by rfl) ?_
        refine Ls.ev (some 38) (Ev.pickT (show Oper.op _ = Op.pick (Operand.tmp 32) (Operand.const (Value.bool true)) (Operand.tmp 37) from rfl) (by rfl) (by rfl)) (by rfl) (by rfl) ?_
        refine Ls.nil ?_
        refine Ent.pick [0, 1] (by rfl) ?_
        refine Ent.inv () ?_ ?_ ?_
        · exact trivial
        · (repeat (first | exact trivial | refine ⟨by rfl, ?_⟩ | refine ⟨by simp only [List.length_append, List.length_cons, List.length_nil]; rfl, ?_⟩ | refine ⟨by push_cast; rfl, ?_⟩ | refine ⟨by (show some (Value.bool _) = some (Value.bool _); congr 2; (first | rfl | exact (decide_eq_true (by omega)).symm | exact (decide_eq_false (by omega)).symm | exact decide_eq_decide.2 (by omega) | exact decide_eq_decide.2 (by split <;> omega))), ?_⟩))
        · rfl
    · first | have hT1 := of_decide_eq_true hT1 | have hT1 := of_not_decide_true hT1 | skip
      refine Ls.pass (some 8) (by rfl) (by rfl) ?_
      refine Ls.pass (some 9) (by rfl) (by rfl) ?_
      refine Ls.pass (some 10) (by rfl) (by rfl) ?_
      refine Ls.ev (some 11) (Ev.pickT (show Oper.op _ = Op.pick (Operand.tmp 7) (Operand.const (Value.bool true)) (Operand.tmp 10) from rfl) (by rfl) (by rfl)) (by rfl) (by rfl) ?_
      refine Ls.ev (some 12) (Ev.move (show Oper.op _ = Op.move (Operand.tmp 11) from rfl) (by rfl)) (by rfl) (by rfl) ?_
      refine Ls.pass (some 13) (by rfl) (by rfl) ?_
      refine Ls.pass (some 14) (by rfl) (by rfl) ?_
      refine Ls.pass (some 15) (by rfl) (by rfl) ?_
      refine Ls.ev (some 16) (Ev.pickT (show Oper.op _ = Op.pick (Operand.tmp 12) (Operand.const (Value.bool true)) (Operand.tmp 15) from rfl) (by rfl) (by rfl)) (by rfl) (by rfl) ?_
      refine Ls.ev (some 17) (Ev.move (show Oper.op _ = Op.move (Operand.tmp 16) from rfl) (by rfl)) (by rfl) (by rfl) ?_
      refine Ls.pass (some 18) (by rfl) (by rfl) ?_
      refine Ls.pass (some 19) (by rfl) (by rfl) ?_
      refine Ls.pass (some 20) (by rfl) (by rfl) ?_
      refine Ls.ev (some 21) (Ev.pickT (show Oper.op _ = Op.pick (Operand.tmp 17) (Operand.const (Value.bool true)) (Operand.tmp 20) from rfl) (by rfl) (by rfl)) (by rfl) (by rfl) ?_
      refine Ls.ev (some 22) (Ev.move (show Oper.op _ = Op.move (Operand.tmp 21) from rfl) (by rfl)) (by rfl) (by rfl) ?_
      refine Ls.pass (some 23) (by rfl) (by rfl) ?_
      refine Ls.pass (some 24) (by rfl) (by rfl) ?_
      refine Ls.pass (some 25) (by rfl) (by rfl) ?_
      refine Ls.ev (some 26) (Ev.pickT (show Oper.op _ = Op.pick (Operand.tmp 22) (Operand.const (Value.bool true)) (Operand.tmp 25) from rfl) (by rfl) (by rfl)) (by rfl) (by rfl) ?_
      refine Ls.ev (some 27) (Ev.move (show Oper.op _ = Op.move (Operand.tmp 26) from rfl) (by rfl)) (by rfl) (by rfl) ?_
      refine Ls.pass (some 28) (by rfl) (by rfl) ?_
      refine Ls.pass (some 29) (by rfl) (by rfl) ?_
      refine Ls.pass (some 30) (by rfl) (by rfl) ?_
      refine Ls.ev (some 31) (Ev.pickT (show Oper.op _ = Op.pick (Operand.tmp 27) (Operand.const (Value.bool true)) (Operand.tmp 30) from rfl) (by rfl) (by rfl)) (by rfl) (by rfl) ?_
      refine Ls.ev (some 32) (Ev.move (show Oper.op _ = Op.move (Operand.tmp 31) from rfl) (by rfl)) (by rfl) (by rfl) ?_
      refine Ls.pass (some 33) (by rfl) (by rfl) ?_
      refine Ls.pass (some 34) (by rfl) (by rfl) ?_
      refine Ls.pass (some 35) (by rfl) (by rfl) ?_
      refine Ls.pass (some 36) (by rfl) (by rfl) ?_
      refine Ls.pass (some 37) (by rfl) (by rfl) ?_
      refine Ls.ev (some 38) (Ev.pickT (show Oper.op _ = Op.pick (Operand.tmp 32) (Operand.const (Value.bool true)) (Operand.tmp 37) from rfl) (by rfl) (by rfl)) (by rfl) (by rfl) ?_
      refine Ls.nil ?_
      refine Ent.pick [0, 1] (by rfl) ?_
      refine Ent.inv () ?_ ?_ ?_
      · exact trivial
      · (repeat (first | exact trivial | refine ⟨by rfl, ?_⟩ | refine ⟨by simp only [List.length_append, List.length_cons, List.length_nil]; rfl, ?_⟩ | refine ⟨by push_cast; rfl, ?_⟩ | refine ⟨by (show some (Value.bool _) = some (Value.bool _); congr 2; (first | rfl | exact (decide_eq_true (by omega)).symm | exact (decide_eq_false (by omega)).symm | exact decide_eq_decide.2 (by omega) | exact decide_eq_decide.2 (by split <;> omega))), ?_⟩))
      · rfl
  skip
  rintro _ -
  refine Cd.cond _ (by rfl) (fun h1 => ?_) (fun h1 => ?_)
  · skip
    rw [hd, h1] at hg
    have hg : goodM ⟨w, h, sh, bl⟩ = false := by rw [hg]; rfl
    rw [hg]
    refine Cd.seq ?_
    refine Cd.region ?_
    refine Ls.ev (some 2) (Ev.assign (show Oper.op _ = Op.assign (Operand.const (Value.bool false)) from rfl) (by rfl)) (by rfl) (by rfl) ?_
    refine Ls.nil ?_
    refine Cd.ret ?_
    refine Ent.ret (()) (trivial) (Res.tmp (by rfl) (by rfl)) ?_ [] (by rfl) ?_
    · rfl
    · rfl
  · skip
    rw [hd, h1] at hg
    have hw := isM_dim (m := ⟨w, h, sh, bl⟩) (hd.trans h1)
    have hg : goodM ⟨w, h, sh, bl⟩ = bl.all (isM ⟨w, h, sh, bl⟩) := by rw [hg]; rfl
    rw [hg]
    have hi := fun x => dIs_sl ⟨w, h, sh, bl⟩ hw A c x
    dsimp only [mapV] at hi
    refine Cd.skip ?_
    refine Cd.seq ?_
    refine Cd.seq ?_
    refine Cd.region ?_
    refine Ls.ev (some 3) (Ev.assign (show Oper.op _ = Op.assign (Operand.const (Value.int IntKind.i64 0)) from rfl) (by rfl)) (by rfl) (by rfl) ?_
    refine Ls.nil ?_
    refine Cd.block ?_
    refine Cd.loop (ι := Nat) (fun k => [(1, .pointer (some ⟨g1, 0, none⟩)), (3, .int .i64 k)]) (fun _ => [blk g1 24 [.int .i64 w, .int .i64 h, .int .i64 sh, .slice A bl.length c], rdI A bl]) (fun k => k ≤ bl.length ∧ bl.all (isM ⟨w, h, sh, bl⟩) = (bl.drop k).all (isM ⟨w, h, sh, bl⟩)) (fun k => bl.length - k) (0) (⟨Nat.zero_le _, rfl⟩) ?_ rfl ?_
    · (repeat (first | exact trivial | refine ⟨by rfl, ?_⟩))
    rintro k ⟨hk, hall⟩
    refine Cd.seq ?_
    refine Cd.seq ?_
    refine Cd.region ?_
    refine Ls.ev (some 39) (Ev.move (show Oper.op _ = Op.move (Operand.tmp 3) from rfl) (by rfl)) (by rfl) (by rfl) ?_
    refine Ls.ev (some 40) (Ev.fieldAddr (k := 3) (show Oper.op _ = Op.fieldAddr 24 (Operand.tmp 1) 3 from rfl) (by rfl) (by kernel_rfl) (by rfl)) (by rfl) (by rfl) ?_
    refine Ls.ev (some 41) (Ev.load 0 (show Oper.op _ = Op.load 22 (Operand.tmp 40) from rfl) (by rfl) (by rfl) (by kernel_rfl) (by rfl)) (by rfl) (by rfl) ?_
    refine Ls.ev (some 42) (Ev.len (show Oper.op _ = Op.call { callee := Callee.builtin Builtin.len, args := #[Operand.tmp 41], argTypes := #[22] } from rfl) (by rfl) Try.underlying22) (by rfl) (by rfl) ?_
    refine Ls.ev (some 43) (Ev.lss (show Oper.op _ = Op.binOp BinOp.lss 3 (Operand.tmp 39) (Operand.tmp 42) 3 from rfl) (by rfl) (by rfl)) (by rfl) (by rfl) ?_
    refine Ls.nil ?_
    refine Cd.cond _ (by rfl) (fun h2 => ?_) (fun h2 => ?_)
    · skip
      have hlt : k < bl.length := by have := of_decide_eq_true h2; omega
      obtain ⟨y, hy⟩ := get_of_lt hlt
      have hv : (ints bl)[k * 1]? = some (.int .i64 y) := by unfold ints; simp [hy]
      have hst : (bl.drop k).all (isM ⟨w, h, sh, bl⟩) = (isM ⟨w, h, sh, bl⟩ y && (bl.drop (k + 1)).all (isM ⟨w, h, sh, bl⟩)) := by
        rw [List.drop_eq_getElem_cons hlt, List.all_cons]
        congr 2
        exact (List.getElem?_eq_some_iff.1 hy).2
      refine Ent.rdSome 1 (by rfl) (by omega) (fun ad had => ?_)
      subst had
      refine Cd.skip ?_
      refine Cd.seq ?_
      refine Cd.block ?_
      refine Cd.seq ?_
      refine Cd.draw [] (by kernel_rfl) ?_
      refine Rg.ev 0 (by rfl) (fun _ h => h) (Ev.loads 0 (show Oper.op _ = Op.load 24 (Operand.tmp 1) from rfl) (by rfl) (by rfl) (n := 4) (by kernel_rfl) (by rfl) (by rfl)) (by rfl) (some 46) (by rfl) (by kernel_rfl) (by kernel_rfl) (by kernel_rfl) (by kernel_rfl) ?_
      refine Rg.ev 1 (by rfl) (fun _ h => h) (Ev.fieldAddr (k := 3) (show Oper.op _ = Op.fieldAddr 24 (Operand.tmp 1) 3 from rfl) (by rfl) (by kernel_rfl) (by rfl)) (by rfl) (some 47) (by rfl) (by kernel_rfl) (by kernel_rfl) (by kernel_rfl) (by kernel_rfl) ?_
      refine Rg.ev 2 (by rfl) (fun _ h => h) (Ev.load 0 (show Oper.op _ = Op.load 22 (Operand.tmp 47) from rfl) (by rfl) (by rfl) (by kernel_rfl) (by rfl)) (by rfl) (some 48) (by rfl) (by kernel_rfl) (by kernel_rfl) (by kernel_rfl) (by kernel_rfl) ?_
      refine Rg.ev 3 (by rfl) (fun _ h => h) (Ev.move (show Oper.op _ = Op.move (Operand.tmp 3) from rfl) (by rfl)) (by rfl) (some 49) (by rfl) (by kernel_rfl) (by kernel_rfl) (by kernel_rfl) (by kernel_rfl) ?_
      refine Rg.ev 4 (by rfl) (fun _ h => h) (Ev.indexAt (sz := 1) (show Oper.op _ = Op.indexAddr 22 (Operand.tmp 48) (Operand.tmp 49) from rfl) (by rfl) (by rfl) Try.underlying22 (by kernel_rfl) (by omega)) (by rfl) (some 50) (by rfl) (by kernel_rfl) (by kernel_rfl) (by kernel_rfl) (by kernel_rfl) ?_
      refine Rg.ev 5 (by rfl) (fun _ h => h) (Ev.loadInt (show Oper.op _ = Op.load 3 (Operand.tmp 50) from rfl) (by rfl) (ReadsIn.rd 1 (by rfl)) (by kernel_rfl) (by assumption)) (by rfl) (some 51) (by rfl) (by kernel_rfl) (by kernel_rfl) (by kernel_rfl) (by kernel_rfl) ?_
      refine Rg.does 6 (by rfl) (by kernel_rfl) (Does.read (show Oper.op _ = Op.call { callee := Callee.value (Operand.func 17), args := #[Operand.tmp 46, Operand.tmp 51], argTypes := #[24, 3] } from rfl) Try.func17 (by kernel_rfl) (by kernel_rfl) (hi y) (by rfl) (by rfl) trivial) (by rfl) (some 52) (by rfl) (by exact fun _ _ h => h) ?_
      rintro _ -
      refine Rg.ev 7 (by rfl) (fun _ h => h) (Ev.not (show Oper.op _ = Op.unOp UnOp.not 4 (Operand.tmp 52) from rfl) (by rfl)) (by rfl) (some 53) (by rfl) (by kernel_rfl) (by kernel_rfl) (by kernel_rfl) (by kernel_rfl) ?_
      refine Rg.done (by kernel_rfl) ?_ _
      refine Cd.cond _ (by rfl) (fun h3 => ?_) (fun h3 => ?_)
      · skip
        have h3 : isM ⟨w, h, sh, bl⟩ y = false := by simpa using h3
        rw [hall, hst, h3]
        refine Cd.seq ?_
        refine Cd.region ?_
        refine Ls.ev (some 2) (Ev.assign (show Oper.op _ = Op.assign (Operand.const (Value.bool false)) from rfl) (by rfl)) (by rfl) (by rfl) ?_
        refine Ls.nil ?_
        refine Cd.ret ?_
        refine Ent.ret (()) (trivial) (Res.tmp (by rfl) (by rfl)) ?_ [] (by rfl) ?_
        · rfl
        · rfl
      · skip
        have h3 : isM ⟨w, h, sh, bl⟩ y = true := by simpa using h3
        refine Cd.skip ?_
        refine Cd.region ?_
        refine Ls.ev (some 44) (Ev.move (show Oper.op _ = Op.move (Operand.tmp 3) from rfl) (by rfl)) (by rfl) (by rfl) ?_
        refine Ls.ev (some 45) (Ev.addI (show Oper.op _ = Op.binOp BinOp.add 3 (Operand.tmp 44) (Operand.const (Value.int IntKind.i64 1)) 3 from rfl) (by rfl) (by rfl) (by omega)) (by rfl) (by rfl) ?_
        refine Ls.ev (some 3) (Ev.assign (show Oper.op _ = Op.assign (Operand.tmp 45) from rfl) (by rfl)) (by rfl) (by rfl) ?_
        refine Ls.nil ?_
        refine Ent.inv (k + 1) ?_ ?_ ?_
        · (try dsimp only); exact ⟨⟨hlt, by rw [hall, hst, h3, Bool.true_and]⟩, by omega⟩
        · (repeat (first | exact trivial | refine ⟨by rfl, ?_⟩ | refine ⟨by simp only [List.length_append, List.length_cons, List.length_nil]; rfl, ?_⟩ | refine ⟨by push_cast; rfl, ?_⟩))
        · rfl
    · skip
      have hk2 : bl.length ≤ k := by have := of_decide_eq_false h2; omega
      rw [hall, List.drop_eq_nil_of_le hk2]
      refine Cd.exit ?_
      refine Cd.seq ?_
      refine Cd.region ?_
      refine Ls.ev (some 2) (Ev.assign (show Oper.op _ = Op.assign (Operand.const (Value.bool true)) from rfl) (by rfl)) (by rfl) (by rfl) ?_
      refine Ls.nil ?_
      refine Cd.ret ?_
      refine Ent.ret (()) (trivial) (Res.tmp (by rfl) (by rfl)) ?_ [] (by rfl) ?_
      · rfl
      · rfl
end Go.Proofs.Ytegjoabfoddadaa
/- the document over pieces: a route's faults -/
namespace Go.Proofs.Ytegjoabfoddadaa
open Go.RowKit
section
variable (m : MapP) (hw : Dims m) (A : Option Addr) (c : Nat)
include hw
theorem dCheck_sl (hl : m.bl.length ≤ 17592186044415) (x : RtS) (hx : x.l.length ≤ 1048576) : Fn Try.prog 33 #[.agg (mapV m A c).toArray, .agg x.enc.toArray] [rdI A m.bl, x.rd] Unit (fun _ => .int .i64 (checkR m x.p)) (fun _ => []) (fun _ => True) := by
  have hi := dIs_sl m hw A c
  have hfr := dFree_sl m hw A c hl
  have hnr := dNear_sl m hw A c hl
  obtain ⟨w, h, sh, bl⟩ := m
  obtain ⟨s, D, d, l⟩ := x
  dsimp only [RtS.enc, RtS.rd, RtS.p, mapV] at hx hi hfr hnr ⊢
  rw [check_of]
  refine Fn.enter Try.func33 rfl Try.ntmps33 (by rfl) ?_
  intro w0
  skip
  refine Cd.seq ?_
  refine Cd.region ?_
  refine Ls.does (some 2) (Does.box (show Oper.op _ = Op.box 24 (Operand.tmp 0) from rfl) (by rfl)) (by rfl) (by rfl) ?_
  intro g1 _
  refine Ls.does (some 3) (Does.box (show Oper.op _ = Op.box 41 (Operand.tmp 1) from rfl) (by rfl)) (by rfl) (by rfl) ?_
  intro g2 _
  refine Ls.ev (some 4) (Ev.assign (show Oper.op _ = Op.assign (Operand.const (Value.int IntKind.i64 0)) from rfl) (by rfl)) (by rfl) (by rfl) ?_
  refine Ls.nil ?_
  refine Cd.seq ?_
  refine Cd.region ?_
  refine Ls.ev (some 8) (Ev.fieldAddr (k := 1) (show Oper.op _ = Op.fieldAddr 41 (Operand.tmp 3) 1 from rfl) (by rfl) (by kernel_rfl) (by rfl)) (by rfl) (by rfl) ?_
  refine Ls.ev (some 9) (Ev.load 0 (show Oper.op _ = Op.load 22 (Operand.tmp 8) from rfl) (by rfl) (by rfl) (by kernel_rfl) (by rfl)) (by rfl) (by rfl) ?_
  refine Ls.ev (some 10) (Ev.len (show Oper.op _ = Op.call { callee := Callee.builtin Builtin.len, args := #[Operand.tmp 9], argTypes := #[22] } from rfl) (by rfl) Try.underlying22) (by rfl) (by rfl) ?_
  refine Ls.ev (some 5) (Ev.assign (show Oper.op _ = Op.assign (Operand.tmp 10) from rfl) (by rfl)) (by rfl) (by rfl) ?_
  refine Ls.nil ?_
  refine Cd.seq ?_
  refine Cd.seq ?_
  refine Cd.cut (ι := Unit) (fun _ => [(2, .pointer (some ⟨g1, 0, none⟩)), (3, .pointer (some ⟨g2, 0, none⟩)), (5, .int .i64 l.length), (16, .bool (decide (l.length = 0 ∨ 24 < l.length)))]) (fun _ => [blk g2 41 [.int .i64 s, .slice D l.length d], blk g1 24 [.int .i64 w, .int .i64 h, .int .i64 sh, .slice A bl.length c], rdI A bl, rdI D l]) (fun _ => True) ?_ ?_
  · skip
    refine Cd.region ?_
    refine Ls.ev (some 11) (Ev.move (show Oper.op _ = Op.move (Operand.tmp 5) from rfl) (by rfl)) (by rfl) (by rfl) ?_
    refine Ls.ev (some 12) (Ev.eql (show Oper.op _ = Op.binOp BinOp.eql 3 (Operand.tmp 11) (Operand.const (Value.int IntKind.i64 0)) 3 from rfl) (by rfl) (by rfl)) (by rfl) (by rfl) ?_
    refine Ls.ev (some 13) (Ev.move (show Oper.op _ = Op.move (Operand.tmp 12) from rfl) (by rfl)) (by rfl) (by rfl) ?_
    refine Ent.split 13 (by rfl) (fun hT1 => ?_) (fun hT1 => ?_)
    · first | have hT1 := of_decide_eq_false hT1 | have hT1 := of_not_decide_false hT1 | skip
      refine Ls.ev (some 14) (Ev.move (show Oper.op _ = Op.move (Operand.tmp 5) from rfl) (by rfl)) (by rfl) (by rfl) ?_
      refine Ls.ev (some 15) (Ev.gtr (show Oper.op _ = Op.binOp BinOp.gtr 3 (Operand.tmp 14) (Operand.const (Value.int IntKind.i64 24)) 3 from rfl) (by rfl) (by rfl)) (by rfl) (by rfl) ?_
      refine Ls.ev (some 16) (Ev.pickF (show Oper.op _ = Op.pick (Operand.tmp 13) (Operand.const (Value.bool true)) (Operand.tmp 15) from rfl) (by rfl) (by rfl)) (by rfl) (by rfl) ?_
      refine Ls.nil ?_
      refine Ent.pick [0, 1, 2, 3] (by rfl) ?_
      refine Ent.inv () ?_ ?_ ?_
      · exact trivial
      · (repeat (first | exact trivial | refine ⟨by rfl, ?_⟩ | refine ⟨by simp only [List.length_append, List.length_cons, List.length_nil]; rfl, ?_⟩ | refine ⟨by push_cast; rfl, ?_⟩ | refine ⟨by (show some (Value.bool _) = some (Value.bool _); congr 2; first | rfl | exact (decide_eq_true (by omega)).symm | exact (decide_eq_false (by omega)).symm | exact decide_eq_decide.2 (by omega)), ?_⟩))
      · rfl
    · first | have hT1 := of_decide_eq_true hT1 | have hT1 := of_not_decide_true hT1 | skip
      refine Ls.pass (some 14) (by rfl) (by rfl) ?_
      refine Ls.pass (some 15) (by rfl) (by rfl) ?_
      refine Ls.ev (some 16) (Ev.pickT (show Oper.op _ = Op.pick (Operand.tmp 13) (Operand.const (Value.bool true)) (Operand.tmp 15) from rfl) (by rfl) (by rfl)) (by rfl) (by rfl) ?_
      refine Ls.nil ?_
      refine Ent.pick [0, 1, 2, 3] (by rfl) ?_
      refine Ent.inv () ?_ ?_ ?_
      · exact trivial
      · (repeat (first | exact trivial | refine ⟨by rfl, ?_⟩ | refine ⟨by simp only [List.length_append, List.length_cons, List.length_nil]; rfl, ?_⟩ | refine ⟨by push_cast; rfl, ?_⟩ | refine ⟨by (show some (Value.bool _) = some (Value.bool _); congr 2; first | rfl | exact (decide_eq_true (by omega)).symm | exact (decide_eq_false (by omega)).symm | exact decide_eq_decide.2 (by omega)), ?_⟩))
      · rfl
  skip
  rintro _ -
  refine Cd.cond _ (by rfl) (fun h1 => ?_) (fun h1 => ?_)
  · skip
    rw [if_pos (of_decide_eq_true h1)]
    refine Cd.seq ?_
    refine Cd.region ?_
    refine Ls.ev (some 4) (Ev.assign (show Oper.op _ = Op.assign (Operand.const (Value.int IntKind.i64 130)) from rfl) (by rfl)) (by rfl) (by rfl) ?_
    refine Ls.nil ?_
    refine Cd.ret ?_
    refine Ent.ret (()) (trivial) (Res.tmp (by rfl) (by rfl)) ?_ [] (by rfl) ?_
    · rfl
    · rfl
  · skip
    have h1 := of_decide_eq_false h1
    rw [if_neg h1]
    refine Cd.skip ?_
    refine Cd.seq ?_
    refine Cd.seq ?_
    refine Cd.region ?_
    refine Ls.ev (some 17) (Ev.fieldAddr (k := 0) (show Oper.op _ = Op.fieldAddr 41 (Operand.tmp 3) 0 from rfl) (by rfl) (by kernel_rfl) (by rfl)) (by rfl) (by rfl) ?_
    refine Ls.ev (some 18) (Ev.load 0 (show Oper.op _ = Op.load 3 (Operand.tmp 17) from rfl) (by rfl) (by rfl) (by kernel_rfl) (by rfl)) (by rfl) (by rfl) ?_
    refine Ls.does (some 19) (Does.read (show Oper.op _ = Op.call { callee := Callee.value (Operand.func 46), args := #[Operand.tmp 18], argTypes := #[3] } from rfl) Try.func46 (by kernel_rfl) (by kernel_rfl) (dTick_sl s) (by rfl) (by rfl) trivial) (by rfl) (by rfl) ?_
    rintro _ -
    skip
    refine Ls.ev (some 20) (Ev.not (show Oper.op _ = Op.unOp UnOp.not 4 (Operand.tmp 19) from rfl) (by rfl)) (by rfl) (by rfl) ?_
    refine Ls.ev (some 21) (Ev.move (show Oper.op _ = Op.move (Operand.tmp 20) from rfl) (by rfl)) (by rfl) (by rfl) ?_
    refine Ent.split 21 (by rfl) (fun h2 => ?_) (fun h2 => ?_)
    · skip
      have h2 : 0 ≤ s ∧ s ≤ 1073741824 := by simpa using h2
      refine Ls.ev (some 22) (Ev.fieldAddr (k := 0) (show Oper.op _ = Op.fieldAddr 41 (Operand.tmp 3) 0 from rfl) (by rfl) (by kernel_rfl) (by rfl)) (by rfl) (by rfl) ?_
      refine Ls.ev (some 23) (Ev.load 0 (show Oper.op _ = Op.load 3 (Operand.tmp 22) from rfl) (by rfl) (by rfl) (by kernel_rfl) (by rfl)) (by rfl) (by rfl) ?_
      refine Ls.ev (some 24) (Ev.move (show Oper.op _ = Op.move (Operand.tmp 5) from rfl) (by rfl)) (by rfl) (by rfl) ?_
      refine Ls.ev (some 25) (Ev.addI (show Oper.op _ = Op.binOp BinOp.add 3 (Operand.tmp 23) (Operand.tmp 24) 3 from rfl) (by rfl) (by rfl) (by omega)) (by rfl) (by rfl) ?_
      refine Ls.ev (some 26) (Ev.subI (show Oper.op _ = Op.binOp BinOp.sub 3 (Operand.tmp 25) (Operand.const (Value.int IntKind.i64 1)) 3 from rfl) (by rfl) (by rfl) (by omega)) (by rfl) (by rfl) ?_
      refine Ls.does (some 27) (Does.read (show Oper.op _ = Op.call { callee := Callee.value (Operand.func 46), args := #[Operand.tmp 26], argTypes := #[3] } from rfl) Try.func46 (by kernel_rfl) (by kernel_rfl) (dTick_sl (s + (l.length : Int) - 1)) (by rfl) (by rfl) trivial) (by rfl) (by rfl) ?_
      rintro _ -
      refine Ls.ev (some 28) (Ev.not (show Oper.op _ = Op.unOp UnOp.not 4 (Operand.tmp 27) from rfl) (by rfl)) (by rfl) (by rfl) ?_
      refine Ls.ev (some 29) (Ev.pickF (show Oper.op _ = Op.pick (Operand.tmp 21) (Operand.const (Value.bool true)) (Operand.tmp 28) from rfl) (by rfl) (by rfl)) (by rfl) (by rfl) ?_
      refine Ls.nil ?_
      refine Cd.cond _ (by rfl) (fun h3 => ?_) (fun h3 => ?_)
      · skip
        have h3 : ¬ (0 ≤ s + (l.length : Int) - 1 ∧ s + (l.length : Int) - 1 ≤ 1073741824) := by simp at h3; omega
        rw [if_pos (by omega)]
        refine Cd.seq ?_
        refine Cd.region ?_
        refine Ls.ev (some 4) (Ev.assign (show Oper.op _ = Op.assign (Operand.const (Value.int IntKind.i64 122)) from rfl) (by rfl)) (by rfl) (by rfl) ?_
        refine Ls.nil ?_
        refine Cd.ret ?_
        refine Ent.ret (()) (trivial) (Res.tmp (by rfl) (by rfl)) ?_ [] (by rfl) ?_
        · rfl
        · rfl
      · skip
        have h3 : (0 ≤ s + (l.length : Int) - 1 ∧ s + (l.length : Int) - 1 ≤ 1073741824) := by simpa using h3
        rw [if_neg (show ¬ (s < 0 ∨ 1073741824 - ((l.length : Int) - 1) < s) by omega)]
        skip
        refine Cd.skip ?_
        refine Cd.seq ?_
        refine Cd.seq ?_
        refine Cd.region ?_
        refine Ls.ev (some 6) (Ev.assign (show Oper.op _ = Op.assign (Operand.const (Value.int IntKind.i64 0)) from rfl) (by rfl)) (by rfl) (by rfl) ?_
        refine Ls.nil ?_
        refine Cd.block ?_
        refine Ent.rdSome 3 (by rfl) (by omega) (fun ad had => ?_)
        subst had
        refine Cd.loop (ι := Nat) (fun k => [(2, .pointer (some ⟨g1, 0, none⟩)), (3, .pointer (some ⟨g2, 0, none⟩)), (5, .int .i64 l.length), (6, .int .i64 k)]) (fun _ => [blk g2 41 [.int .i64 s, .slice (some ad) l.length d], blk g1 24 [.int .i64 w, .int .i64 h, .int .i64 sh, .slice A bl.length c], rdI A bl, rdI (some ad) l]) (fun k => k ≤ l.length ∧ cellsE ⟨w, h, sh, bl⟩ l = cellsE ⟨w, h, sh, bl⟩ (l.drop k)) (fun k => l.length - k) (0) (⟨Nat.zero_le _, rfl⟩) ?_ rfl ?_
        · (repeat (first | exact trivial | refine ⟨by rfl, ?_⟩))
        rintro k ⟨hk, hce⟩
        refine Cd.seq ?_
        refine Cd.seq ?_
        refine Cd.region ?_
        refine Ls.ev (some 30) (Ev.move (show Oper.op _ = Op.move (Operand.tmp 6) from rfl) (by rfl)) (by rfl) (by rfl) ?_
        refine Ls.ev (some 31) (Ev.move (show Oper.op _ = Op.move (Operand.tmp 5) from rfl) (by rfl)) (by rfl) (by rfl) ?_
        refine Ls.ev (some 32) (Ev.lss (show Oper.op _ = Op.binOp BinOp.lss 3 (Operand.tmp 30) (Operand.tmp 31) 3 from rfl) (by rfl) (by rfl)) (by rfl) (by rfl) ?_
        refine Ls.nil ?_
        refine Cd.cond _ (by rfl) (fun h4 => ?_) (fun h4 => ?_)
        · skip
          have hlt : k < l.length := by have := of_decide_eq_true h4; omega
          obtain ⟨y, hy⟩ := get_of_lt hlt
          have hv : (ints l)[k * 1]? = some (.int .i64 y) := by unfold ints; simp [hy]
          have hst := cellsE_step (m := ⟨w, h, sh, bl⟩) hy
          refine Cd.skip ?_
          refine Cd.seq ?_
          refine Cd.block ?_
          refine Cd.seq ?_
          refine Cd.seq ?_
          refine Cd.draw [] (by kernel_rfl) ?_
          refine Rg.ev 0 (by rfl) (fun _ h => h) (Ev.loads 1 (show Oper.op _ = Op.load 24 (Operand.tmp 2) from rfl) (by rfl) (by rfl) (n := 4) (by kernel_rfl) (by rfl) (by rfl)) (by rfl) (some 35) (by rfl) (by kernel_rfl) (by kernel_rfl) (by kernel_rfl) (by kernel_rfl) ?_
          refine Rg.ev 1 (by rfl) (fun _ h => h) (Ev.fieldAddr (k := 1) (show Oper.op _ = Op.fieldAddr 41 (Operand.tmp 3) 1 from rfl) (by rfl) (by kernel_rfl) (by rfl)) (by rfl) (some 36) (by rfl) (by kernel_rfl) (by kernel_rfl) (by kernel_rfl) (by kernel_rfl) ?_
          refine Rg.ev 2 (by rfl) (fun _ h => h) (Ev.load 0 (show Oper.op _ = Op.load 22 (Operand.tmp 36) from rfl) (by rfl) (by rfl) (by kernel_rfl) (by rfl)) (by rfl) (some 37) (by rfl) (by kernel_rfl) (by kernel_rfl) (by kernel_rfl) (by kernel_rfl) ?_
          refine Rg.ev 3 (by rfl) (fun _ h => h) (Ev.move (show Oper.op _ = Op.move (Operand.tmp 6) from rfl) (by rfl)) (by rfl) (some 38) (by rfl) (by kernel_rfl) (by kernel_rfl) (by kernel_rfl) (by kernel_rfl) ?_
          refine Rg.ev 4 (by rfl) (fun _ h => h) (Ev.indexAt (sz := 1) (show Oper.op _ = Op.indexAddr 22 (Operand.tmp 37) (Operand.tmp 38) from rfl) (by rfl) (by rfl) Try.underlying22 (by kernel_rfl) (by omega)) (by rfl) (some 39) (by rfl) (by kernel_rfl) (by kernel_rfl) (by kernel_rfl) (by kernel_rfl) ?_
          refine Rg.ev 5 (by rfl) (fun _ h => h) (Ev.loadInt (show Oper.op _ = Op.load 3 (Operand.tmp 39) from rfl) (by rfl) (ReadsIn.rd 3 (by rfl)) (by kernel_rfl) (by assumption)) (by rfl) (some 40) (by rfl) (by kernel_rfl) (by kernel_rfl) (by kernel_rfl) (by kernel_rfl) ?_
          refine Rg.does 6 (by rfl) (by kernel_rfl) (Does.read (show Oper.op _ = Op.call { callee := Callee.value (Operand.func 17), args := #[Operand.tmp 35, Operand.tmp 40], argTypes := #[24, 3] } from rfl) Try.func17 (by kernel_rfl) (by kernel_rfl) (hi y) (by rfl) (by rfl) trivial) (by rfl) (some 41) (by rfl) (by exact fun _ _ h => h) ?_
          rintro _ -
          refine Rg.ev 7 (by rfl) (fun _ h => h) (Ev.not (show Oper.op _ = Op.unOp UnOp.not 4 (Operand.tmp 41) from rfl) (by rfl)) (by rfl) (some 42) (by rfl) (by kernel_rfl) (by kernel_rfl) (by kernel_rfl) (by kernel_rfl) ?_
          refine Rg.done (by kernel_rfl) ?_ _
          refine Cd.cond _ (by rfl) (fun h5 => ?_) (fun h5 => ?_)
          · skip
            have h5 : isM ⟨w, h, sh, bl⟩ y = false := by simpa using h5
            rw [h5, if_neg (by decide)] at hst
            have hq : (if cellsE ⟨w, h, sh, bl⟩ l ≠ 0 then cellsE ⟨w, h, sh, bl⟩ l else stepsE ⟨w, h, sh, bl⟩ l) = 121 := by rw [hce, hst]; rfl
            rw [hq]
            refine Cd.seq ?_
            refine Cd.region ?_
            refine Ls.ev (some 4) (Ev.assign (show Oper.op _ = Op.assign (Operand.const (Value.int IntKind.i64 121)) from rfl) (by rfl)) (by rfl) (by rfl) ?_
            refine Ls.nil ?_
            refine Cd.ret ?_
            refine Ent.ret (()) (trivial) (Res.tmp (by rfl) (by rfl)) ?_ [] (by rfl) ?_
            · rfl
            · rfl
          · skip
            have h5 : isM ⟨w, h, sh, bl⟩ y = true := by simpa using h5
            rw [h5, if_pos rfl] at hst
            refine Cd.skip ?_
            refine Cd.seq ?_
            refine Cd.draw [] (by kernel_rfl) ?_
            refine Rg.ev 0 (by rfl) (fun _ h => h) (Ev.loads 1 (show Oper.op _ = Op.load 24 (Operand.tmp 2) from rfl) (by rfl) (by rfl) (n := 4) (by kernel_rfl) (by rfl) (by rfl)) (by rfl) (some 43) (by rfl) (by kernel_rfl) (by kernel_rfl) (by kernel_rfl) (by kernel_rfl) ?_
            refine Rg.ev 1 (by rfl) (fun _ h => h) (Ev.fieldAddr (k := 1) (show Oper.op _ = Op.fieldAddr 41 (Operand.tmp 3) 1 from rfl) (by rfl) (by kernel_rfl) (by rfl)) (by rfl) (some 44) (by rfl) (by kernel_rfl) (by kernel_rfl) (by kernel_rfl) (by kernel_rfl) ?_
            refine Rg.ev 2 (by rfl) (fun _ h => h) (Ev.load 0 (show Oper.op _ = Op.load 22 (Operand.tmp 44) from rfl) (by rfl) (by rfl) (by kernel_rfl) (by rfl)) (by rfl) (some 45) (by rfl) (by kernel_rfl) (by kernel_rfl) (by kernel_rfl) (by kernel_rfl) ?_
            refine Rg.ev 3 (by rfl) (fun _ h => h) (Ev.move (show Oper.op _ = Op.move (Operand.tmp 6) from rfl) (by rfl)) (by rfl) (some 46) (by rfl) (by kernel_rfl) (by kernel_rfl) (by kernel_rfl) (by kernel_rfl) ?_
            refine Rg.ev 4 (by rfl) (fun _ h => h) (Ev.indexAt (sz := 1) (show Oper.op _ = Op.indexAddr 22 (Operand.tmp 45) (Operand.tmp 46) from rfl) (by rfl) (by rfl) Try.underlying22 (by kernel_rfl) (by omega)) (by rfl) (some 47) (by rfl) (by kernel_rfl) (by kernel_rfl) (by kernel_rfl) (by kernel_rfl) ?_
            refine Rg.ev 5 (by rfl) (fun _ h => h) (Ev.loadInt (show Oper.op _ = Op.load 3 (Operand.tmp 47) from rfl) (by rfl) (ReadsIn.rd 3 (by rfl)) (by kernel_rfl) (by assumption)) (by rfl) (some 48) (by rfl) (by kernel_rfl) (by kernel_rfl) (by kernel_rfl) (by kernel_rfl) ?_
            refine Rg.does 6 (by rfl) (by kernel_rfl) (Does.read (show Oper.op _ = Op.call { callee := Callee.value (Operand.func 47), args := #[Operand.tmp 43, Operand.tmp 48], argTypes := #[24, 3] } from rfl) Try.func47 (by kernel_rfl) (by kernel_rfl) (hfr y) (by rfl) (by rfl) ⟨ReadsIn.rd 2 (by rfl), trivial⟩) (by rfl) (some 49) (by rfl) (by exact fun _ _ h => h) ?_
            rintro _ -
            refine Rg.ev 7 (by rfl) (fun _ h => h) (Ev.not (show Oper.op _ = Op.unOp UnOp.not 4 (Operand.tmp 49) from rfl) (by rfl)) (by rfl) (some 50) (by rfl) (by kernel_rfl) (by kernel_rfl) (by kernel_rfl) (by kernel_rfl) ?_
            refine Rg.done (by kernel_rfl) ?_ _
            refine Cd.cond _ (by rfl) (fun h6 => ?_) (fun h6 => ?_)
            · skip
              have h6 : freeM ⟨w, h, sh, bl⟩ y = false := by simpa using h6
              rw [h6, if_neg (by decide)] at hst
              have hq : (if cellsE ⟨w, h, sh, bl⟩ l ≠ 0 then cellsE ⟨w, h, sh, bl⟩ l else stepsE ⟨w, h, sh, bl⟩ l) = 132 := by rw [hce, hst]; rfl
              rw [hq]
              refine Cd.seq ?_
              refine Cd.region ?_
              refine Ls.ev (some 4) (Ev.assign (show Oper.op _ = Op.assign (Operand.const (Value.int IntKind.i64 132)) from rfl) (by rfl)) (by rfl) (by rfl) ?_
              refine Ls.nil ?_
              refine Cd.ret ?_
              refine Ent.ret (()) (trivial) (Res.tmp (by rfl) (by rfl)) ?_ [] (by rfl) ?_
              · rfl
              · rfl
            · skip
              have h6 : freeM ⟨w, h, sh, bl⟩ y = true := by simpa using h6
              rw [h6, if_pos rfl] at hst
              refine Cd.skip ?_
              refine Cd.region ?_
              refine Ls.ev (some 33) (Ev.move (show Oper.op _ = Op.move (Operand.tmp 6) from rfl) (by rfl)) (by rfl) (by rfl) ?_
              refine Ls.ev (some 34) (Ev.addN (b := 1) (show Oper.op _ = Op.binOp BinOp.add 3 (Operand.tmp 33) (Operand.const (Value.int IntKind.i64 1)) 3 from rfl) (by rfl) (by rfl) (by omega)) (by rfl) (by rfl) ?_
              refine Ls.ev (some 6) (Ev.assign (show Oper.op _ = Op.assign (Operand.tmp 34) from rfl) (by rfl)) (by rfl) (by rfl) ?_
              refine Ls.nil ?_
              refine Ent.inv (k + 1) ?_ ?_ ?_
              · (try dsimp only); exact ⟨⟨by omega, by rw [hce, hst]⟩, by omega⟩
              · (repeat (first | exact trivial | refine ⟨by rfl, ?_⟩ | refine ⟨by simp only [List.length_append, List.length_cons, List.length_nil]; rfl, ?_⟩ | refine ⟨by push_cast; rfl, ?_⟩))
              · rfl
        · skip
          have hkl : k = l.length := by have := of_decide_eq_false h4; omega
          have h0 : cellsE ⟨w, h, sh, bl⟩ l = 0 := by rw [hce, hkl, List.drop_length]; rfl
          rw [h0, if_neg (by decide)]
          refine Cd.exit ?_
          refine Cd.seq ?_
          refine Cd.seq ?_
          refine Cd.region ?_
          refine Ls.ev (some 7) (Ev.assign (show Oper.op _ = Op.assign (Operand.const (Value.int IntKind.i64 1)) from rfl) (by rfl)) (by rfl) (by rfl) ?_
          refine Ls.nil ?_
          refine Cd.block ?_
          refine Cd.loop (ι := Nat) (fun k => [(2, .pointer (some ⟨g1, 0, none⟩)), (3, .pointer (some ⟨g2, 0, none⟩)), (5, .int .i64 l.length), (7, .int .i64 ((k + 1 : Nat) : Int))]) (fun _ => [blk g2 41 [.int .i64 s, .slice (some ad) l.length d], blk g1 24 [.int .i64 w, .int .i64 h, .int .i64 sh, .slice A bl.length c], rdI A bl, rdI (some ad) l]) (fun j => j + 1 ≤ l.length ∧ stepsE ⟨w, h, sh, bl⟩ l = stepsE ⟨w, h, sh, bl⟩ (l.drop j)) (fun j => l.length - j) (0) (⟨by omega, rfl⟩) ?_ rfl ?_
          · (repeat (first | exact trivial | refine ⟨by rfl, ?_⟩))
          rintro j ⟨hj, hse⟩
          dsimp only at hj hse ⊢
          refine Cd.seq ?_
          refine Cd.seq ?_
          refine Cd.region ?_
          refine Ls.ev (some 51) (Ev.move (show Oper.op _ = Op.move (Operand.tmp 7) from rfl) (by rfl)) (by rfl) (by rfl) ?_
          refine Ls.ev (some 52) (Ev.move (show Oper.op _ = Op.move (Operand.tmp 5) from rfl) (by rfl)) (by rfl) (by rfl) ?_
          refine Ls.ev (some 53) (Ev.lss (show Oper.op _ = Op.binOp BinOp.lss 3 (Operand.tmp 51) (Operand.tmp 52) 3 from rfl) (by rfl) (by rfl)) (by rfl) (by rfl) ?_
          refine Ls.nil ?_
          refine Cd.cond _ (by rfl) (fun h7 => ?_) (fun h7 => ?_)
          · skip
            have hlt : j + 1 < l.length := by have := of_decide_eq_true h7; omega
            obtain ⟨x, hx0⟩ := get_of_lt (show j < l.length by omega)
            obtain ⟨y, hy⟩ := get_of_lt hlt
            have hst := stepsE_step (m := ⟨w, h, sh, bl⟩) hx0 hy
            have hv1 : (ints l)[j * 1]? = some (.int .i64 x) := by unfold ints; simp [hx0]
            have hv2 : (ints l)[(j + 1) * 1]? = some (.int .i64 y) := by unfold ints; simp [hy]
            refine Cd.skip ?_
            refine Cd.seq ?_
            refine Cd.block ?_
            refine Cd.seq ?_
            refine Cd.draw [] (by kernel_rfl) ?_
            refine Rg.ev 0 (by rfl) (fun _ h => h) (Ev.loads 1 (show Oper.op _ = Op.load 24 (Operand.tmp 2) from rfl) (by rfl) (by rfl) (n := 4) (by kernel_rfl) (by rfl) (by rfl)) (by rfl) (some 56) (by rfl) (by kernel_rfl) (by kernel_rfl) (by kernel_rfl) (by kernel_rfl) ?_
            refine Rg.ev 1 (by rfl) (fun _ h => h) (Ev.fieldAddr (k := 1) (show Oper.op _ = Op.fieldAddr 41 (Operand.tmp 3) 1 from rfl) (by rfl) (by kernel_rfl) (by rfl)) (by rfl) (some 57) (by rfl) (by kernel_rfl) (by kernel_rfl) (by kernel_rfl) (by kernel_rfl) ?_
            refine Rg.ev 2 (by rfl) (fun _ h => h) (Ev.load 0 (show Oper.op _ = Op.load 22 (Operand.tmp 57) from rfl) (by rfl) (by rfl) (by kernel_rfl) (by rfl)) (by rfl) (some 58) (by rfl) (by kernel_rfl) (by kernel_rfl) (by kernel_rfl) (by kernel_rfl) ?_
            refine Rg.ev 3 (by rfl) (fun _ h => h) (Ev.move (show Oper.op _ = Op.move (Operand.tmp 7) from rfl) (by rfl)) (by rfl) (some 59) (by rfl) (by kernel_rfl) (by kernel_rfl) (by kernel_rfl) (by kernel_rfl) ?_
            refine Rg.ev 4 (by rfl) (fun _ h => h) (Ev.to (Ev.subI (show Oper.op _ = Op.binOp BinOp.sub 3 (Operand.tmp 59) (Operand.const (Value.int IntKind.i64 1)) 3 from rfl) (by rfl) (by rfl) (by omega)) (show Value.int _ _ = .int .i64 (j : Nat) by congr 1; omega)) (by rfl) (some 60) (by rfl) (by kernel_rfl) (by kernel_rfl) (by kernel_rfl) (by kernel_rfl) ?_
            refine Rg.ev 5 (by rfl) (fun _ h => h) (Ev.indexAt (sz := 1) (show Oper.op _ = Op.indexAddr 22 (Operand.tmp 58) (Operand.tmp 60) from rfl) (by rfl) (by rfl) Try.underlying22 (by kernel_rfl) (by omega)) (by rfl) (some 61) (by rfl) (by kernel_rfl) (by kernel_rfl) (by kernel_rfl) (by kernel_rfl) ?_
            refine Rg.ev 6 (by rfl) (fun _ h => h) (Ev.loadInt (show Oper.op _ = Op.load 3 (Operand.tmp 61) from rfl) (by rfl) (ReadsIn.rd 3 (by rfl)) (by kernel_rfl) (by assumption)) (by rfl) (some 62) (by rfl) (by kernel_rfl) (by kernel_rfl) (by kernel_rfl) (by kernel_rfl) ?_
            refine Rg.ev 7 (by rfl) (fun _ h => h) (Ev.fieldAddr (k := 1) (show Oper.op _ = Op.fieldAddr 41 (Operand.tmp 3) 1 from rfl) (by rfl) (by kernel_rfl) (by rfl)) (by rfl) (some 63) (by rfl) (by kernel_rfl) (by kernel_rfl) (by kernel_rfl) (by kernel_rfl) ?_
            refine Rg.ev 8 (by rfl) (fun _ h => h) (Ev.load 0 (show Oper.op _ = Op.load 22 (Operand.tmp 63) from rfl) (by rfl) (by rfl) (by kernel_rfl) (by rfl)) (by rfl) (some 64) (by rfl) (by kernel_rfl) (by kernel_rfl) (by kernel_rfl) (by kernel_rfl) ?_
            refine Rg.ev 9 (by rfl) (fun _ h => h) (Ev.move (show Oper.op _ = Op.move (Operand.tmp 7) from rfl) (by rfl)) (by rfl) (some 65) (by rfl) (by kernel_rfl) (by kernel_rfl) (by kernel_rfl) (by kernel_rfl) ?_
            refine Rg.ev 10 (by rfl) (fun _ h => h) (Ev.indexAt (sz := 1) (show Oper.op _ = Op.indexAddr 22 (Operand.tmp 64) (Operand.tmp 65) from rfl) (by rfl) (by rfl) Try.underlying22 (by kernel_rfl) (by omega)) (by rfl) (some 66) (by rfl) (by kernel_rfl) (by kernel_rfl) (by kernel_rfl) (by kernel_rfl) ?_
            refine Rg.ev 11 (by rfl) (fun _ h => h) (Ev.loadInt (show Oper.op _ = Op.load 3 (Operand.tmp 66) from rfl) (by rfl) (ReadsIn.rd 3 (by rfl)) (by kernel_rfl) (by assumption)) (by rfl) (some 67) (by rfl) (by kernel_rfl) (by kernel_rfl) (by kernel_rfl) (by kernel_rfl) ?_
            refine Rg.does 12 (by rfl) (by kernel_rfl) (Does.read (show Oper.op _ = Op.call { callee := Callee.value (Operand.func 48), args := #[Operand.tmp 56, Operand.tmp 62, Operand.tmp 67], argTypes := #[24, 3, 3] } from rfl) Try.func48 (by kernel_rfl) (by kernel_rfl) (hnr x y) (by rfl) (by rfl) ⟨ReadsIn.rd 2 (by rfl), trivial⟩) (by rfl) (some 68) (by rfl) (by exact fun _ _ h => h) ?_
            rintro _ -
            refine Rg.ev 13 (by rfl) (fun _ h => h) (Ev.not (show Oper.op _ = Op.unOp UnOp.not 4 (Operand.tmp 68) from rfl) (by rfl)) (by rfl) (some 69) (by rfl) (by kernel_rfl) (by kernel_rfl) (by kernel_rfl) (by kernel_rfl) ?_
            refine Rg.done (by kernel_rfl) ?_ _
            refine Cd.cond _ (by rfl) (fun h8 => ?_) (fun h8 => ?_)
            · skip
              have h8 : nearM ⟨w, h, sh, bl⟩ x y = false := by simpa using h8
              rw [h8, if_neg (by decide)] at hst
              rw [hse, hst]
              refine Cd.seq ?_
              refine Cd.region ?_
              refine Ls.ev (some 4) (Ev.assign (show Oper.op _ = Op.assign (Operand.const (Value.int IntKind.i64 131)) from rfl) (by rfl)) (by rfl) (by rfl) ?_
              refine Ls.nil ?_
              refine Cd.ret ?_
              refine Ent.ret (()) (trivial) (Res.tmp (by rfl) (by rfl)) ?_ [] (by rfl) ?_
              · rfl
              · rfl
            · skip
              have h8 : nearM ⟨w, h, sh, bl⟩ x y = true := by simpa using h8
              rw [h8, if_pos rfl] at hst
              refine Cd.skip ?_
              refine Cd.region ?_
              refine Ls.ev (some 54) (Ev.move (show Oper.op _ = Op.move (Operand.tmp 7) from rfl) (by rfl)) (by rfl) (by rfl) ?_
              refine Ls.ev (some 55) (Ev.addN (b := 1) (show Oper.op _ = Op.binOp BinOp.add 3 (Operand.tmp 54) (Operand.const (Value.int IntKind.i64 1)) 3 from rfl) (by rfl) (by rfl) (by omega)) (by rfl) (by rfl) ?_
              refine Ls.ev (some 7) (Ev.assign (show Oper.op _ = Op.assign (Operand.tmp 55) from rfl) (by rfl)) (by rfl) (by rfl) ?_
              refine Ls.nil ?_
              refine Ent.inv (j + 1) ?_ ?_ ?_
              · (try dsimp only); exact ⟨⟨by omega, by rw [hse, hst]⟩, by omega⟩
              · (repeat (first | exact trivial | refine ⟨by rfl, ?_⟩ | refine ⟨by simp only [List.length_append, List.length_cons, List.length_nil]; rfl, ?_⟩ | refine ⟨by push_cast; rfl, ?_⟩))
              · rfl
          · skip
            have h9 : stepsE ⟨w, h, sh, bl⟩ l = 0 := by
              rw [hse]
              exact stepsE_end (by have := of_decide_eq_false h7; rw [List.length_drop]; omega)
            rw [h9]
            refine Cd.exit ?_
            refine Cd.seq ?_
            refine Cd.region ?_
            refine Ls.ev (some 4) (Ev.assign (show Oper.op _ = Op.assign (Operand.const (Value.int IntKind.i64 0)) from rfl) (by rfl)) (by rfl) (by rfl) ?_
            refine Ls.nil ?_
            refine Cd.ret ?_
            refine Ent.ret (()) (trivial) (Res.tmp (by rfl) (by rfl)) ?_ [] (by rfl) ?_
            · rfl
            · rfl
    · skip
      have h2 : ¬ (0 ≤ s ∧ s ≤ 1073741824) := by simp at h2; omega
      rw [if_pos (show s < 0 ∨ 1073741824 - ((l.length : Int) - 1) < s by omega)]
      refine Ls.pass (some 22) (by rfl) (by rfl) ?_
      refine Ls.pass (some 23) (by rfl) (by rfl) ?_
      refine Ls.pass (some 24) (by rfl) (by rfl) ?_
      refine Ls.pass (some 25) (by rfl) (by rfl) ?_
      refine Ls.pass (some 26) (by rfl) (by rfl) ?_
      refine Ls.pass (some 27) (by rfl) (by rfl) ?_
      refine Ls.pass (some 28) (by rfl) (by rfl) ?_
      refine Ls.ev (some 29) (Ev.pickT (show Oper.op _ = Op.pick (Operand.tmp 21) (Operand.const (Value.bool true)) (Operand.tmp 28) from rfl) (by rfl) (by rfl)) (by rfl) (by rfl) ?_
      refine Ls.nil ?_
      skip
      refine Cd.cond_true (by rfl) (rfl) ?_
      refine Cd.seq ?_
      refine Cd.region ?_
      refine Ls.ev (some 4) (Ev.assign (show Oper.op _ = Op.assign (Operand.const (Value.int IntKind.i64 122)) from rfl) (by rfl)) (by rfl) (by rfl) ?_
      refine Ls.nil ?_
      refine Cd.ret ?_
      refine Ent.ret (()) (trivial) (Res.tmp (by rfl) (by rfl)) ?_ [] (by rfl) ?_
      · rfl
      · rfl
end
end Go.Proofs.Ytegjoabfoddadaa
/- the document over pieces: what is left of a route -/
namespace Go.Proofs.Ytegjoabfoddadaa
open Go.RowKit
def cutD (s now : Int) : Nat := (now - s).toNat
theorem cut_doc {s now : Int} {l : List Int} (hp : l.length = 0 ∨ (l.length ≤ 24 ∧ 0 ≤ s ∧ s ≤ 1073741824)) : (⟨if l.length ≤ cutD s now then 0 else s + cutD s now, l.drop (cutD s now)⟩ : RtP) = cutR ⟨s, l⟩ now := by
  unfold cutD
  by_cases h : ¬ (l.length ≤ 24 ∧ 0 ≤ s ∧ s ≤ 1073741824) ∨ l.length = 0 ∨ s + (l.length : Int) - 1 < now
  · have hd : l.length ≤ (now - s).toNat := by omega
    rw [cut_none h, if_pos hd, List.drop_eq_nil_of_le hd]
    rfl
  · rw [cut_some h, if_neg (by omega)]
    by_cases h2 : now ≤ s
    · rw [if_pos h2, show (now - s).toNat = 0 by omega]
      simp
    · rw [if_neg h2, show s + ((now - s).toNat : Int) = now by omega]
theorem cut_bad {s now : Int} {l : List Int} (hp : ¬ (l.length ≤ 24 ∧ 0 ≤ s ∧ s ≤ 1073741824)) : noR = cutR ⟨s, l⟩ now := (cut_none (.inl hp)).symm
theorem cut_step {l o : List Int} {k d : Nat} {y : Int} (hy : l[k]? = some y) (hd : d ≤ k) (ho : o = (l.take k).drop d) : o ++ [y] = (l.take (k + 1)).drop d := by
  have hk : k < l.length := (List.getElem?_eq_some_iff.1 hy).1
  rw [ho, List.take_add_one, hy, List.drop_append_of_le_length (by rw [List.length_take]; omega)]
  rfl
theorem dCut_sl (x : RtS) (hx : x.l.length ≤ 1048576) (now : Int) : Fn Try.prog 31 #[.agg x.enc.toArray, .int .i64 now] [x.rd] RtS (fun y => .agg y.enc.toArray) (fun y => [y.row]) (fun y => y.p = cutR x.p now) := by
  have hpl := dPlain_sl x hx
  have hpr : planR x.p = decide (x.l.length ≤ 24 ∧ 0 ≤ x.s ∧ x.s ≤ 1073741824) := by
    rw [Bool.eq_iff_iff, planR_iff, decide_eq_true_iff]
    rfl
  rw [hpr] at hpl
  clear hpr
  obtain ⟨s, D, d, l⟩ := x
  dsimp only [RtS.enc, RtS.rd, RtS.p] at hpl hx ⊢
  refine Fn.enter Try.func31 rfl Try.ntmps31 (by rfl) ?_
  intro w0
  refine Cd.seq ?_
  refine Cd.region ?_
  refine Ls.does (some 2) (Does.box (show Oper.op _ = Op.box 41 (Operand.tmp 0) from rfl) (by rfl)) (by rfl) (by rfl) ?_
  intro g1 _
  refine Ls.does (some 4) (Does.alloc (cs := [.int .i64 0, .slice none 0 0]) (show Oper.op _ = Op.alloc 41 from rfl) (ZeroIs.mk (.agg #[.int .i64 0, .slice none 0 0]) (by kernel_rfl) (by rfl))) (by rfl) (by rfl) ?_
  intro g2 _
  refine Ls.nil ?_
  refine Cd.seq ?_
  refine Cd.region ?_
  refine Ls.ev (some 7) (Ev.buildP (pl := [(0, 1), (1, 1)]) (zs := [.int .i64 0, .slice none 0 0]) (show Oper.op _ = Op.build 41 #[] from rfl) (by rfl) (by kernel_rfl) (by rfl)) (by rfl) (by rfl) ?_
  refine Ls.does (some 5) (Does.alloc (cs := [.int .i64 0, .slice none 0 0]) (show Oper.op _ = Op.alloc 41 from rfl) (ZeroIs.mk (.agg #[.int .i64 0, .slice none 0 0]) (by kernel_rfl) (by rfl))) (by rfl) (by rfl) ?_
  intro g3 _
  refine Ls.does none (Does.store 0 (show Oper.op _ = Op.store 41 (Operand.tmp 5) (Operand.tmp 7) from rfl) (by rfl) (by rfl) (by rfl) (by kernel_rfl) (by rfl) (by kernel_rfl) (by rfl)) (by rfl) (by rfl) ?_
  intro _ _
  refine Ls.nil ?_
  refine Cd.seq ?_
  refine Cd.seq ?_
  refine Cd.region ?_
  refine Ls.ev (some 6) (Ev.assign (show Oper.op _ = Op.assign (Operand.const (Value.int IntKind.i64 0)) from rfl) (by rfl)) (by rfl) (by rfl) ?_
  refine Ls.nil ?_
  refine Cd.block ?_
  refine Ent.nil 3 1 ?_
  refine Ent.pick [1, 0, 2, 3, 4] (by rfl) ?_
  refine Cd.loop (ι := Nat × RtS) (fun j => [(1, .int .i64 now), (2, .pointer (some ⟨g1, 0, none⟩)), (4, .pointer (some ⟨g2, 0, none⟩)), (5, .pointer (some ⟨g3, 0, none⟩)), (6, .int .i64 j.1)]) (fun j => [blk g3 41 j.2.enc, j.2.row, blk g2 41 [.int .i64 0, .slice none 0 0], blk g1 41 [.int .i64 s, .slice D l.length d], rdI D l]) (fun j => j.1 ≤ l.length ∧ (j.1 = 0 ∨ (l.length ≤ 24 ∧ 0 ≤ s ∧ s ≤ 1073741824)) ∧ j.2.l = (l.take j.1).drop (cutD s now) ∧ j.2.s = (if j.1 ≤ cutD s now then 0 else s + cutD s now)) (fun j => l.length - j.1) ((0, ⟨0, none, 0, []⟩)) (⟨Nat.zero_le _, .inl rfl, by simp, by simp⟩) ?_ rfl ?_
  · (repeat (first | exact trivial | refine ⟨by rfl, ?_⟩))
  rintro ⟨k, os, O, oc, o⟩ ⟨hk, hpk, hol, hos⟩
  dsimp only [RtS.enc, RtS.row] at hk hpk hol hos ⊢
  refine Cd.seq ?_
  refine Cd.seq ?_
  refine Cd.region ?_
  refine Ls.ev (some 8) (Ev.move (show Oper.op _ = Op.move (Operand.tmp 6) from rfl) (by rfl)) (by rfl) (by rfl) ?_
  refine Ls.ev (some 9) (Ev.fieldAddr (k := 1) (show Oper.op _ = Op.fieldAddr 41 (Operand.tmp 2) 1 from rfl) (by rfl) (by kernel_rfl) (by rfl)) (by rfl) (by rfl) ?_
  refine Ls.ev (some 10) (Ev.load 3 (show Oper.op _ = Op.load 22 (Operand.tmp 9) from rfl) (by rfl) (by rfl) (by kernel_rfl) (by rfl)) (by rfl) (by rfl) ?_
  refine Ls.ev (some 11) (Ev.len (show Oper.op _ = Op.call { callee := Callee.builtin Builtin.len, args := #[Operand.tmp 10], argTypes := #[22] } from rfl) (by rfl) Try.underlying22) (by rfl) (by rfl) ?_
  refine Ls.ev (some 12) (Ev.lss (show Oper.op _ = Op.binOp BinOp.lss 3 (Operand.tmp 8) (Operand.tmp 11) 3 from rfl) (by rfl) (by rfl)) (by rfl) (by rfl) ?_
  refine Ls.ev (some 13) (Ev.move (show Oper.op _ = Op.move (Operand.tmp 12) from rfl) (by rfl)) (by rfl) (by rfl) ?_
  refine Ent.split 13 (by rfl) (fun h1 => ?_) (fun h1 => ?_)
  · skip
    have hkl : k = l.length := by have := of_decide_eq_false h1; omega
    subst hkl
    refine Ls.pass (some 14) (by rfl) (by rfl) ?_
    refine Ls.pass (some 15) (by rfl) (by rfl) ?_
    refine Ls.ev (some 16) (Ev.pickF (show Oper.op _ = Op.pick (Operand.tmp 13) (Operand.tmp 15) (Operand.const (Value.bool false)) from rfl) (by rfl) (by rfl)) (by rfl) (by rfl) ?_
    refine Ls.nil ?_
    skip
    refine Cd.cond_false (by rfl) (rfl) ?_
    refine Cd.exit ?_
    refine Cd.seq ?_
    refine Cd.region ?_
    refine Ls.ev (some 44) (Ev.loads 0 (show Oper.op _ = Op.load 41 (Operand.tmp 5) from rfl) (by rfl) (by rfl) (n := 2) (by kernel_rfl) (by rfl) (by rfl)) (by rfl) (by rfl) ?_
    refine Ls.does none (Does.store 2 (show Oper.op _ = Op.store 41 (Operand.tmp 4) (Operand.tmp 44) from rfl) (by rfl) (by rfl) (by rfl) (by kernel_rfl) (by rfl) (by kernel_rfl) (by rfl)) (by rfl) (by rfl) ?_
    intro _ _
    refine Ls.nil ?_
    refine Cd.ret ?_
    refine Ent.ret (⟨os, O, oc, o⟩) (by rw [← cut_doc (by omega)]; dsimp only [RtS.p]; rw [hol, hos, List.take_length]) (Res.cell 2 (by rfl) (by rfl) (by rfl) (n := 2) (by kernel_rfl) (by rfl) (by rfl)) ?_ [1] (by rfl) ?_
    · rfl
    · rfl
  · skip
    have hlt : k < l.length := by have := of_decide_eq_true h1; omega
    refine Ls.ev (some 14) (Ev.loads 3 (show Oper.op _ = Op.load 41 (Operand.tmp 2) from rfl) (by rfl) (by rfl) (n := 2) (by kernel_rfl) (by rfl) (by rfl)) (by rfl) (by rfl) ?_
    refine Ls.does (some 15) (Does.read (show Oper.op _ = Op.call { callee := Callee.value (Operand.func 45), args := #[Operand.tmp 14], argTypes := #[41] } from rfl) Try.func45 (by kernel_rfl) (by kernel_rfl) (hpl) (by rfl) (by rfl) trivial) (by rfl) (by rfl) ?_
    rintro _ -
    refine Ls.ev (some 16) (Ev.pickT (show Oper.op _ = Op.pick (Operand.tmp 13) (Operand.tmp 15) (Operand.const (Value.bool false)) from rfl) (by rfl) (by rfl)) (by rfl) (by rfl) ?_
    refine Ls.nil ?_
    refine Cd.cond _ (by rfl) (fun h2 => ?_) (fun h2 => ?_)
    · skip
      have hpp := of_decide_eq_true h2
      obtain ⟨y, hy⟩ := get_of_lt hlt
      have hv : (ints l)[k * 1]? = some (.int .i64 y) := by unfold ints; simp [hy]
      skip
      refine Cd.skip ?_
      refine Cd.seq ?_
      refine Cd.block ?_
      refine Cd.seq ?_
      refine Cd.region ?_
      refine Ls.ev (some 19) (Ev.fieldAddr (k := 0) (show Oper.op _ = Op.fieldAddr 41 (Operand.tmp 2) 0 from rfl) (by rfl) (by kernel_rfl) (by rfl)) (by rfl) (by rfl) ?_
      refine Ls.ev (some 20) (Ev.load 3 (show Oper.op _ = Op.load 3 (Operand.tmp 19) from rfl) (by rfl) (by rfl) (by kernel_rfl) (by rfl)) (by rfl) (by rfl) ?_
      refine Ls.ev (some 21) (Ev.move (show Oper.op _ = Op.move (Operand.tmp 6) from rfl) (by rfl)) (by rfl) (by rfl) ?_
      refine Ls.ev (some 22) (Ev.addI (show Oper.op _ = Op.binOp BinOp.add 3 (Operand.tmp 20) (Operand.tmp 21) 3 from rfl) (by rfl) (by rfl) (by omega)) (by rfl) (by rfl) ?_
      refine Ls.ev (some 23) (Ev.move (show Oper.op _ = Op.move (Operand.tmp 1) from rfl) (by rfl)) (by rfl) (by rfl) ?_
      refine Ls.ev (some 24) (Ev.geq (show Oper.op _ = Op.binOp BinOp.geq 3 (Operand.tmp 22) (Operand.tmp 23) 3 from rfl) (by rfl) (by rfl)) (by rfl) (by rfl) ?_
      refine Ls.nil ?_
      refine Cd.cond _ (by rfl) (fun h3 => ?_) (fun h3 => ?_)
      · skip
        have h3 := of_decide_eq_true h3
        have hdk : cutD s now ≤ k := by unfold cutD; omega
        skip
        refine Cd.seq ?_
        refine Cd.seq ?_
        refine Cd.region ?_
        refine Ls.ev (some 25) (Ev.fieldAddr (k := 1) (show Oper.op _ = Op.fieldAddr 41 (Operand.tmp 5) 1 from rfl) (by rfl) (by kernel_rfl) (by rfl)) (by rfl) (by rfl) ?_
        refine Ls.ev (some 26) (Ev.load 0 (show Oper.op _ = Op.load 22 (Operand.tmp 25) from rfl) (by rfl) (by rfl) (by kernel_rfl) (by rfl)) (by rfl) (by rfl) ?_
        refine Ls.ev (some 27) (Ev.len (show Oper.op _ = Op.call { callee := Callee.builtin Builtin.len, args := #[Operand.tmp 26], argTypes := #[22] } from rfl) (by rfl) Try.underlying22) (by rfl) (by rfl) ?_
        refine Ls.ev (some 28) (Ev.eql (show Oper.op _ = Op.binOp BinOp.eql 3 (Operand.tmp 27) (Operand.const (Value.int IntKind.i64 0)) 3 from rfl) (by rfl) (by rfl)) (by rfl) (by rfl) ?_
        refine Ls.nil ?_
        refine Cd.cut (ι := Unit) (fun _ => [(1, .int .i64 now), (2, .pointer (some ⟨g1, 0, none⟩)), (4, .pointer (some ⟨g2, 0, none⟩)), (5, .pointer (some ⟨g3, 0, none⟩)), (6, .int .i64 k)]) (fun _ => [blk g3 41 [.int .i64 (s + cutD s now), .slice O o.length oc], row O o.length oc 3 1 (ints o), blk g2 41 [.int .i64 0, .slice none 0 0], blk g1 41 [.int .i64 s, .slice D l.length d], rdI D l]) (fun _ => True) ?_ ?_
        · skip
          refine Cd.cond _ (by rfl) (fun h4 => ?_) (fun h4 => ?_)
          · skip
            have h4 : o.length = 0 := by have := of_decide_eq_true h4; omega
            have hk2 : k = cutD s now := by rw [hol, List.length_drop, List.length_take] at h4; omega
            skip
            refine Cd.region ?_
            refine Ls.ev (some 29) (Ev.fieldAddr (k := 0) (show Oper.op _ = Op.fieldAddr 41 (Operand.tmp 2) 0 from rfl) (by rfl) (by kernel_rfl) (by rfl)) (by rfl) (by rfl) ?_
            refine Ls.ev (some 30) (Ev.load 3 (show Oper.op _ = Op.load 3 (Operand.tmp 29) from rfl) (by rfl) (by rfl) (by kernel_rfl) (by rfl)) (by rfl) (by rfl) ?_
            refine Ls.ev (some 31) (Ev.move (show Oper.op _ = Op.move (Operand.tmp 6) from rfl) (by rfl)) (by rfl) (by rfl) ?_
            refine Ls.ev (some 32) (Ev.addI (show Oper.op _ = Op.binOp BinOp.add 3 (Operand.tmp 30) (Operand.tmp 31) 3 from rfl) (by rfl) (by rfl) (by omega)) (by rfl) (by rfl) ?_
            refine Ls.ev (some 33) (Ev.fieldAddr (k := 0) (show Oper.op _ = Op.fieldAddr 41 (Operand.tmp 5) 0 from rfl) (by rfl) (by kernel_rfl) (by rfl)) (by rfl) (by rfl) ?_
            refine Ls.does none (Does.store 0 (show Oper.op _ = Op.store 3 (Operand.tmp 33) (Operand.tmp 32) from rfl) (by rfl) (by rfl) (by rfl) (by kernel_rfl) (by rfl) (by kernel_rfl) (by rfl)) (by rfl) (by rfl) ?_
            intro _ _
            refine Ls.nil ?_
            refine Ent.inv (()) ?_ ?_ ?_
            · (try dsimp only); skip
            · (repeat (first | exact trivial | refine ⟨by rfl, ?_⟩ | refine ⟨by simp only [List.length_append, List.length_cons, List.length_nil]; rfl, ?_⟩ | refine ⟨by push_cast; rfl, ?_⟩))
            · rw [show s + (k : Int) = s + cutD s now by omega]; rfl
          · skip
            have h4 : ¬ o.length = 0 := by have := of_decide_eq_false h4; omega
            have hk2 : ¬ k ≤ cutD s now := by rw [hol, List.length_drop, List.length_take] at h4; omega
            rw [if_neg hk2] at hos
            subst hos
            refine Cd.skip ?_
            refine Ent.inv (()) ?_ ?_ ?_
            · (try dsimp only); skip
            · (repeat (first | exact trivial | refine ⟨by rfl, ?_⟩ | refine ⟨by simp only [List.length_append, List.length_cons, List.length_nil]; rfl, ?_⟩ | refine ⟨by push_cast; rfl, ?_⟩))
            · rfl
        skip
        rintro _ -
        skip
        refine Ent.rdSome 4 (by rfl) (by omega) (fun ad had => ?_)
        subst had
        refine Cd.draw [8] (by kernel_rfl) ?_
        refine Rg.ev 0 (by rfl) (fun _ h => h) (Ev.fieldAddr (k := 1) (show Oper.op _ = Op.fieldAddr 41 (Operand.tmp 5) 1 from rfl) (by rfl) (by kernel_rfl) (by rfl)) (by rfl) (some 34) (by rfl) (by kernel_rfl) (by kernel_rfl) (by kernel_rfl) (by kernel_rfl) ?_
        refine Rg.ev 1 (by rfl) (fun _ h => h) (Ev.load 0 (show Oper.op _ = Op.load 22 (Operand.tmp 34) from rfl) (by rfl) (by rfl) (by kernel_rfl) (by rfl)) (by rfl) (some 35) (by rfl) (by kernel_rfl) (by kernel_rfl) (by kernel_rfl) (by kernel_rfl) ?_
        refine Rg.ev 2 (by rfl) (fun _ h => h) (Ev.fieldAddr (k := 1) (show Oper.op _ = Op.fieldAddr 41 (Operand.tmp 2) 1 from rfl) (by rfl) (by kernel_rfl) (by rfl)) (by rfl) (some 36) (by rfl) (by kernel_rfl) (by kernel_rfl) (by kernel_rfl) (by kernel_rfl) ?_
        refine Rg.ev 3 (by rfl) (fun _ h => h) (Ev.load 3 (show Oper.op _ = Op.load 22 (Operand.tmp 36) from rfl) (by rfl) (by rfl) (by kernel_rfl) (by rfl)) (by rfl) (some 37) (by rfl) (by kernel_rfl) (by kernel_rfl) (by kernel_rfl) (by kernel_rfl) ?_
        refine Rg.ev 4 (by rfl) (fun _ h => h) (Ev.move (show Oper.op _ = Op.move (Operand.tmp 6) from rfl) (by rfl)) (by rfl) (some 38) (by rfl) (by kernel_rfl) (by kernel_rfl) (by kernel_rfl) (by kernel_rfl) ?_
        refine Rg.ev 5 (by rfl) (fun _ h => h) (Ev.indexAt (sz := 1) (show Oper.op _ = Op.indexAddr 22 (Operand.tmp 37) (Operand.tmp 38) from rfl) (by rfl) (by rfl) Try.underlying22 (by kernel_rfl) (by omega)) (by rfl) (some 39) (by rfl) (by kernel_rfl) (by kernel_rfl) (by kernel_rfl) (by kernel_rfl) ?_
        refine Rg.ev 6 (by rfl) (fun _ h => h) (Ev.loadInt (show Oper.op _ = Op.load 3 (Operand.tmp 39) from rfl) (by rfl) (ReadsIn.rd 4 (by rfl)) (by kernel_rfl) (by assumption)) (by rfl) (some 40) (by rfl) (by kernel_rfl) (by kernel_rfl) (by kernel_rfl) (by kernel_rfl) ?_
        refine Rg.does 7 (by rfl) (by kernel_rfl) (Does.lit (sz := 1) (show Oper.op _ = Op.buildSlice 22 1 #[(0, Operand.tmp 40)] from rfl) (by rfl) Try.underlying22 (by kernel_rfl) (by rfl) (by kernel_rfl)) (by rfl) (some 41) (by rfl) (fun _ _ h => h.tail_) ?_
        intro g4 _
        refine Rg.tail 8 [10] (by rfl) (by kernel_rfl) (Does.app (xs := ints o) (news := ints [y]) 2 (show Oper.op _ = Op.call { callee := Callee.builtin Builtin.append, args := #[Operand.tmp 35, Operand.tmp 41], argTypes := #[22, 22] } from rfl) (by rfl) (by rfl) (by rfl) (ReadsIn.row 0 (by rfl)) elem_int (one_ints _) (show (o.length + 1) * 8 ≤ 140737488355328 by have := congrArg List.length hol; rw [List.length_drop, List.length_take] at this; omega)) (by rfl) (some 42) (by rfl) (by kernel_rfl) (by kernel_rfl) ?_
        rintro q -
        refine Rg.ev 9 (by rfl) (fun _ h => h) (Ev.fieldAddr (k := 1) (show Oper.op _ = Op.fieldAddr 41 (Operand.tmp 5) 1 from rfl) (by rfl) (by kernel_rfl) (by rfl)) (by rfl) (some 43) (by rfl) (by kernel_rfl) (by kernel_rfl) (by kernel_rfl) (by kernel_rfl) ?_
        refine Rg.tail 10 [] (by rfl) (by kernel_rfl) (Does.store 1 (show Oper.op _ = Op.store 22 (Operand.tmp 43) (Operand.tmp 42) from rfl) (by rfl) (by rfl) (by rfl) (by kernel_rfl) (by rfl) (by kernel_rfl) (by rfl)) (by rfl) none (by rfl) (by kernel_rfl) (by kernel_rfl) ?_
        intro _ _
        refine Rg.done (by kernel_rfl) ?_ _
        refine Cd.region ?_
        refine Ls.ev (some 17) (Ev.move (show Oper.op _ = Op.move (Operand.tmp 6) from rfl) (by rfl)) (by rfl) (by rfl) ?_
        refine Ls.ev (some 18) (Ev.addN (b := 1) (show Oper.op _ = Op.binOp BinOp.add 3 (Operand.tmp 17) (Operand.const (Value.int IntKind.i64 1)) 3 from rfl) (by rfl) (by rfl) (by omega)) (by rfl) (by rfl) ?_
        refine Ls.ev (some 6) (Ev.assign (show Oper.op _ = Op.assign (Operand.tmp 18) from rfl) (by rfl)) (by rfl) (by rfl) ?_
        refine Ls.nil ?_
        refine Ent.pick [1, 2, 3, 4, 5] (by rfl) ?_
        refine Ent.inv ((k + 1, ⟨s + cutD s now, q.1, q.2, o ++ [y]⟩)) ?_ ?_ ?_
        · (try dsimp only); exact ⟨⟨hlt, .inr hpp, cut_step hy hdk hol, by rw [if_neg (by omega)]⟩, by omega⟩
        · (repeat (first | exact trivial | refine ⟨by rfl, ?_⟩ | refine ⟨by simp only [List.length_append, List.length_cons, List.length_nil]; rfl, ?_⟩ | refine ⟨by push_cast; rfl, ?_⟩))
        · (show [_, _, _, _, _] = [_, _, _, _, _]; dsimp only; rw [List.length_append, show ints (o ++ [y]) = ints o ++ ints [y] from List.map_append]; rfl)
      · skip
        have h3 := of_decide_eq_false h3
        have hdk : k + 1 ≤ cutD s now := by unfold cutD; omega
        skip
        refine Cd.skip ?_
        refine Cd.region ?_
        refine Ls.ev (some 17) (Ev.move (show Oper.op _ = Op.move (Operand.tmp 6) from rfl) (by rfl)) (by rfl) (by rfl) ?_
        refine Ls.ev (some 18) (Ev.addN (b := 1) (show Oper.op _ = Op.binOp BinOp.add 3 (Operand.tmp 17) (Operand.const (Value.int IntKind.i64 1)) 3 from rfl) (by rfl) (by rfl) (by omega)) (by rfl) (by rfl) ?_
        refine Ls.ev (some 6) (Ev.assign (show Oper.op _ = Op.assign (Operand.tmp 18) from rfl) (by rfl)) (by rfl) (by rfl) ?_
        refine Ls.nil ?_
        refine Ent.inv ((k + 1, ⟨os, O, oc, o⟩)) ?_ ?_ ?_
        · (try dsimp only); exact ⟨⟨hlt, .inr hpp, by rw [hol, List.drop_eq_nil_of_le (by rw [List.length_take]; omega), List.drop_eq_nil_of_le (by rw [List.length_take]; omega)], by rw [hos, if_pos (by omega), if_pos hdk]⟩, by omega⟩
        · (repeat (first | exact trivial | refine ⟨by rfl, ?_⟩ | refine ⟨by simp only [List.length_append, List.length_cons, List.length_nil]; rfl, ?_⟩ | refine ⟨by push_cast; rfl, ?_⟩))
        · rfl
    · skip
      have h2 := of_decide_eq_false h2
      have hk0 : k = 0 := by omega
      subst hk0
      refine Cd.exit ?_
      refine Cd.seq ?_
      refine Cd.region ?_
      refine Ls.ev (some 44) (Ev.loads 0 (show Oper.op _ = Op.load 41 (Operand.tmp 5) from rfl) (by rfl) (by rfl) (n := 2) (by kernel_rfl) (by rfl) (by rfl)) (by rfl) (by rfl) ?_
      refine Ls.does none (Does.store 2 (show Oper.op _ = Op.store 41 (Operand.tmp 4) (Operand.tmp 44) from rfl) (by rfl) (by rfl) (by rfl) (by kernel_rfl) (by rfl) (by kernel_rfl) (by rfl)) (by rfl) (by rfl) ?_
      intro _ _
      refine Ls.nil ?_
      refine Cd.ret ?_
      refine Ent.ret (⟨os, O, oc, o⟩) (by rw [← cut_bad h2]; dsimp only [RtS.p]; rw [hol, hos]; simp [noR]) (Res.cell 2 (by rfl) (by rfl) (by rfl) (n := 2) (by kernel_rfl) (by rfl) (by rfl)) ?_ [1] (by rfl) ?_
      · rfl
      · rfl
end Go.Proofs.Ytegjoabfoddadaa
/- the document over pieces: numbers in digits, keys -/
namespace Go.Proofs.Ytegjoabfoddadaa
open Go.RowKit
theorem txt_app (a b : List UInt8) : txt a ++ txt b = txt (a ++ b) := by
  apply ByteArray.ext
  rw [ByteArray.data_append]
  exact List.append_toArray _ _
theorem txt_size (l : List UInt8) : (txt l).size = l.length := rfl
theorem digF_more (f k : Nat) (h : k ≠ 0) : digF (f + 1) k = digF f (k / 10) ++ [UInt8.ofNat (48 + k % 10)] := by
  rw [digF, if_neg h]
theorem digF_len : ∀ (f k : Nat), (digF f k).length ≤ f
  | 0, _ => Nat.le_refl _
  | f + 1, k => by
    rw [digF]
    split
    · exact Nat.zero_le _
    · have := digF_len f (k / 10)
      simp; omega
theorem digL_len (n : Int) : (digL n).length ≤ 20 := by
  unfold digL
  split
  · simp
  · exact digF_len 20 _
theorem dig_wrap (k : Nat) : IntKind.u8.wrap (48 + (k : Int) % 10) = ((UInt8.ofNat (48 + k % 10)).toNat : Int) := by
  rw [u8nat (by omega)]
  have : (48 + (k : Int) % 10) = ((48 + k % 10 : Nat) : Int) := by omega
  rw [this]
  generalize hm : 48 + k % 10 = m
  have h : m < 256 := by omega
  clear hm this
  unfold IntKind.wrap
  simp [IntKind.bits, IntKind.signed]
  omega
theorem dDigits_sl (n : Int) (h0 : 0 ≤ n) (h1 : n < 4294967296) : Fn Try.prog 65 #[.int .i64 n] [] Unit (fun _ => .string (txt (digL n))) (fun _ => []) (fun _ => True) := by
  obtain ⟨n, rfl⟩ := Int.eq_ofNat_of_zero_le h0
  have h1 : n < 4294967296 := by omega
  refine Fn.enter Try.func65 rfl Try.ntmps65 (by rfl) ?_
  intro w0
  skip
  refine Cd.seq ?_
  refine Cd.region ?_
  refine Ls.ev (some 2) (Ev.assign (show Oper.op _ = Op.assign (Operand.const (Value.string { data := #[] })) from rfl) (by rfl)) (by rfl) (by rfl) ?_
  refine Ls.nil ?_
  refine Cd.seq ?_
  refine Cd.seq ?_
  refine Cd.region ?_
  refine Ls.ev (some 6) (Ev.move (show Oper.op _ = Op.move (Operand.tmp 0) from rfl) (by rfl)) (by rfl) (by rfl) ?_
  refine Ls.ev (some 7) (Ev.eql (show Oper.op _ = Op.binOp BinOp.eql 3 (Operand.tmp 6) (Operand.const (Value.int IntKind.i64 0)) 3 from rfl) (by rfl) (by rfl)) (by rfl) (by rfl) ?_
  refine Ls.nil ?_
  refine Cd.cond _ (by rfl) (fun h2 => ?_) (fun h2 => ?_)
  · skip
    have h2 : n = 0 := by have := of_decide_eq_true h2; omega
    subst h2
    refine Cd.seq ?_
    refine Cd.region ?_
    refine Ls.ev (some 2) (Ev.assign (show Oper.op _ = Op.assign (Operand.const (Value.string { data := #[48] })) from rfl) (by rfl)) (by rfl) (by rfl) ?_
    refine Ls.nil ?_
    refine Cd.ret ?_
    refine Ent.ret (()) (trivial) (Res.tmp (by rfl) (by rfl)) ?_ [] (by rfl) ?_
    · rfl
    · rfl
  · skip
    have h2 : n ≠ 0 := by have := of_decide_eq_false h2; omega
    have hd : digL (n : Int) = digF 20 n := by unfold digL; rw [if_neg (by omega)]; rfl
    rw [hd]
    refine Cd.skip ?_
    refine Cd.seq ?_
    refine Cd.region ?_
    refine Ls.ev (some 3) (Ev.assign (show Oper.op _ = Op.assign (Operand.const (Value.string { data := #[] })) from rfl) (by rfl)) (by rfl) (by rfl) ?_
    refine Ls.nil ?_
    refine Cd.seq ?_
    refine Cd.seq ?_
    refine Cd.region ?_
    refine Ls.ev (some 8) (Ev.move (show Oper.op _ = Op.move (Operand.tmp 0) from rfl) (by rfl)) (by rfl) (by rfl) ?_
    refine Ls.ev (some 4) (Ev.assign (show Oper.op _ = Op.assign (Operand.tmp 8) from rfl) (by rfl)) (by rfl) (by rfl) ?_
    refine Ls.nil ?_
    refine Cd.block ?_
    refine Cd.loop (ι := Nat × Nat × List UInt8) (fun j => [(0, .int .i64 n), (3, .string (txt j.2.2)), (4, .int .i64 j.2.1)]) (fun j => []) (fun j => j.2.1 < 10 ^ j.1 ∧ j.2.1 < 4294967296 ∧ j.2.2.length + j.1 = 20 ∧ digF 20 n = digF j.1 j.2.1 ++ j.2.2) (fun j => j.2.1) ((20, n, [])) (⟨show n < 10 ^ 20 by omega, h1, rfl, by simp⟩) ?_ rfl ?_
    · (repeat (first | exact trivial | refine ⟨by rfl, ?_⟩))
    rintro ⟨f, k, a⟩ ⟨hk, hk2, ha, hdg⟩
    dsimp only at hk hk2 ha hdg ⊢
    refine Cd.seq ?_
    refine Cd.seq ?_
    refine Cd.region ?_
    refine Ls.ev (some 9) (Ev.move (show Oper.op _ = Op.move (Operand.tmp 4) from rfl) (by rfl)) (by rfl) (by rfl) ?_
    refine Ls.ev (some 10) (Ev.neq (show Oper.op _ = Op.binOp BinOp.neq 3 (Operand.tmp 9) (Operand.const (Value.int IntKind.i64 0)) 3 from rfl) (by rfl) (by rfl)) (by rfl) (by rfl) ?_
    refine Ls.nil ?_
    refine Cd.cond _ (by rfl) (fun h3 => ?_) (fun h3 => ?_)
    · skip
      have h3 : k ≠ 0 := by have := of_decide_eq_true h3; omega
      obtain ⟨f, rfl⟩ : ∃ f', f = f' + 1 := ⟨f - 1, by cases f with | zero => simp at hk; omega | succ f => omega⟩
      refine Cd.skip ?_
      refine Cd.seq ?_
      refine Cd.block ?_
      refine Cd.seq ?_
      refine Cd.region ?_
      refine Ls.ev (some 13) (Ev.move (show Oper.op _ = Op.move (Operand.tmp 4) from rfl) (by rfl)) (by rfl) (by rfl) ?_
      refine Ls.ev (some 14) (Ev.remI (show Oper.op _ = Op.binOp BinOp.rem 3 (Operand.tmp 13) (Operand.const (Value.int IntKind.i64 10)) 3 from rfl) (by rfl) (by rfl) (by omega)) (by rfl) (by rfl) ?_
      refine Ls.ev (some 5) (Ev.assign (show Oper.op _ = Op.assign (Operand.tmp 14) from rfl) (by rfl)) (by rfl) (by rfl) ?_
      refine Ls.nil ?_
      refine Cd.seq ?_
      refine Cd.seq ?_
      refine Cd.region ?_
      refine Ls.ev (some 15) (Ev.move (show Oper.op _ = Op.move (Operand.tmp 5) from rfl) (by rfl)) (by rfl) (by rfl) ?_
      refine Ls.ev (some 16) (Ev.lss (show Oper.op _ = Op.binOp BinOp.lss 3 (Operand.tmp 15) (Operand.const (Value.int IntKind.i64 0)) 3 from rfl) (by rfl) (by rfl)) (by rfl) (by rfl) ?_
      refine Ls.nil ?_
      refine Cd.cond_false (by rfl) (decide_eq_false (by omega)) ?_
      skip
      refine Cd.skip ?_
      refine Cd.region ?_
      refine Ls.ev (some 19) (Ev.move (show Oper.op _ = Op.move (Operand.tmp 5) from rfl) (by rfl)) (by rfl) (by rfl) ?_
      refine Ls.ev (some 20) (Ev.addI (show Oper.op _ = Op.binOp BinOp.add 3 (Operand.const (Value.int IntKind.i64 48)) (Operand.tmp 19) 3 from rfl) (by rfl) (by rfl) (by omega)) (by rfl) (by rfl) ?_
      refine Ls.ev (some 21) (Ev.convW (m := ((UInt8.ofNat (48 + k % 10)).toNat : Int)) (show Oper.op _ = Op.convert 3 5 (Operand.tmp 20) from rfl) (by rfl) (by kernel_rfl) Try.underlying5 (dig_wrap k)) (by rfl) (by rfl) ?_
      refine Ls.does (some 22) (Does.lit (sz := 1) (show Oper.op _ = Op.buildSlice 123 1 #[(0, Operand.tmp 21)] from rfl) (by rfl) Try.underlying123 (by kernel_rfl) (by rfl) (by kernel_rfl)) (by rfl) (by rfl) ?_
      intro g1 _
      refine Ls.ev (some 23) (Ev.textOf (l := [UInt8.ofNat (48 + k % 10)]) (show Oper.op _ = Op.convert 123 9 (Operand.tmp 22) from rfl) (by rfl) (ReadsIn.row 0 (by rfl)) Try.underlying123 Try.underlying5 Try.underlying9) (by rfl) (by rfl) ?_
      refine Ls.ev (some 24) (Ev.move (show Oper.op _ = Op.move (Operand.tmp 3) from rfl) (by rfl)) (by rfl) (by rfl) ?_
      refine Ls.ev (some 25) (Ev.to (Ev.addS (show Oper.op _ = Op.binOp BinOp.add 9 (Operand.tmp 23) (Operand.tmp 24) 9 from rfl) (by rfl) (by rfl) (by rw [txt_size, txt_size]; simp only [List.length_cons, List.length_nil]; omega)) (congrArg Value.string (txt_app _ _))) (by rfl) (by rfl) ?_
      skip
      refine Ls.ev (some 3) (Ev.assign (show Oper.op _ = Op.assign (Operand.tmp 25) from rfl) (by rfl)) (by rfl) (by rfl) ?_
      refine Ls.nil ?_
      refine Cd.region ?_
      refine Ls.ev (some 11) (Ev.move (show Oper.op _ = Op.move (Operand.tmp 4) from rfl) (by rfl)) (by rfl) (by rfl) ?_
      refine Ls.ev (some 12) (Ev.quoI (show Oper.op _ = Op.binOp BinOp.quo 3 (Operand.tmp 11) (Operand.const (Value.int IntKind.i64 10)) 3 from rfl) (by rfl) (by rfl) (by omega)) (by rfl) (by rfl) ?_
      refine Ls.ev (some 4) (Ev.assign (show Oper.op _ = Op.assign (Operand.tmp 12) from rfl) (by rfl)) (by rfl) (by rfl) ?_
      refine Ls.nil ?_
      refine Ent.pick [] (by rfl) ?_
      refine Ent.inv ((f, k / 10, UInt8.ofNat (48 + k % 10) :: a)) ?_ ?_ ?_
      · (try dsimp only); exact ⟨⟨Nat.div_lt_of_lt_mul (by rw [Nat.pow_succ] at hk; omega), by omega, by rw [List.length_cons]; omega, by rw [hdg, digF_more f k h3, List.append_assoc]; rfl⟩, by omega⟩
      · (repeat (first | exact trivial | refine ⟨by rfl, ?_⟩ | refine ⟨by simp only [List.length_append, List.length_cons, List.length_nil]; rfl, ?_⟩ | refine ⟨by push_cast; rfl, ?_⟩))
      · rfl
    · skip
      have h3 : k = 0 := by have := of_decide_eq_false h3; omega
      subst h3
      have hz : digF f 0 = [] := by cases f <;> simp [digF]
      rw [hdg, hz, List.nil_append]
      refine Cd.exit ?_
      refine Cd.seq ?_
      refine Cd.seq ?_
      refine Cd.region ?_
      refine Ls.ev (some 26) (Ev.move (show Oper.op _ = Op.move (Operand.tmp 0) from rfl) (by rfl)) (by rfl) (by rfl) ?_
      refine Ls.ev (some 27) (Ev.lss (show Oper.op _ = Op.binOp BinOp.lss 3 (Operand.tmp 26) (Operand.const (Value.int IntKind.i64 0)) 3 from rfl) (by rfl) (by rfl)) (by rfl) (by rfl) ?_
      refine Ls.nil ?_
      refine Cd.cond_false (by rfl) (decide_eq_false (by omega)) ?_
      refine Cd.skip ?_
      refine Cd.seq ?_
      refine Cd.region ?_
      refine Ls.ev (some 30) (Ev.move (show Oper.op _ = Op.move (Operand.tmp 3) from rfl) (by rfl)) (by rfl) (by rfl) ?_
      refine Ls.ev (some 2) (Ev.assign (show Oper.op _ = Op.assign (Operand.tmp 30) from rfl) (by rfl)) (by rfl) (by rfl) ?_
      refine Ls.nil ?_
      refine Cd.ret ?_
      refine Ent.ret (()) (trivial) (Res.tmp (by rfl) (by rfl)) ?_ [] (by rfl) ?_
      · rfl
      · rfl
theorem dSlot_sl (c t : Int) (h0 : 0 ≤ c ∧ c < 4294967296) (h1 : 0 ≤ t ∧ t < 4294967296) : Fn Try.prog 61 #[.int .i64 c, .int .i64 t] [] Unit (fun _ => .string (txt (slotL c t))) (fun _ => []) (fun _ => True) := by
  have l1 := digL_len c
  have l2 := digL_len t
  refine Fn.enter Try.func61 rfl Try.ntmps61 (by rfl) ?_
  intro w0
  refine Cd.seq ?_
  refine Cd.region ?_
  refine Ls.ev (some 4) (Ev.assign (show Oper.op _ = Op.assign (Operand.const (Value.string { data := #[] })) from rfl) (by rfl)) (by rfl) (by rfl) ?_
  refine Ls.nil ?_
  refine Cd.seq ?_
  refine Cd.region ?_
  refine Ls.ev (some 5) (Ev.move (show Oper.op _ = Op.move (Operand.tmp 0) from rfl) (by rfl)) (by rfl) (by rfl) ?_
  refine Ls.does (some 6) (Does.read (show Oper.op _ = Op.call { callee := Callee.value (Operand.func 65), args := #[Operand.tmp 5], argTypes := #[3] } from rfl) Try.func65 (by kernel_rfl) (by kernel_rfl) (dDigits_sl c h0.1 h0.2) (by rfl) (by rfl) trivial) (by rfl) (by rfl) ?_
  rintro _ -
  skip
  refine Ls.ev (some 7) (Ev.to (Ev.addS (show Oper.op _ = Op.binOp BinOp.add 9 (Operand.const (Value.string { data := #[99] })) (Operand.tmp 6) 9 from rfl) (by rfl) (by rfl) (by show (txt [99]).size + (txt (digL c)).size ≤ _; rw [txt_size, txt_size]; simp only [List.length_cons, List.length_nil]; omega)) (congrArg Value.string (txt_app [99] (digL c)))) (by rfl) (by rfl) ?_
  skip
  refine Ls.ev (some 8) (Ev.to (Ev.addS (show Oper.op _ = Op.binOp BinOp.add 9 (Operand.tmp 7) (Operand.const (Value.string { data := #[64] })) 9 from rfl) (by rfl) (by rfl) (by show (txt ([99] ++ digL c)).size + (txt [64]).size ≤ _; rw [txt_size, txt_size]; simp only [List.length_append, List.length_cons, List.length_nil]; omega)) (congrArg Value.string (txt_app ([99] ++ digL c) [64]))) (by rfl) (by rfl) ?_
  refine Ls.ev (some 9) (Ev.move (show Oper.op _ = Op.move (Operand.tmp 1) from rfl) (by rfl)) (by rfl) (by rfl) ?_
  refine Ls.does (some 10) (Does.read (show Oper.op _ = Op.call { callee := Callee.value (Operand.func 65), args := #[Operand.tmp 9], argTypes := #[3] } from rfl) Try.func65 (by kernel_rfl) (by kernel_rfl) (dDigits_sl t h1.1 h1.2) (by rfl) (by rfl) trivial) (by rfl) (by rfl) ?_
  rintro _ -
  skip
  refine Ls.ev (some 11) (Ev.to (Ev.addS (show Oper.op _ = Op.binOp BinOp.add 9 (Operand.tmp 8) (Operand.tmp 10) 9 from rfl) (by rfl) (by rfl) (by show (txt ([99] ++ digL c ++ [64])).size + (txt (digL t)).size ≤ _; rw [txt_size, txt_size]; simp only [List.length_append, List.length_cons, List.length_nil]; omega)) (congrArg Value.string (txt_app ([99] ++ digL c ++ [64]) (digL t)))) (by rfl) (by rfl) ?_
  refine Ls.ev (some 4) (Ev.assign (show Oper.op _ = Op.assign (Operand.tmp 11) from rfl) (by rfl)) (by rfl) (by rfl) ?_
  refine Ls.nil ?_
  refine Cd.ret ?_
  refine Ent.ret (()) (trivial) (Res.tmp (by rfl) (by rfl)) ?_ [] (by rfl) ?_
  · unfold slotL
    simp
  · rfl
theorem dPass1_sl (a b t : Int) (hab : a ≤ b) (h0 : 0 ≤ a ∧ a < 4294967296) (h1 : 0 ≤ b ∧ b < 4294967296) (h2 : 0 ≤ t ∧ t < 4294967296) : Fn Try.prog 62 #[.int .i64 a, .int .i64 b, .int .i64 t] [] Unit (fun _ => .string (txt (passL a b t))) (fun _ => []) (fun _ => True) := by
  have l1 := digL_len a
  have l2 := digL_len b
  have l3 := digL_len t
  refine Fn.enter Try.func62 rfl Try.ntmps62 (by rfl) ?_
  intro w0
  refine Cd.seq ?_
  refine Cd.region ?_
  refine Ls.ev (some 6) (Ev.assign (show Oper.op _ = Op.assign (Operand.const (Value.string { data := #[] })) from rfl) (by rfl)) (by rfl) (by rfl) ?_
  refine Ls.nil ?_
  refine Cd.seq ?_
  refine Cd.seq ?_
  refine Cd.region ?_
  refine Ls.ev (some 7) (Ev.move (show Oper.op _ = Op.move (Operand.tmp 0) from rfl) (by rfl)) (by rfl) (by rfl) ?_
  refine Ls.ev (some 8) (Ev.move (show Oper.op _ = Op.move (Operand.tmp 1) from rfl) (by rfl)) (by rfl) (by rfl) ?_
  refine Ls.ev (some 9) (Ev.gtr (show Oper.op _ = Op.binOp BinOp.gtr 3 (Operand.tmp 7) (Operand.tmp 8) 3 from rfl) (by rfl) (by rfl)) (by rfl) (by rfl) ?_
  refine Ls.nil ?_
  refine Cd.cond_false (by rfl) (decide_eq_false (by omega)) ?_
  refine Cd.skip ?_
  refine Cd.seq ?_
  refine Cd.region ?_
  refine Ls.ev (some 14) (Ev.move (show Oper.op _ = Op.move (Operand.tmp 0) from rfl) (by rfl)) (by rfl) (by rfl) ?_
  refine Ls.does (some 15) (Does.read (show Oper.op _ = Op.call { callee := Callee.value (Operand.func 65), args := #[Operand.tmp 14], argTypes := #[3] } from rfl) Try.func65 (by kernel_rfl) (by kernel_rfl) (dDigits_sl a h0.1 h0.2) (by rfl) (by rfl) trivial) (by rfl) (by rfl) ?_
  rintro _ -
  skip
  refine Ls.ev (some 16) (Ev.to (Ev.addS (show Oper.op _ = Op.binOp BinOp.add 9 (Operand.const (Value.string { data := #[112] })) (Operand.tmp 15) 9 from rfl) (by rfl) (by rfl) (by show (txt [112]).size + (txt (digL a)).size ≤ _; rw [txt_size, txt_size]; simp only [List.length_cons, List.length_nil]; omega)) (congrArg Value.string (txt_app [112] (digL a)))) (by rfl) (by rfl) ?_
  skip
  refine Ls.ev (some 17) (Ev.to (Ev.addS (show Oper.op _ = Op.binOp BinOp.add 9 (Operand.tmp 16) (Operand.const (Value.string { data := #[45] })) 9 from rfl) (by rfl) (by rfl) (by show (txt ([112] ++ digL a)).size + (txt [45]).size ≤ _; rw [txt_size, txt_size]; simp only [List.length_append, List.length_cons, List.length_nil]; omega)) (congrArg Value.string (txt_app ([112] ++ digL a) [45]))) (by rfl) (by rfl) ?_
  refine Ls.ev (some 18) (Ev.move (show Oper.op _ = Op.move (Operand.tmp 1) from rfl) (by rfl)) (by rfl) (by rfl) ?_
  refine Ls.does (some 19) (Does.read (show Oper.op _ = Op.call { callee := Callee.value (Operand.func 65), args := #[Operand.tmp 18], argTypes := #[3] } from rfl) Try.func65 (by kernel_rfl) (by kernel_rfl) (dDigits_sl b h1.1 h1.2) (by rfl) (by rfl) trivial) (by rfl) (by rfl) ?_
  rintro _ -
  skip
  refine Ls.ev (some 20) (Ev.to (Ev.addS (show Oper.op _ = Op.binOp BinOp.add 9 (Operand.tmp 17) (Operand.tmp 19) 9 from rfl) (by rfl) (by rfl) (by show (txt ([112] ++ digL a ++ [45])).size + (txt (digL b)).size ≤ _; rw [txt_size, txt_size]; simp only [List.length_append, List.length_cons, List.length_nil]; omega)) (congrArg Value.string (txt_app ([112] ++ digL a ++ [45]) (digL b)))) (by rfl) (by rfl) ?_
  skip
  refine Ls.ev (some 21) (Ev.to (Ev.addS (show Oper.op _ = Op.binOp BinOp.add 9 (Operand.tmp 20) (Operand.const (Value.string { data := #[64] })) 9 from rfl) (by rfl) (by rfl) (by show (txt ([112] ++ digL a ++ [45] ++ digL b)).size + (txt [64]).size ≤ _; rw [txt_size, txt_size]; simp only [List.length_append, List.length_cons, List.length_nil]; omega)) (congrArg Value.string (txt_app ([112] ++ digL a ++ [45] ++ digL b) [64]))) (by rfl) (by rfl) ?_
  refine Ls.ev (some 22) (Ev.move (show Oper.op _ = Op.move (Operand.tmp 2) from rfl) (by rfl)) (by rfl) (by rfl) ?_
  refine Ls.does (some 23) (Does.read (show Oper.op _ = Op.call { callee := Callee.value (Operand.func 65), args := #[Operand.tmp 22], argTypes := #[3] } from rfl) Try.func65 (by kernel_rfl) (by kernel_rfl) (dDigits_sl t h2.1 h2.2) (by rfl) (by rfl) trivial) (by rfl) (by rfl) ?_
  rintro _ -
  skip
  refine Ls.ev (some 24) (Ev.to (Ev.addS (show Oper.op _ = Op.binOp BinOp.add 9 (Operand.tmp 21) (Operand.tmp 23) 9 from rfl) (by rfl) (by rfl) (by show (txt ([112] ++ digL a ++ [45] ++ digL b ++ [64])).size + (txt (digL t)).size ≤ _; rw [txt_size, txt_size]; simp only [List.length_append, List.length_cons, List.length_nil]; omega)) (congrArg Value.string (txt_app ([112] ++ digL a ++ [45] ++ digL b ++ [64]) (digL t)))) (by rfl) (by rfl) ?_
  refine Ls.ev (some 6) (Ev.assign (show Oper.op _ = Op.assign (Operand.tmp 24) from rfl) (by rfl)) (by rfl) (by rfl) ?_
  refine Ls.nil ?_
  refine Cd.ret ?_
  refine Ent.ret (()) (trivial) (Res.tmp (by rfl) (by rfl)) ?_ [] (by rfl) ?_
  · unfold passL
    rw [show min a b = a by omega, show max a b = b by omega]
    simp
  · rfl
theorem dPass_sl (a b t : Int) (h0 : 0 ≤ a ∧ a < 4294967296) (h1 : 0 ≤ b ∧ b < 4294967296) (h2 : 0 ≤ t ∧ t < 4294967296) : Fn Try.prog 62 #[.int .i64 a, .int .i64 b, .int .i64 t] [] Unit (fun _ => .string (txt (passL a b t))) (fun _ => []) (fun _ => True) := by
  rcases Int.lt_or_le b a with hab | hab
  · refine Fn.enter Try.func62 rfl Try.ntmps62 (by rfl) ?_
    intro w0
    refine Cd.seq ?_
    refine Cd.region ?_
    refine Ls.ev (some 6) (Ev.assign (show Oper.op _ = Op.assign (Operand.const (Value.string { data := #[] })) from rfl) (by rfl)) (by rfl) (by rfl) ?_
    refine Ls.nil ?_
    refine Cd.seq ?_
    refine Cd.seq ?_
    refine Cd.region ?_
    refine Ls.ev (some 7) (Ev.move (show Oper.op _ = Op.move (Operand.tmp 0) from rfl) (by rfl)) (by rfl) (by rfl) ?_
    refine Ls.ev (some 8) (Ev.move (show Oper.op _ = Op.move (Operand.tmp 1) from rfl) (by rfl)) (by rfl) (by rfl) ?_
    refine Ls.ev (some 9) (Ev.gtr (show Oper.op _ = Op.binOp BinOp.gtr 3 (Operand.tmp 7) (Operand.tmp 8) 3 from rfl) (by rfl) (by rfl)) (by rfl) (by rfl) ?_
    refine Ls.nil ?_
    refine Cd.cond_true (by rfl) (decide_eq_true (by omega)) ?_
    refine Cd.seq ?_
    refine Cd.region ?_
    refine Ls.ev (some 10) (Ev.move (show Oper.op _ = Op.move (Operand.tmp 1) from rfl) (by rfl)) (by rfl) (by rfl) ?_
    refine Ls.ev (some 11) (Ev.move (show Oper.op _ = Op.move (Operand.tmp 0) from rfl) (by rfl)) (by rfl) (by rfl) ?_
    refine Ls.ev (some 12) (Ev.move (show Oper.op _ = Op.move (Operand.tmp 2) from rfl) (by rfl)) (by rfl) (by rfl) ?_
    refine Ls.does (some 13) (Does.read (show Oper.op _ = Op.call { callee := Callee.value (Operand.func 62), args := #[Operand.tmp 10, Operand.tmp 11, Operand.tmp 12], argTypes := #[3, 3, 3] } from rfl) Try.func62 (by kernel_rfl) (by kernel_rfl) (dPass1_sl b a t (by omega) h1 h0 h2) (by rfl) (by rfl) trivial) (by rfl) (by rfl) ?_
    rintro _ -
    refine Ls.ev (some 6) (Ev.assign (show Oper.op _ = Op.assign (Operand.tmp 13) from rfl) (by rfl)) (by rfl) (by rfl) ?_
    refine Ls.nil ?_
    refine Cd.ret ?_
    refine Ent.ret (()) (trivial) (Res.tmp (by rfl) (by rfl)) ?_ [] (by rfl) ?_
    · rw [passL_comm]
    · rfl
  · exact dPass1_sl a b t hab h0 h1 h2
end Go.Proofs.Ytegjoabfoddadaa
/- the document over pieces: a route's keys, common keys -/
namespace Go.Proofs.Ytegjoabfoddadaa
open Go.RowKit
theorem elem_strs : Elem Try.prog 107 9 1 16 := elem_of (by kernel_rfl)
theorem keysF_last {l : List Int} {k : Nat} {y t : Int} (hy : l[k]? = some y) (hl : ¬ k + 1 < l.length) : keysF t (l.drop k) = slotL y t :: keysF (t + 1) (l.drop (k + 1)) := by
  have hk : k < l.length := (List.getElem?_eq_some_iff.1 hy).1
  rw [List.drop_eq_getElem_cons hk, List.drop_eq_nil_of_le (by omega), (List.getElem?_eq_some_iff.1 hy).2]
  rfl
theorem keysF_step {l : List Int} {k : Nat} {y z t : Int} (hy : l[k]? = some y) (hz : l[k + 1]? = some z) : keysF t (l.drop k) = slotL y t :: ((if z ≠ y then [passL y z t] else []) ++ keysF (t + 1) (l.drop (k + 1))) := by
  have hk : k < l.length := (List.getElem?_eq_some_iff.1 hy).1
  have hk2 : k + 1 < l.length := (List.getElem?_eq_some_iff.1 hz).1
  rw [List.drop_eq_getElem_cons hk, List.drop_eq_getElem_cons hk2, (List.getElem?_eq_some_iff.1 hy).2, (List.getElem?_eq_some_iff.1 hz).2]
  rfl
abbrev keysS (r : RtP) : List ByteArray := (keysR r).map txt
abbrev rowS (A : Option Addr) (c : Nat) (l : List ByteArray) : Chunk := row A l.length c 9 1 (strs l)
set_option maxRecDepth 20000 in
theorem dKeys_sl (x : RtS) (hx : planOk x.p) : Fn Try.prog 55 #[.agg x.enc.toArray] [x.rd] (Option Addr × Nat) (fun q => .slice q.1 (keysS x.p).length q.2) (fun q => [rowS q.1 q.2 (keysS x.p)]) (fun _ => True) := by
  obtain ⟨hp, hs⟩ := hx
  have hb := planR_iff.1 hp
  have hpl := dPlain_sl x (by have : x.l.length ≤ 24 := hb.1; omega)
  rw [hp] at hpl
  have hkr : keysR x.p = keysF x.s x.l := by unfold keysR; rw [if_pos hp]; rfl
  unfold keysS
  rw [hkr]
  clear hkr
  obtain ⟨s, D, d, l⟩ := x
  dsimp only [RtS.enc, RtS.rd, RtS.p, smallR] at hpl hb hs ⊢
  refine Fn.enter Try.func55 rfl Try.ntmps55 (by rfl) ?_
  intro w0
  refine Cd.seq ?_
  refine Cd.region ?_
  refine Ls.does (some 1) (Does.box (show Oper.op _ = Op.box 41 (Operand.tmp 0) from rfl) (by rfl)) (by rfl) (by rfl) ?_
  intro g1 _
  refine Ls.ev (some 2) (Ev.assign (show Oper.op _ = Op.assign (Operand.const (Value.slice none 0 0)) from rfl) (by rfl)) (by rfl) (by rfl) ?_
  refine Ls.nil ?_
  refine Cd.seq ?_
  refine Cd.region ?_
  refine Ls.ev (some 3) (Ev.assign (show Oper.op _ = Op.assign (Operand.const (Value.slice none 0 0)) from rfl) (by rfl)) (by rfl) (by rfl) ?_
  refine Ls.nil ?_
  refine Cd.seq ?_
  refine Cd.seq ?_
  refine Cd.region ?_
  refine Ls.ev (some 4) (Ev.assign (show Oper.op _ = Op.assign (Operand.const (Value.int IntKind.i64 0)) from rfl) (by rfl)) (by rfl) (by rfl) ?_
  refine Ls.nil ?_
  refine Cd.block ?_
  refine Ent.nil 9 1 ?_
  skip
  refine Cd.loop (ι := Nat × Option Addr × Nat × List ByteArray) (fun j => [(1, .pointer (some ⟨g1, 0, none⟩)), (3, .slice j.2.1 j.2.2.2.length j.2.2.1), (4, .int .i64 j.1)]) (fun j => [rowS j.2.1 j.2.2.1 j.2.2.2, blk g1 41 [.int .i64 s, .slice D l.length d], rdI D l]) (fun j => j.1 ≤ l.length ∧ j.2.2.2.length ≤ 2 * j.1 ∧ (keysF s l).map txt = j.2.2.2 ++ (keysF (s + j.1) (l.drop j.1)).map txt) (fun j => l.length - j.1) ((0, none, 0, [])) (⟨Nat.zero_le _, Nat.zero_le _, by simp⟩) ?_ rfl ?_
  · (repeat (first | exact trivial | refine ⟨by rfl, ?_⟩))
  rintro ⟨k, O, oc, o⟩ ⟨hk, hol, hok⟩
  dsimp only [rowS] at hk hol hok ⊢
  refine Cd.seq ?_
  refine Cd.seq ?_
  refine Cd.region ?_
  refine Ls.ev (some 5) (Ev.move (show Oper.op _ = Op.move (Operand.tmp 4) from rfl) (by rfl)) (by rfl) (by rfl) ?_
  refine Ls.ev (some 6) (Ev.fieldAddr (k := 1) (show Oper.op _ = Op.fieldAddr 41 (Operand.tmp 1) 1 from rfl) (by rfl) (by kernel_rfl) (by rfl)) (by rfl) (by rfl) ?_
  refine Ls.ev (some 7) (Ev.load 1 (show Oper.op _ = Op.load 22 (Operand.tmp 6) from rfl) (by rfl) (by rfl) (by kernel_rfl) (by rfl)) (by rfl) (by rfl) ?_
  refine Ls.ev (some 8) (Ev.len (show Oper.op _ = Op.call { callee := Callee.builtin Builtin.len, args := #[Operand.tmp 7], argTypes := #[22] } from rfl) (by rfl) Try.underlying22) (by rfl) (by rfl) ?_
  refine Ls.ev (some 9) (Ev.lss (show Oper.op _ = Op.binOp BinOp.lss 3 (Operand.tmp 5) (Operand.tmp 8) 3 from rfl) (by rfl) (by rfl)) (by rfl) (by rfl) ?_
  refine Ls.ev (some 10) (Ev.move (show Oper.op _ = Op.move (Operand.tmp 9) from rfl) (by rfl)) (by rfl) (by rfl) ?_
  refine Ent.split 10 (by rfl) (fun h1 => ?_) (fun h1 => ?_)
  · skip
    have hkl : k = l.length := by have := of_decide_eq_false h1; omega
    subst hkl
    rw [List.drop_length] at hok
    have hok : (keysF s l).map txt = o := by rw [hok]; simp [keysF]
    rw [hok]
    refine Ls.pass (some 11) (by rfl) (by rfl) ?_
    refine Ls.pass (some 12) (by rfl) (by rfl) ?_
    refine Ls.ev (some 13) (Ev.pickF (show Oper.op _ = Op.pick (Operand.tmp 10) (Operand.tmp 12) (Operand.const (Value.bool false)) from rfl) (by rfl) (by rfl)) (by rfl) (by rfl) ?_
    refine Ls.nil ?_
    skip
    refine Cd.cond_false (by rfl) (rfl) ?_
    refine Cd.exit ?_
    refine Cd.seq ?_
    refine Cd.region ?_
    refine Ls.ev (some 68) (Ev.move (show Oper.op _ = Op.move (Operand.tmp 3) from rfl) (by rfl)) (by rfl) (by rfl) ?_
    refine Ls.ev (some 2) (Ev.assign (show Oper.op _ = Op.assign (Operand.tmp 68) from rfl) (by rfl)) (by rfl) (by rfl) ?_
    refine Ls.nil ?_
    refine Cd.ret ?_
    refine Ent.ret ((O, oc)) (trivial) (Res.tmp (by rfl) (by rfl)) ?_ [0] (by rfl) ?_
    · rfl
    · rfl
  · skip
    have hlt : k < l.length := by have := of_decide_eq_true h1; omega
    obtain ⟨y, hy⟩ := get_of_lt hlt
    have hys := hs y (List.mem_of_getElem? hy)
    refine Ls.ev (some 11) (Ev.loads 1 (show Oper.op _ = Op.load 41 (Operand.tmp 1) from rfl) (by rfl) (by rfl) (n := 2) (by kernel_rfl) (by rfl) (by rfl)) (by rfl) (by rfl) ?_
    refine Ls.does (some 12) (Does.read (show Oper.op _ = Op.call { callee := Callee.value (Operand.func 45), args := #[Operand.tmp 11], argTypes := #[41] } from rfl) Try.func45 (by kernel_rfl) (by kernel_rfl) (hpl) (by rfl) (by rfl) trivial) (by rfl) (by rfl) ?_
    rintro _ -
    refine Ls.ev (some 13) (Ev.pickT (show Oper.op _ = Op.pick (Operand.tmp 10) (Operand.tmp 12) (Operand.const (Value.bool false)) from rfl) (by rfl) (by rfl)) (by rfl) (by rfl) ?_
    refine Ls.nil ?_
    refine Cd.cond_true (by rfl) (rfl) ?_
    refine Ent.rdSome 2 (by rfl) (by omega) (fun ad had => ?_)
    subst had
    refine Cd.skip ?_
    refine Cd.seq ?_
    refine Cd.block ?_
    refine Cd.seq ?_
    refine Cd.draw [12] (by kernel_rfl) ?_
    refine Rg.ev 0 (by rfl) (fun _ h => h) (Ev.move (show Oper.op _ = Op.move (Operand.tmp 3) from rfl) (by rfl)) (by rfl) (some 16) (by rfl) (by kernel_rfl) (by kernel_rfl) (by kernel_rfl) (by kernel_rfl) ?_
    refine Rg.ev 1 (by rfl) (fun _ h => h) (Ev.fieldAddr (k := 1) (show Oper.op _ = Op.fieldAddr 41 (Operand.tmp 1) 1 from rfl) (by rfl) (by kernel_rfl) (by rfl)) (by rfl) (some 17) (by rfl) (by kernel_rfl) (by kernel_rfl) (by kernel_rfl) (by kernel_rfl) ?_
    refine Rg.ev 2 (by rfl) (fun _ h => h) (Ev.load 1 (show Oper.op _ = Op.load 22 (Operand.tmp 17) from rfl) (by rfl) (by rfl) (by kernel_rfl) (by rfl)) (by rfl) (some 18) (by rfl) (by kernel_rfl) (by kernel_rfl) (by kernel_rfl) (by kernel_rfl) ?_
    refine Rg.ev 3 (by rfl) (fun _ h => h) (Ev.move (show Oper.op _ = Op.move (Operand.tmp 4) from rfl) (by rfl)) (by rfl) (some 19) (by rfl) (by kernel_rfl) (by kernel_rfl) (by kernel_rfl) (by kernel_rfl) ?_
    refine Rg.ev 4 (by rfl) (fun _ h => h) (Ev.indexAt (sz := 1) (show Oper.op _ = Op.indexAddr 22 (Operand.tmp 18) (Operand.tmp 19) from rfl) (by rfl) (by rfl) Try.underlying22 (by kernel_rfl) (by omega)) (by rfl) (some 20) (by rfl) (by kernel_rfl) (by kernel_rfl) (by kernel_rfl) (by kernel_rfl) ?_
    refine Rg.ev 5 (by rfl) (fun _ h => h) (Ev.loadInt (show Oper.op _ = Op.load 3 (Operand.tmp 20) from rfl) (by rfl) (ReadsIn.rd 2 (by rfl)) (by kernel_rfl) (by assumption)) (by rfl) (some 21) (by rfl) (by kernel_rfl) (by kernel_rfl) (by kernel_rfl) (by kernel_rfl) ?_
    refine Rg.ev 6 (by rfl) (fun _ h => h) (Ev.fieldAddr (k := 0) (show Oper.op _ = Op.fieldAddr 41 (Operand.tmp 1) 0 from rfl) (by rfl) (by kernel_rfl) (by rfl)) (by rfl) (some 22) (by rfl) (by kernel_rfl) (by kernel_rfl) (by kernel_rfl) (by kernel_rfl) ?_
    refine Rg.ev 7 (by rfl) (fun _ h => h) (Ev.load 1 (show Oper.op _ = Op.load 3 (Operand.tmp 22) from rfl) (by rfl) (by rfl) (by kernel_rfl) (by rfl)) (by rfl) (some 23) (by rfl) (by kernel_rfl) (by kernel_rfl) (by kernel_rfl) (by kernel_rfl) ?_
    refine Rg.ev 8 (by rfl) (fun _ h => h) (Ev.move (show Oper.op _ = Op.move (Operand.tmp 4) from rfl) (by rfl)) (by rfl) (some 24) (by rfl) (by kernel_rfl) (by kernel_rfl) (by kernel_rfl) (by kernel_rfl) ?_
    skip
    refine Rg.ev 9 (by rfl) (fun _ h => h) (Ev.addI (show Oper.op _ = Op.binOp BinOp.add 3 (Operand.tmp 23) (Operand.tmp 24) 3 from rfl) (by rfl) (by rfl) (by omega)) (by rfl) (some 25) (by rfl) (by kernel_rfl) (by kernel_rfl) (by kernel_rfl) (by kernel_rfl) ?_
    refine Rg.does 10 (by rfl) (by kernel_rfl) (Does.read (show Oper.op _ = Op.call { callee := Callee.value (Operand.func 61), args := #[Operand.tmp 21, Operand.tmp 25], argTypes := #[3, 3] } from rfl) Try.func61 (by kernel_rfl) (by kernel_rfl) (dSlot_sl y (s + (k : Nat)) hys (by omega)) (by rfl) (by rfl) trivial) (by rfl) (some 26) (by rfl) (by exact fun _ _ h => h) ?_
    rintro _ -
    refine Rg.does 11 (by rfl) (by kernel_rfl) (Does.lit (sz := 1) (show Oper.op _ = Op.buildSlice 107 1 #[(0, Operand.tmp 26)] from rfl) (by rfl) Try.underlying107 (by kernel_rfl) (by rfl) (by kernel_rfl)) (by rfl) (some 27) (by rfl) (fun _ _ h => h.tail_) ?_
    intro g2 _
    refine Rg.tail 12 [] (by rfl) (by kernel_rfl) (Does.app (xs := strs o) (news := strs [txt (slotL y (s + (k : Nat)))]) 1 (show Oper.op _ = Op.call { callee := Callee.builtin Builtin.append, args := #[Operand.tmp 16, Operand.tmp 27], argTypes := #[107, 107] } from rfl) (by rfl) (by rfl) (by rfl) (ReadsIn.row 0 (by rfl)) elem_strs (strs_one _) (show (o.length + 1) * 16 ≤ 140737488355328 by omega)) (by rfl) (some 28) (by rfl) (by kernel_rfl) (by kernel_rfl) ?_
    rintro q -
    skip
    refine Rg.ev 13 (by rfl) (fun _ h => h) (Ev.assign (show Oper.op _ = Op.assign (Operand.tmp 28) from rfl) (by rfl)) (by rfl) (some 3) (by rfl) (by kernel_rfl) (by kernel_rfl) (by kernel_rfl) (by kernel_rfl) ?_
    refine Rg.done (by kernel_rfl) ?_ _
    refine Cd.seq ?_
    refine Cd.draw [] (by kernel_rfl) ?_
    refine Rg.ev 0 (by rfl) (fun _ h => h) (Ev.move (show Oper.op _ = Op.move (Operand.tmp 4) from rfl) (by rfl)) (by rfl) (some 29) (by rfl) (by kernel_rfl) (by kernel_rfl) (by kernel_rfl) (by kernel_rfl) ?_
    refine Rg.ev 1 (by rfl) (fun _ h => h) (Ev.addN (b := 1) (show Oper.op _ = Op.binOp BinOp.add 3 (Operand.tmp 29) (Operand.const (Value.int IntKind.i64 1)) 3 from rfl) (by rfl) (by rfl) (by omega)) (by rfl) (some 30) (by rfl) (by kernel_rfl) (by kernel_rfl) (by kernel_rfl) (by kernel_rfl) ?_
    refine Rg.ev 2 (by rfl) (fun _ h => h) (Ev.fieldAddr (k := 1) (show Oper.op _ = Op.fieldAddr 41 (Operand.tmp 1) 1 from rfl) (by rfl) (by kernel_rfl) (by rfl)) (by rfl) (some 31) (by rfl) (by kernel_rfl) (by kernel_rfl) (by kernel_rfl) (by kernel_rfl) ?_
    refine Rg.ev 3 (by rfl) (fun _ h => h) (Ev.load 2 (show Oper.op _ = Op.load 22 (Operand.tmp 31) from rfl) (by rfl) (by rfl) (by kernel_rfl) (by rfl)) (by rfl) (some 32) (by rfl) (by kernel_rfl) (by kernel_rfl) (by kernel_rfl) (by kernel_rfl) ?_
    refine Rg.ev 4 (by rfl) (fun _ h => h) (Ev.len (show Oper.op _ = Op.call { callee := Callee.builtin Builtin.len, args := #[Operand.tmp 32], argTypes := #[22] } from rfl) (by rfl) Try.underlying22) (by rfl) (some 33) (by rfl) (by kernel_rfl) (by kernel_rfl) (by kernel_rfl) (by kernel_rfl) ?_
    refine Rg.ev 5 (by rfl) (fun _ h => h) (Ev.lss (show Oper.op _ = Op.binOp BinOp.lss 3 (Operand.tmp 30) (Operand.tmp 33) 3 from rfl) (by rfl) (by rfl)) (by rfl) (some 34) (by rfl) (by kernel_rfl) (by kernel_rfl) (by kernel_rfl) (by kernel_rfl) ?_
    refine Rg.ev 6 (by rfl) (fun _ h => h) (Ev.move (show Oper.op _ = Op.move (Operand.tmp 34) from rfl) (by rfl)) (by rfl) (some 35) (by rfl) (by kernel_rfl) (by kernel_rfl) (by kernel_rfl) (by kernel_rfl) ?_
    refine Ent.split 35 (by rfl) (fun h2 => ?_) (fun h2 => ?_)
    · skip
      have h2 : ¬ k + 1 < l.length := by have := of_decide_eq_false h2; omega
      refine Rg.pass 7 (by rfl) (fun _ h => h) (by rfl) (some 36) (by rfl) (by kernel_rfl) (by kernel_rfl) (by kernel_rfl) (by kernel_rfl) ?_
      refine Rg.pass 8 (by rfl) (fun _ h => h) (by rfl) (some 37) (by rfl) (by kernel_rfl) (by kernel_rfl) (by kernel_rfl) (by kernel_rfl) ?_
      refine Rg.pass 9 (by rfl) (fun _ h => h) (by rfl) (some 38) (by rfl) (by kernel_rfl) (by kernel_rfl) (by kernel_rfl) (by kernel_rfl) ?_
      refine Rg.pass 10 (by rfl) (fun _ h => h) (by rfl) (some 39) (by rfl) (by kernel_rfl) (by kernel_rfl) (by kernel_rfl) (by kernel_rfl) ?_
      refine Rg.pass 11 (by rfl) (fun _ h => h) (by rfl) (some 40) (by rfl) (by kernel_rfl) (by kernel_rfl) (by kernel_rfl) (by kernel_rfl) ?_
      refine Rg.pass 12 (by rfl) (fun _ h => h) (by rfl) (some 41) (by rfl) (by kernel_rfl) (by kernel_rfl) (by kernel_rfl) (by kernel_rfl) ?_
      refine Rg.pass 13 (by rfl) (fun _ h => h) (by rfl) (some 42) (by rfl) (by kernel_rfl) (by kernel_rfl) (by kernel_rfl) (by kernel_rfl) ?_
      refine Rg.pass 14 (by rfl) (fun _ h => h) (by rfl) (some 43) (by rfl) (by kernel_rfl) (by kernel_rfl) (by kernel_rfl) (by kernel_rfl) ?_
      refine Rg.pass 15 (by rfl) (fun _ h => h) (by rfl) (some 44) (by rfl) (by kernel_rfl) (by kernel_rfl) (by kernel_rfl) (by kernel_rfl) ?_
      refine Rg.pass 16 (by rfl) (fun _ h => h) (by rfl) (some 45) (by rfl) (by kernel_rfl) (by kernel_rfl) (by kernel_rfl) (by kernel_rfl) ?_
      refine Rg.pass 17 (by rfl) (fun _ h => h) (by rfl) (some 46) (by rfl) (by kernel_rfl) (by kernel_rfl) (by kernel_rfl) (by kernel_rfl) ?_
      refine Rg.pass 18 (by rfl) (fun _ h => h) (by rfl) (some 47) (by rfl) (by kernel_rfl) (by kernel_rfl) (by kernel_rfl) (by kernel_rfl) ?_
      refine Rg.ev 19 (by rfl) (fun _ h => h) (Ev.pickF (show Oper.op _ = Op.pick (Operand.tmp 35) (Operand.tmp 47) (Operand.const (Value.bool false)) from rfl) (by rfl) (by rfl)) (by rfl) (some 48) (by rfl) (by kernel_rfl) (by kernel_rfl) (by kernel_rfl) (by kernel_rfl) ?_
      refine Rg.done (by kernel_rfl) ?_ _
      skip
      refine Cd.cond_false (by rfl) (rfl) ?_
      refine Cd.skip ?_
      refine Cd.region ?_
      refine Ls.ev (some 14) (Ev.move (show Oper.op _ = Op.move (Operand.tmp 4) from rfl) (by rfl)) (by rfl) (by rfl) ?_
      refine Ls.ev (some 15) (Ev.addN (b := 1) (show Oper.op _ = Op.binOp BinOp.add 3 (Operand.tmp 14) (Operand.const (Value.int IntKind.i64 1)) 3 from rfl) (by rfl) (by rfl) (by omega)) (by rfl) (by rfl) ?_
      refine Ls.ev (some 4) (Ev.assign (show Oper.op _ = Op.assign (Operand.tmp 15) from rfl) (by rfl)) (by rfl) (by rfl) ?_
      refine Ls.nil ?_
      refine Ent.pick [1, 2, 3] (by rfl) ?_
      refine Ent.inv ((k + 1, q.1, q.2, o ++ [txt (slotL y (s + (k : Nat)))])) ?_ ?_ ?_
      · (try dsimp only); exact ⟨⟨hlt, by rw [List.length_append]; simp; omega, by rw [hok, keysF_last hy h2, List.map_cons, List.append_assoc, show s + ((k + 1 : Nat) : Int) = s + k + 1 by omega]; rfl⟩, by omega⟩
      · (repeat (first | exact trivial | refine ⟨by rfl, ?_⟩ | refine ⟨by simp only [List.length_append, List.length_cons, List.length_nil]; rfl, ?_⟩ | refine ⟨by push_cast; rfl, ?_⟩))
      · (show [_, _, _] = [_, _, _]; dsimp only; rw [List.length_append, strs_append]; rfl)
    · skip
      have h2 : k + 1 < l.length := by have := of_decide_eq_true h2; omega
      obtain ⟨z, hz⟩ := get_of_lt h2
      have hzs := hs z (List.mem_of_getElem? hz)
      have hst := keysF_step (t := s + (k : Nat)) hy hz
      refine Rg.ev 7 (by rfl) (fun _ h => h) (Ev.fieldAddr (k := 1) (show Oper.op _ = Op.fieldAddr 41 (Operand.tmp 1) 1 from rfl) (by rfl) (by kernel_rfl) (by rfl)) (by rfl) (some 36) (by rfl) (by kernel_rfl) (by kernel_rfl) (by kernel_rfl) (by kernel_rfl) ?_
      refine Rg.ev 8 (by rfl) (fun _ h => h) (Ev.load 2 (show Oper.op _ = Op.load 22 (Operand.tmp 36) from rfl) (by rfl) (by rfl) (by kernel_rfl) (by rfl)) (by rfl) (some 37) (by rfl) (by kernel_rfl) (by kernel_rfl) (by kernel_rfl) (by kernel_rfl) ?_
      refine Rg.ev 9 (by rfl) (fun _ h => h) (Ev.move (show Oper.op _ = Op.move (Operand.tmp 4) from rfl) (by rfl)) (by rfl) (some 38) (by rfl) (by kernel_rfl) (by kernel_rfl) (by kernel_rfl) (by kernel_rfl) ?_
      refine Rg.ev 10 (by rfl) (fun _ h => h) (Ev.addN (b := 1) (show Oper.op _ = Op.binOp BinOp.add 3 (Operand.tmp 38) (Operand.const (Value.int IntKind.i64 1)) 3 from rfl) (by rfl) (by rfl) (by omega)) (by rfl) (some 39) (by rfl) (by kernel_rfl) (by kernel_rfl) (by kernel_rfl) (by kernel_rfl) ?_
      refine Rg.ev 11 (by rfl) (fun _ h => h) (Ev.indexAt (sz := 1) (show Oper.op _ = Op.indexAddr 22 (Operand.tmp 37) (Operand.tmp 39) from rfl) (by rfl) (by rfl) Try.underlying22 (by kernel_rfl) (by omega)) (by rfl) (some 40) (by rfl) (by kernel_rfl) (by kernel_rfl) (by kernel_rfl) (by kernel_rfl) ?_
      refine Rg.ev 12 (by rfl) (fun _ h => h) (Ev.loadInt (show Oper.op _ = Op.load 3 (Operand.tmp 40) from rfl) (by rfl) (ReadsIn.rd 3 (by rfl)) (by kernel_rfl) (by assumption)) (by rfl) (some 41) (by rfl) (by kernel_rfl) (by kernel_rfl) (by kernel_rfl) (by kernel_rfl) ?_
      refine Rg.ev 13 (by rfl) (fun _ h => h) (Ev.fieldAddr (k := 1) (show Oper.op _ = Op.fieldAddr 41 (Operand.tmp 1) 1 from rfl) (by rfl) (by kernel_rfl) (by rfl)) (by rfl) (some 42) (by rfl) (by kernel_rfl) (by kernel_rfl) (by kernel_rfl) (by kernel_rfl) ?_
      refine Rg.ev 14 (by rfl) (fun _ h => h) (Ev.load 2 (show Oper.op _ = Op.load 22 (Operand.tmp 42) from rfl) (by rfl) (by rfl) (by kernel_rfl) (by rfl)) (by rfl) (some 43) (by rfl) (by kernel_rfl) (by kernel_rfl) (by kernel_rfl) (by kernel_rfl) ?_
      refine Rg.ev 15 (by rfl) (fun _ h => h) (Ev.move (show Oper.op _ = Op.move (Operand.tmp 4) from rfl) (by rfl)) (by rfl) (some 44) (by rfl) (by kernel_rfl) (by kernel_rfl) (by kernel_rfl) (by kernel_rfl) ?_
      refine Rg.ev 16 (by rfl) (fun _ h => h) (Ev.indexAt (sz := 1) (show Oper.op _ = Op.indexAddr 22 (Operand.tmp 43) (Operand.tmp 44) from rfl) (by rfl) (by rfl) Try.underlying22 (by kernel_rfl) (by omega)) (by rfl) (some 45) (by rfl) (by kernel_rfl) (by kernel_rfl) (by kernel_rfl) (by kernel_rfl) ?_
      refine Rg.ev 17 (by rfl) (fun _ h => h) (Ev.loadInt (show Oper.op _ = Op.load 3 (Operand.tmp 45) from rfl) (by rfl) (ReadsIn.rd 3 (by rfl)) (by kernel_rfl) (by assumption)) (by rfl) (some 46) (by rfl) (by kernel_rfl) (by kernel_rfl) (by kernel_rfl) (by kernel_rfl) ?_
      refine Rg.ev 18 (by rfl) (fun _ h => h) (Ev.neq (show Oper.op _ = Op.binOp BinOp.neq 3 (Operand.tmp 41) (Operand.tmp 46) 3 from rfl) (by rfl) (by rfl)) (by rfl) (some 47) (by rfl) (by kernel_rfl) (by kernel_rfl) (by kernel_rfl) (by kernel_rfl) ?_
      refine Rg.ev 19 (by rfl) (fun _ h => h) (Ev.pickT (show Oper.op _ = Op.pick (Operand.tmp 35) (Operand.tmp 47) (Operand.const (Value.bool false)) from rfl) (by rfl) (by rfl)) (by rfl) (some 48) (by rfl) (by kernel_rfl) (by kernel_rfl) (by kernel_rfl) (by kernel_rfl) ?_
      refine Rg.done (by kernel_rfl) ?_ _
      refine Cd.cond _ (by rfl) (fun h3 => ?_) (fun h3 => ?_)
      · skip
        have hne := of_decide_eq_true h3
        rw [if_pos hne] at hst
        refine Cd.draw [18] (by kernel_rfl) ?_
        refine Rg.ev 0 (by rfl) (fun _ h => h) (Ev.move (show Oper.op _ = Op.move (Operand.tmp 3) from rfl) (by rfl)) (by rfl) (some 49) (by rfl) (by kernel_rfl) (by kernel_rfl) (by kernel_rfl) (by kernel_rfl) ?_
        refine Rg.ev 1 (by rfl) (fun _ h => h) (Ev.fieldAddr (k := 1) (show Oper.op _ = Op.fieldAddr 41 (Operand.tmp 1) 1 from rfl) (by rfl) (by kernel_rfl) (by rfl)) (by rfl) (some 50) (by rfl) (by kernel_rfl) (by kernel_rfl) (by kernel_rfl) (by kernel_rfl) ?_
        refine Rg.ev 2 (by rfl) (fun _ h => h) (Ev.load 2 (show Oper.op _ = Op.load 22 (Operand.tmp 50) from rfl) (by rfl) (by rfl) (by kernel_rfl) (by rfl)) (by rfl) (some 51) (by rfl) (by kernel_rfl) (by kernel_rfl) (by kernel_rfl) (by kernel_rfl) ?_
        refine Rg.ev 3 (by rfl) (fun _ h => h) (Ev.move (show Oper.op _ = Op.move (Operand.tmp 4) from rfl) (by rfl)) (by rfl) (some 52) (by rfl) (by kernel_rfl) (by kernel_rfl) (by kernel_rfl) (by kernel_rfl) ?_
        refine Rg.ev 4 (by rfl) (fun _ h => h) (Ev.indexAt (sz := 1) (show Oper.op _ = Op.indexAddr 22 (Operand.tmp 51) (Operand.tmp 52) from rfl) (by rfl) (by rfl) Try.underlying22 (by kernel_rfl) (by omega)) (by rfl) (some 53) (by rfl) (by kernel_rfl) (by kernel_rfl) (by kernel_rfl) (by kernel_rfl) ?_
        refine Rg.ev 5 (by rfl) (fun _ h => h) (Ev.loadInt (show Oper.op _ = Op.load 3 (Operand.tmp 53) from rfl) (by rfl) (ReadsIn.rd 3 (by rfl)) (by kernel_rfl) (by assumption)) (by rfl) (some 54) (by rfl) (by kernel_rfl) (by kernel_rfl) (by kernel_rfl) (by kernel_rfl) ?_
        refine Rg.ev 6 (by rfl) (fun _ h => h) (Ev.fieldAddr (k := 1) (show Oper.op _ = Op.fieldAddr 41 (Operand.tmp 1) 1 from rfl) (by rfl) (by kernel_rfl) (by rfl)) (by rfl) (some 55) (by rfl) (by kernel_rfl) (by kernel_rfl) (by kernel_rfl) (by kernel_rfl) ?_
        refine Rg.ev 7 (by rfl) (fun _ h => h) (Ev.load 2 (show Oper.op _ = Op.load 22 (Operand.tmp 55) from rfl) (by rfl) (by rfl) (by kernel_rfl) (by rfl)) (by rfl) (some 56) (by rfl) (by kernel_rfl) (by kernel_rfl) (by kernel_rfl) (by kernel_rfl) ?_
        refine Rg.ev 8 (by rfl) (fun _ h => h) (Ev.move (show Oper.op _ = Op.move (Operand.tmp 4) from rfl) (by rfl)) (by rfl) (some 57) (by rfl) (by kernel_rfl) (by kernel_rfl) (by kernel_rfl) (by kernel_rfl) ?_
        refine Rg.ev 9 (by rfl) (fun _ h => h) (Ev.addN (b := 1) (show Oper.op _ = Op.binOp BinOp.add 3 (Operand.tmp 57) (Operand.const (Value.int IntKind.i64 1)) 3 from rfl) (by rfl) (by rfl) (by omega)) (by rfl) (some 58) (by rfl) (by kernel_rfl) (by kernel_rfl) (by kernel_rfl) (by kernel_rfl) ?_
        refine Rg.ev 10 (by rfl) (fun _ h => h) (Ev.indexAt (sz := 1) (show Oper.op _ = Op.indexAddr 22 (Operand.tmp 56) (Operand.tmp 58) from rfl) (by rfl) (by rfl) Try.underlying22 (by kernel_rfl) (by omega)) (by rfl) (some 59) (by rfl) (by kernel_rfl) (by kernel_rfl) (by kernel_rfl) (by kernel_rfl) ?_
        refine Rg.ev 11 (by rfl) (fun _ h => h) (Ev.loadInt (show Oper.op _ = Op.load 3 (Operand.tmp 59) from rfl) (by rfl) (ReadsIn.rd 3 (by rfl)) (by kernel_rfl) (by assumption)) (by rfl) (some 60) (by rfl) (by kernel_rfl) (by kernel_rfl) (by kernel_rfl) (by kernel_rfl) ?_
        refine Rg.ev 12 (by rfl) (fun _ h => h) (Ev.fieldAddr (k := 0) (show Oper.op _ = Op.fieldAddr 41 (Operand.tmp 1) 0 from rfl) (by rfl) (by kernel_rfl) (by rfl)) (by rfl) (some 61) (by rfl) (by kernel_rfl) (by kernel_rfl) (by kernel_rfl) (by kernel_rfl) ?_
        refine Rg.ev 13 (by rfl) (fun _ h => h) (Ev.load 2 (show Oper.op _ = Op.load 3 (Operand.tmp 61) from rfl) (by rfl) (by rfl) (by kernel_rfl) (by rfl)) (by rfl) (some 62) (by rfl) (by kernel_rfl) (by kernel_rfl) (by kernel_rfl) (by kernel_rfl) ?_
        skip
        refine Rg.ev 14 (by rfl) (fun _ h => h) (Ev.move (show Oper.op _ = Op.move (Operand.tmp 4) from rfl) (by rfl)) (by rfl) (some 63) (by rfl) (by kernel_rfl) (by kernel_rfl) (by kernel_rfl) (by kernel_rfl) ?_
        refine Rg.ev 15 (by rfl) (fun _ h => h) (Ev.addI (show Oper.op _ = Op.binOp BinOp.add 3 (Operand.tmp 62) (Operand.tmp 63) 3 from rfl) (by rfl) (by rfl) (by omega)) (by rfl) (some 64) (by rfl) (by kernel_rfl) (by kernel_rfl) (by kernel_rfl) (by kernel_rfl) ?_
        refine Rg.does 16 (by rfl) (by kernel_rfl) (Does.read (show Oper.op _ = Op.call { callee := Callee.value (Operand.func 62), args := #[Operand.tmp 54, Operand.tmp 60, Operand.tmp 64], argTypes := #[3, 3, 3] } from rfl) Try.func62 (by kernel_rfl) (by kernel_rfl) (dPass_sl y z (s + (k : Nat)) hys hzs (by omega)) (by rfl) (by rfl) trivial) (by rfl) (some 65) (by rfl) (by exact fun _ _ h => h) ?_
        rintro _ -
        refine Rg.does 17 (by rfl) (by kernel_rfl) (Does.lit (sz := 1) (show Oper.op _ = Op.buildSlice 107 1 #[(0, Operand.tmp 65)] from rfl) (by rfl) Try.underlying107 (by kernel_rfl) (by rfl) (by kernel_rfl)) (by rfl) (some 66) (by rfl) (fun _ _ h => h.tail_) ?_
        intro g3 _
        refine Rg.tail 18 [] (by rfl) (by kernel_rfl) (Does.app (xs := strs o ++ strs [txt (slotL y (s + (k : Nat)))]) (news := strs [txt (passL y z (s + (k : Nat)))]) 2 (show Oper.op _ = Op.call { callee := Callee.builtin Builtin.append, args := #[Operand.tmp 49, Operand.tmp 66], argTypes := #[107, 107] } from rfl) (by rfl) (by rfl) (by rfl) (ReadsIn.row 0 (by rfl)) elem_strs (strs_one _) (show (o.length + 1 + 1) * 16 ≤ 140737488355328 by omega)) (by rfl) (some 67) (by rfl) (by kernel_rfl) (by kernel_rfl) ?_
        rintro q2 -
        skip
        refine Rg.ev 19 (by rfl) (fun _ h => h) (Ev.assign (show Oper.op _ = Op.assign (Operand.tmp 67) from rfl) (by rfl)) (by rfl) (some 3) (by rfl) (by kernel_rfl) (by kernel_rfl) (by kernel_rfl) (by kernel_rfl) ?_
        refine Rg.done (by kernel_rfl) ?_ _
        refine Cd.region ?_
        refine Ls.ev (some 14) (Ev.move (show Oper.op _ = Op.move (Operand.tmp 4) from rfl) (by rfl)) (by rfl) (by rfl) ?_
        refine Ls.ev (some 15) (Ev.addN (b := 1) (show Oper.op _ = Op.binOp BinOp.add 3 (Operand.tmp 14) (Operand.const (Value.int IntKind.i64 1)) 3 from rfl) (by rfl) (by rfl) (by omega)) (by rfl) (by rfl) ?_
        refine Ls.ev (some 4) (Ev.assign (show Oper.op _ = Op.assign (Operand.tmp 15) from rfl) (by rfl)) (by rfl) (by rfl) ?_
        refine Ls.nil ?_
        refine Ent.pick [2, 3, 4] (by rfl) ?_
        refine Ent.inv ((k + 1, q2.1, q2.2, o ++ [txt (slotL y (s + (k : Nat)))] ++ [txt (passL y z (s + (k : Nat)))])) ?_ ?_ ?_
        · (try dsimp only); exact ⟨⟨hlt, by simp only [List.length_append, List.length_cons, List.length_nil]; omega, by rw [hok, hst, show s + ((k + 1 : Nat) : Int) = s + k + 1 by omega]; simp⟩, by omega⟩
        · (repeat (first | exact trivial | refine ⟨by rfl, ?_⟩ | refine ⟨by simp only [List.length_append, List.length_cons, List.length_nil]; rfl, ?_⟩ | refine ⟨by push_cast; rfl, ?_⟩ | refine ⟨by (show some (Value.slice _ _ _) = some (Value.slice _ _ _); rw [List.length_append, List.length_append]; rfl), ?_⟩))
        · (show [_, _, _] = [_, _, _]; dsimp only; rw [List.length_append, List.length_append, strs_append, strs_append]; rfl)
      · skip
        rw [if_neg (of_decide_eq_false h3)] at hst
        refine Cd.skip ?_
        refine Cd.region ?_
        refine Ls.ev (some 14) (Ev.move (show Oper.op _ = Op.move (Operand.tmp 4) from rfl) (by rfl)) (by rfl) (by rfl) ?_
        refine Ls.ev (some 15) (Ev.addN (b := 1) (show Oper.op _ = Op.binOp BinOp.add 3 (Operand.tmp 14) (Operand.const (Value.int IntKind.i64 1)) 3 from rfl) (by rfl) (by rfl) (by omega)) (by rfl) (by rfl) ?_
        refine Ls.ev (some 4) (Ev.assign (show Oper.op _ = Op.assign (Operand.tmp 15) from rfl) (by rfl)) (by rfl) (by rfl) ?_
        refine Ls.nil ?_
        refine Ent.pick [1, 2, 3] (by rfl) ?_
        refine Ent.inv ((k + 1, q.1, q.2, o ++ [txt (slotL y (s + (k : Nat)))])) ?_ ?_ ?_
        · (try dsimp only); exact ⟨⟨hlt, by rw [List.length_append]; simp; omega, by rw [hok, hst, List.map_cons, List.append_assoc, show s + ((k + 1 : Nat) : Int) = s + k + 1 by omega]; rfl⟩, by omega⟩
        · (repeat (first | exact trivial | refine ⟨by rfl, ?_⟩ | refine ⟨by simp only [List.length_append, List.length_cons, List.length_nil]; rfl, ?_⟩ | refine ⟨by push_cast; rfl, ?_⟩))
        · (show [_, _, _] = [_, _, _]; dsimp only; rw [List.length_append, strs_append]; rfl)
end Go.Proofs.Ytegjoabfoddadaa
/- the document over pieces: common keys -/
namespace Go.Proofs.Ytegjoabfoddadaa
open Go.RowKit
theorem txt_inj {a b : List UInt8} (h : txt a = txt b) : a = b := by
  unfold txt at h
  injection h with h
  exact List.toArray_inj h
def comS (a b : List ByteArray) : Bool := a.any fun x => b.any fun y => decide (x = y)
theorem common_txt (a b : RtP) : commonR a b = comS (keysS a) (keysS b) := by
  unfold commonR comS keysS
  rw [List.any_map]
  congr 1
  funext x
  show _ = ((keysR b).map txt).any _
  rw [List.any_map]
  congr 1
  funext y
  exact decide_eq_decide.2 ⟨fun e => congrArg txt e, fun e => txt_inj e⟩
theorem any_drop {α : Type} {l : List α} {k : Nat} {x : α} (h : l[k]? = some x) (f : α → Bool) : (l.drop k).any f = (f x || (l.drop (k + 1)).any f) := by
  rw [List.drop_eq_getElem_cons (List.getElem?_eq_some_iff.1 h).1, List.any_cons, (List.getElem?_eq_some_iff.1 h).2]
theorem keysF_len : ∀ (t : Int) (l : List Int), (keysF t l).length ≤ 2 * l.length
  | _, [] => Nat.le_refl _
  | _, [_] => by simp [keysF]
  | t, c :: d :: r => by
    have := keysF_len (t + 1) (d :: r)
    rw [keysF]
    simp only [List.length_cons, List.length_append] at this ⊢
    split <;> simp only [List.length_cons, List.length_nil] <;> omega
theorem keysS_len {r : RtP} (h : planOk r) : (keysS r).length ≤ 48 := by
  have h1 := planR_iff.1 h.1
  have := keysF_len r.start r.cells
  unfold keysS keysR
  rw [if_pos h.1, List.length_map]
  omega
set_option maxRecDepth 20000 in
theorem dCommon_sl (x y : RtS) (hx : planOk x.p) (hy : planOk y.p) : Fn Try.prog 49 #[.agg x.enc.toArray, .agg y.enc.toArray] [x.rd, y.rd] Unit (fun _ => .bool (commonR x.p y.p)) (fun _ => []) (fun _ => True) := by
  have ka := dKeys_sl x hx
  have kb := dKeys_sl y hy
  rw [common_txt]
  have la := keysS_len hx
  have lb := keysS_len hy
  generalize keysS x.p = a at *
  generalize keysS y.p = b at *
  obtain ⟨s1, A1, c1, l1⟩ := x
  obtain ⟨s2, A2, c2, l2⟩ := y
  dsimp only [RtS.enc, RtS.rd] at *
  refine Fn.enter Try.func49 rfl Try.ntmps49 (by rfl) ?_
  intro w0
  refine Cd.seq ?_
  refine Cd.region ?_
  refine Ls.does (some 2) (Does.box (show Oper.op _ = Op.box 41 (Operand.tmp 0) from rfl) (by rfl)) (by rfl) (by rfl) ?_
  intro g1 _
  refine Ls.does (some 3) (Does.box (show Oper.op _ = Op.box 41 (Operand.tmp 1) from rfl) (by rfl)) (by rfl) (by rfl) ?_
  intro g2 _
  refine Ls.ev (some 4) (Ev.assign (show Oper.op _ = Op.assign (Operand.const (Value.bool false)) from rfl) (by rfl)) (by rfl) (by rfl) ?_
  refine Ls.nil ?_
  refine Cd.seq ?_
  refine Cd.draw [] (by kernel_rfl) ?_
  refine Rg.ev 0 (by rfl) (fun _ h => h) (Ev.loads 1 (show Oper.op _ = Op.load 41 (Operand.tmp 2) from rfl) (by rfl) (by rfl) (n := 2) (by kernel_rfl) (by rfl) (by rfl)) (by rfl) (some 9) (by rfl) (by kernel_rfl) (by kernel_rfl) (by kernel_rfl) (by kernel_rfl) ?_
  refine Rg.ev 2 (by rfl) (fun _ h => h) (Ev.loads 0 (show Oper.op _ = Op.load 41 (Operand.tmp 3) from rfl) (by rfl) (by rfl) (n := 2) (by kernel_rfl) (by rfl) (by rfl)) (by rfl) (some 11) (by rfl) (by kernel_rfl) (by kernel_rfl) (by kernel_rfl) (by kernel_rfl) ?_
  refine Rg.does 1 (by rfl) (by kernel_rfl) (Does.readN (show Oper.op _ = Op.call { callee := Callee.value (Operand.func 55), args := #[Operand.tmp 9], argTypes := #[41] } from rfl) Try.func55 (by kernel_rfl) (by kernel_rfl) (ka) (by rfl) (by rfl) ⟨ReadsIn.rd 2 (by rfl), trivial⟩ (fun _ => by rfl)) (by rfl) (some 10) (by rfl) (fun _ _ h => h.tail_) ?_
  rintro q1 -
  skip
  refine Rg.does 3 (by rfl) (by kernel_rfl) (Does.readN (show Oper.op _ = Op.call { callee := Callee.value (Operand.func 55), args := #[Operand.tmp 11], argTypes := #[41] } from rfl) Try.func55 (by kernel_rfl) (by kernel_rfl) (kb) (by rfl) (by rfl) ⟨ReadsIn.rd 4 (by rfl), trivial⟩ (fun _ => by rfl)) (by rfl) (some 12) (by rfl) (fun _ _ h => h.tail_) ?_
  rintro q2 -
  refine Rg.ev 4 (by rfl) (fun _ h => h) (Ev.assign (show Oper.op _ = Op.assign (Operand.tmp 10) from rfl) (by rfl)) (by rfl) (some 5) (by rfl) (by kernel_rfl) (by kernel_rfl) (by kernel_rfl) (by kernel_rfl) ?_
  refine Rg.ev 5 (by rfl) (fun _ h => h) (Ev.assign (show Oper.op _ = Op.assign (Operand.tmp 12) from rfl) (by rfl)) (by rfl) (some 6) (by rfl) (by kernel_rfl) (by kernel_rfl) (by kernel_rfl) (by kernel_rfl) ?_
  refine Rg.done (by kernel_rfl) ?_ _
  refine Cd.seq ?_
  refine Cd.seq ?_
  refine Cd.region ?_
  refine Ls.ev (some 7) (Ev.assign (show Oper.op _ = Op.assign (Operand.const (Value.int IntKind.i64 0)) from rfl) (by rfl)) (by rfl) (by rfl) ?_
  refine Ls.nil ?_
  refine Cd.block ?_
  refine Ent.pick [0, 1] (by rfl) ?_
  skip
  refine Cd.loop (ι := Nat) (fun i => [(5, .slice q1.1 a.length q1.2), (6, .slice q2.1 b.length q2.2), (7, .int .i64 i)]) (fun _ => [rowS q2.1 q2.2 b, rowS q1.1 q1.2 a]) (fun i => i ≤ a.length ∧ comS a b = comS (a.drop i) b) (fun i => a.length - i) (0) (⟨Nat.zero_le _, rfl⟩) ?_ rfl ?_
  · (repeat (first | exact trivial | refine ⟨by rfl, ?_⟩))
  rintro i ⟨hi, hci⟩
  refine Cd.seq ?_
  refine Cd.seq ?_
  refine Cd.region ?_
  refine Ls.ev (some 13) (Ev.move (show Oper.op _ = Op.move (Operand.tmp 7) from rfl) (by rfl)) (by rfl) (by rfl) ?_
  refine Ls.ev (some 14) (Ev.move (show Oper.op _ = Op.move (Operand.tmp 5) from rfl) (by rfl)) (by rfl) (by rfl) ?_
  refine Ls.ev (some 15) (Ev.len (show Oper.op _ = Op.call { callee := Callee.builtin Builtin.len, args := #[Operand.tmp 14], argTypes := #[107] } from rfl) (by rfl) Try.underlying107) (by rfl) (by rfl) ?_
  refine Ls.ev (some 16) (Ev.lss (show Oper.op _ = Op.binOp BinOp.lss 3 (Operand.tmp 13) (Operand.tmp 15) 3 from rfl) (by rfl) (by rfl)) (by rfl) (by rfl) ?_
  refine Ls.nil ?_
  refine Cd.cond _ (by rfl) (fun h1 => ?_) (fun h1 => ?_)
  · skip
    have hlt : i < a.length := by have := of_decide_eq_true h1; omega
    obtain ⟨u, hu⟩ := get_of_lt hlt
    have hst : comS (a.drop i) b = ((b.any fun y => decide (u = y)) || comS (a.drop (i + 1)) b) := any_drop hu _
    refine Cd.skip ?_
    refine Cd.seq ?_
    refine Cd.block ?_
    refine Cd.seq ?_
    refine Cd.region ?_
    refine Ls.ev (some 8) (Ev.assign (show Oper.op _ = Op.assign (Operand.const (Value.int IntKind.i64 0)) from rfl) (by rfl)) (by rfl) (by rfl) ?_
    refine Ls.nil ?_
    refine Cd.block ?_
    refine Cd.loop (ι := Nat) (fun j => [(5, .slice q1.1 a.length q1.2), (6, .slice q2.1 b.length q2.2), (7, .int .i64 i), (8, .int .i64 j)]) (fun _ => [rowS q2.1 q2.2 b, rowS q1.1 q1.2 a]) (fun j => j ≤ b.length ∧ (b.any fun y => decide (u = y)) = ((b.drop j).any fun y => decide (u = y))) (fun j => b.length - j) (0) (⟨Nat.zero_le _, rfl⟩) ?_ rfl ?_
    · (repeat (first | exact trivial | refine ⟨by rfl, ?_⟩))
    rintro j ⟨hj, hcj⟩
    refine Cd.seq ?_
    refine Cd.seq ?_
    refine Cd.region ?_
    refine Ls.ev (some 19) (Ev.move (show Oper.op _ = Op.move (Operand.tmp 8) from rfl) (by rfl)) (by rfl) (by rfl) ?_
    refine Ls.ev (some 20) (Ev.move (show Oper.op _ = Op.move (Operand.tmp 6) from rfl) (by rfl)) (by rfl) (by rfl) ?_
    refine Ls.ev (some 21) (Ev.len (show Oper.op _ = Op.call { callee := Callee.builtin Builtin.len, args := #[Operand.tmp 20], argTypes := #[107] } from rfl) (by rfl) Try.underlying107) (by rfl) (by rfl) ?_
    refine Ls.ev (some 22) (Ev.lss (show Oper.op _ = Op.binOp BinOp.lss 3 (Operand.tmp 19) (Operand.tmp 21) 3 from rfl) (by rfl) (by rfl)) (by rfl) (by rfl) ?_
    refine Ls.nil ?_
    refine Cd.cond _ (by rfl) (fun h2 => ?_) (fun h2 => ?_)
    · skip
      have hlj : j < b.length := by have := of_decide_eq_true h2; omega
      obtain ⟨v, hv⟩ := get_of_lt hlj
      have hsj := any_drop hv (fun y => decide (u = y))
      refine Ent.rowSome 1 (by rfl) (by omega) (fun ad had => ?_)
      refine Ent.rowSome 0 (by rfl) (by omega) (fun bd hbd => ?_)
      obtain ⟨qa, qc⟩ := q1
      obtain ⟨qb, qd⟩ := q2
      dsimp only at had hbd ⊢
      subst had hbd
      refine Cd.skip ?_
      refine Cd.seq ?_
      refine Cd.block ?_
      refine Cd.seq ?_
      refine Cd.draw [] (by kernel_rfl) ?_
      refine Rg.ev 0 (by rfl) (fun _ h => h) (Ev.move (show Oper.op _ = Op.move (Operand.tmp 5) from rfl) (by rfl)) (by rfl) (some 25) (by rfl) (by kernel_rfl) (by kernel_rfl) (by kernel_rfl) (by kernel_rfl) ?_
      refine Rg.ev 1 (by rfl) (fun _ h => h) (Ev.move (show Oper.op _ = Op.move (Operand.tmp 7) from rfl) (by rfl)) (by rfl) (some 26) (by rfl) (by kernel_rfl) (by kernel_rfl) (by kernel_rfl) (by kernel_rfl) ?_
      refine Rg.ev 2 (by rfl) (fun _ h => h) (Ev.indexAt (sz := 1) (show Oper.op _ = Op.indexAddr 107 (Operand.tmp 25) (Operand.tmp 26) from rfl) (by rfl) (by rfl) Try.underlying107 (by kernel_rfl) (by omega)) (by rfl) (some 27) (by rfl) (by kernel_rfl) (by kernel_rfl) (by kernel_rfl) (by kernel_rfl) ?_
      refine Rg.ev 3 (by rfl) (fun _ h => h) (Ev.loadStr (show Oper.op _ = Op.load 9 (Operand.tmp 27) from rfl) (by rfl) (ReadsIn.row 1 (by rfl)) (by kernel_rfl) (by assumption)) (by rfl) (some 28) (by rfl) (by kernel_rfl) (by kernel_rfl) (by kernel_rfl) (by kernel_rfl) ?_
      refine Rg.ev 4 (by rfl) (fun _ h => h) (Ev.move (show Oper.op _ = Op.move (Operand.tmp 6) from rfl) (by rfl)) (by rfl) (some 29) (by rfl) (by kernel_rfl) (by kernel_rfl) (by kernel_rfl) (by kernel_rfl) ?_
      refine Rg.ev 5 (by rfl) (fun _ h => h) (Ev.move (show Oper.op _ = Op.move (Operand.tmp 8) from rfl) (by rfl)) (by rfl) (some 30) (by rfl) (by kernel_rfl) (by kernel_rfl) (by kernel_rfl) (by kernel_rfl) ?_
      refine Rg.ev 6 (by rfl) (fun _ h => h) (Ev.indexAt (sz := 1) (show Oper.op _ = Op.indexAddr 107 (Operand.tmp 29) (Operand.tmp 30) from rfl) (by rfl) (by rfl) Try.underlying107 (by kernel_rfl) (by omega)) (by rfl) (some 31) (by rfl) (by kernel_rfl) (by kernel_rfl) (by kernel_rfl) (by kernel_rfl) ?_
      refine Rg.ev 7 (by rfl) (fun _ h => h) (Ev.loadStr (show Oper.op _ = Op.load 9 (Operand.tmp 31) from rfl) (by rfl) (ReadsIn.row 0 (by rfl)) (by kernel_rfl) (by assumption)) (by rfl) (some 32) (by rfl) (by kernel_rfl) (by kernel_rfl) (by kernel_rfl) (by kernel_rfl) ?_
      refine Rg.ev 8 (by rfl) (fun _ h => h) (Ev.eqlS (show Oper.op _ = Op.binOp BinOp.eql 9 (Operand.tmp 28) (Operand.tmp 32) 9 from rfl) (by rfl) (by rfl)) (by rfl) (some 33) (by rfl) (by kernel_rfl) (by kernel_rfl) (by kernel_rfl) (by kernel_rfl) ?_
      refine Rg.done (by kernel_rfl) ?_ _
      refine Cd.cond _ (by rfl) (fun h3 => ?_) (fun h3 => ?_)
      · skip
        have he := of_decide_eq_true h3
        subst he
        rw [hci, hst, hcj, hsj, decide_eq_true rfl]
        refine Cd.seq ?_
        refine Cd.region ?_
        refine Ls.ev (some 4) (Ev.assign (show Oper.op _ = Op.assign (Operand.const (Value.bool true)) from rfl) (by rfl)) (by rfl) (by rfl) ?_
        refine Ls.nil ?_
        refine Cd.ret ?_
        refine Ent.ret (()) (trivial) (Res.tmp (by rfl) (by rfl)) ?_ [] (by rfl) ?_
        · rfl
        · rfl
      · skip
        have he := of_decide_eq_false h3
        refine Cd.skip ?_
        refine Cd.region ?_
        refine Ls.ev (some 23) (Ev.move (show Oper.op _ = Op.move (Operand.tmp 8) from rfl) (by rfl)) (by rfl) (by rfl) ?_
        refine Ls.ev (some 24) (Ev.addN (b := 1) (show Oper.op _ = Op.binOp BinOp.add 3 (Operand.tmp 23) (Operand.const (Value.int IntKind.i64 1)) 3 from rfl) (by rfl) (by rfl) (by omega)) (by rfl) (by rfl) ?_
        refine Ls.ev (some 8) (Ev.assign (show Oper.op _ = Op.assign (Operand.tmp 24) from rfl) (by rfl)) (by rfl) (by rfl) ?_
        refine Ls.nil ?_
        refine Ent.inv (j + 1) ?_ ?_ ?_
        · (try dsimp only); exact ⟨⟨hlj, by rw [hcj, hsj, decide_eq_false he, Bool.false_or]⟩, by omega⟩
        · (repeat (first | exact trivial | refine ⟨by rfl, ?_⟩ | refine ⟨by simp only [List.length_append, List.length_cons, List.length_nil]; rfl, ?_⟩ | refine ⟨by push_cast; rfl, ?_⟩))
        · rfl
    · skip
      have hlj : b.length ≤ j := by have := of_decide_eq_false h2; omega
      rw [List.drop_eq_nil_of_le hlj] at hcj
      refine Cd.exit ?_
      refine Cd.region ?_
      refine Ls.ev (some 17) (Ev.move (show Oper.op _ = Op.move (Operand.tmp 7) from rfl) (by rfl)) (by rfl) (by rfl) ?_
      refine Ls.ev (some 18) (Ev.addN (b := 1) (show Oper.op _ = Op.binOp BinOp.add 3 (Operand.tmp 17) (Operand.const (Value.int IntKind.i64 1)) 3 from rfl) (by rfl) (by rfl) (by omega)) (by rfl) (by rfl) ?_
      refine Ls.ev (some 7) (Ev.assign (show Oper.op _ = Op.assign (Operand.tmp 18) from rfl) (by rfl)) (by rfl) (by rfl) ?_
      refine Ls.nil ?_
      refine Ent.inv (i + 1) ?_ ?_ ?_
      · (try dsimp only); exact ⟨⟨hlt, by rw [hci, hst, hcj]; rfl⟩, by omega⟩
      · (repeat (first | exact trivial | refine ⟨by rfl, ?_⟩ | refine ⟨by simp only [List.length_append, List.length_cons, List.length_nil]; rfl, ?_⟩ | refine ⟨by push_cast; rfl, ?_⟩))
      · rfl
  · skip
    have hkl : a.length ≤ i := by have := of_decide_eq_false h1; omega
    rw [hci, List.drop_eq_nil_of_le hkl]
    refine Cd.exit ?_
    refine Cd.seq ?_
    refine Cd.region ?_
    refine Ls.ev (some 4) (Ev.assign (show Oper.op _ = Op.assign (Operand.const (Value.bool false)) from rfl) (by rfl)) (by rfl) (by rfl) ?_
    refine Ls.nil ?_
    refine Cd.ret ?_
    refine Ent.ret (()) (trivial) (Res.tmp (by rfl) (by rfl)) ?_ [] (by rfl) ?_
    · rfl
    · rfl
end Go.Proofs.Ytegjoabfoddadaa
/- the document over pieces: the book's conflicts -/
namespace Go.Proofs.Ytegjoabfoddadaa
open Go.RowKit
/-- The document's book: its two lists. -/
structure BkD where
  E : Option Addr
  ec : Nat
  eps : List Int
  R : Option Addr
  rc : Nat
  rts : List RtS
def BkD.val (B : BkD) : List Value := [.slice B.E B.eps.length B.ec, .slice B.R B.rts.length B.rc]
def BkD.p (B : BkD) : BkP := ⟨B.eps, B.rts.map RtS.p⟩
abbrev BkD.re (B : BkD) : Chunk := rdI B.E B.eps
abbrev BkD.rr (B : BkD) : Chunk := rd B.R B.rts.length 2 (B.rts.flatMap RtS.enc)
abbrev BkD.fam (B : BkD) : Chunk := starf fun k : Nat => (B.rts.getD k noS).rd
theorem BkD.p_rt (B : BkD) (k : Nat) : B.p.rts.getD k noR = (B.rts.getD k noS).p := by
  unfold BkD.p
  dsimp only
  rw [List.getD_eq_getElem?_getD, List.getD_eq_getElem?_getD, List.getElem?_map]
  cases B.rts[k]? <;> rfl
theorem BkD.get (B : BkD) {k : Nat} (h : k < B.rts.length) : B.rts[k]? = some (B.rts.getD k noS) := by
  rw [List.getD_eq_getElem?_getD, List.getElem?_eq_getElem h]
  rfl
theorem confR_step {b : BkP} {r : Int} {x : RtP} {t : Int} {k : Nat} (h : k < 16) : confR b r x t (16 - k) k = ((decide ((k : Int) ≠ r) && commonR x (cutR (b.rts.getD k noR) t)) || confR b r x t (16 - (k + 1)) (k + 1)) := by
  rw [show 16 - k = (16 - (k + 1)) + 1 by omega, confR]
theorem rt_len {m : MapP} {b : BkP} (hb : BkOk m b) (k : Nat) : (b.rts.getD k noR).cells.length ≤ 24 := by
  rcases hb.ok k with h | h
  · rw [h]; exact Nat.zero_le _
  · exact (checkR_zero h).2.1
section
variable (m : MapP) (hm : goodM m = true)
include hm
theorem dConf_sl (B : BkD) (hb : BkOk m B.p) (r : Int) (x : RtS) (hx : planOk x.p) (tick : Int) : Fn Try.prog 34 #[.agg B.val.toArray, .int .i64 r, .agg x.enc.toArray, .int .i64 tick] [B.rr, B.fam, x.rd] Unit (fun _ => .bool (confR B.p r x.p tick 16 0)) (fun _ => []) (fun _ => True) := by
  have hn : B.rts.length = 16 := by have := hb.rts; unfold BkD.p at this; rwa [List.length_map] at this
  have hcom := fun y => dCommon_sl x y hx
  have hlen := rt_len hb
  have hok := fun k => planOk_cut hm (hb.ok k) tick
  have hst := fun k h => confR_step (b := B.p) (r := r) (x := x.p) (t := tick) (k := k) h
  have hgt := fun k h => B.get (k := k) h
  simp only [B.p_rt] at hlen hok hst
  obtain ⟨p, hp⟩ : ∃ p, p = B.p := ⟨_, rfl⟩
  rw [← hp] at hst ⊢
  clear hp hb
  obtain ⟨E, ec, eps, R, rc, rts⟩ := B
  dsimp only [BkD.val] at hn hlen hok hst hgt ⊢
  refine Fn.enter Try.func34 rfl Try.ntmps34 (by rfl) ?_
  intro w0
  refine Cd.seq ?_
  refine Cd.region ?_
  refine Ls.does (some 4) (Does.box (show Oper.op _ = Op.box 61 (Operand.tmp 0) from rfl) (by rfl)) (by rfl) (by rfl) ?_
  intro g1 _
  refine Ls.does (some 6) (Does.box (show Oper.op _ = Op.box 41 (Operand.tmp 2) from rfl) (by rfl)) (by rfl) (by rfl) ?_
  intro g2 _
  refine Ls.ev (some 8) (Ev.assign (show Oper.op _ = Op.assign (Operand.const (Value.bool false)) from rfl) (by rfl)) (by rfl) (by rfl) ?_
  refine Ls.nil ?_
  refine Cd.seq ?_
  refine Cd.seq ?_
  refine Cd.region ?_
  refine Ls.ev (some 9) (Ev.assign (show Oper.op _ = Op.assign (Operand.const (Value.int IntKind.i64 0)) from rfl) (by rfl)) (by rfl) (by rfl) ?_
  refine Ls.nil ?_
  refine Cd.block ?_
  refine Ent.pick [1, 2, 3, 0, 4] (by rfl) ?_
  skip
  refine Cd.loop (ι := Nat) (fun k => [(1, .int .i64 r), (3, .int .i64 tick), (4, .pointer (some ⟨g1, 0, none⟩)), (6, .pointer (some ⟨g2, 0, none⟩)), (9, .int .i64 k)]) (fun _ => [blk g1 61 [.slice E eps.length ec, .slice R rts.length rc], rd R rts.length 2 (rts.flatMap RtS.enc), starf fun k : Nat => (rts.getD k noS).rd, blk g2 41 x.enc, x.rd]) (fun k => k ≤ 16 ∧ confR p r x.p tick 16 0 = confR p r x.p tick (16 - k) k) (fun k => 16 - k) (0) (⟨Nat.zero_le _, rfl⟩) ?_ rfl ?_
  · (repeat (first | exact trivial | refine ⟨by rfl, ?_⟩))
  rintro k ⟨hk, hck⟩
  obtain ⟨v, hv⟩ : ∃ v, v = confR p r x.p tick 16 0 := ⟨_, rfl⟩
  rw [← hv] at hck ⊢
  refine Cd.seq ?_
  refine Cd.seq ?_
  refine Cd.region ?_
  refine Ls.ev (some 10) (Ev.move (show Oper.op _ = Op.move (Operand.tmp 9) from rfl) (by rfl)) (by rfl) (by rfl) ?_
  refine Ls.ev (some 11) (Ev.fieldAddr (k := 1) (show Oper.op _ = Op.fieldAddr 61 (Operand.tmp 4) 1 from rfl) (by rfl) (by kernel_rfl) (by rfl)) (by rfl) (by rfl) ?_
  refine Ls.ev (some 12) (Ev.load 0 (show Oper.op _ = Op.load 59 (Operand.tmp 11) from rfl) (by rfl) (by rfl) (by kernel_rfl) (by rfl)) (by rfl) (by rfl) ?_
  refine Ls.ev (some 13) (Ev.len (show Oper.op _ = Op.call { callee := Callee.builtin Builtin.len, args := #[Operand.tmp 12], argTypes := #[59] } from rfl) (by rfl) Try.underlying59) (by rfl) (by rfl) ?_
  refine Ls.ev (some 14) (Ev.lss (show Oper.op _ = Op.binOp BinOp.lss 3 (Operand.tmp 10) (Operand.tmp 13) 3 from rfl) (by rfl) (by rfl)) (by rfl) (by rfl) ?_
  refine Ls.nil ?_
  refine Cd.cond _ (by rfl) (fun h1 => ?_) (fun h1 => ?_)
  · skip
    have hlt : k < 16 := by have := of_decide_eq_true h1; omega
    have hst := hst k hlt
    have hgt := hgt k (by omega)
    have hlen := hlen k
    have hok := hok k
    refine Ent.map (fun w hs => hs.starf_get 2 k rfl) ?_
    refine Ent.pick [1, 2, 3, 4, 5, 0] (by rfl) ?_
    refine Ent.rdSome 1 (by rfl) (by omega) (fun ad had => ?_)
    subst had
    refine Cd.skip ?_
    refine Cd.seq ?_
    refine Cd.block ?_
    refine Cd.seq ?_
    refine Cd.draw [] (by kernel_rfl) ?_
    refine Rg.ev 0 (by rfl) (fun _ h => h) (Ev.move (show Oper.op _ = Op.move (Operand.tmp 9) from rfl) (by rfl)) (by rfl) (some 17) (by rfl) (by kernel_rfl) (by kernel_rfl) (by kernel_rfl) (by kernel_rfl) ?_
    refine Rg.ev 1 (by rfl) (fun _ h => h) (Ev.move (show Oper.op _ = Op.move (Operand.tmp 1) from rfl) (by rfl)) (by rfl) (some 18) (by rfl) (by kernel_rfl) (by kernel_rfl) (by kernel_rfl) (by kernel_rfl) ?_
    refine Rg.ev 2 (by rfl) (fun _ h => h) (Ev.neq (show Oper.op _ = Op.binOp BinOp.neq 3 (Operand.tmp 17) (Operand.tmp 18) 3 from rfl) (by rfl) (by rfl)) (by rfl) (some 19) (by rfl) (by kernel_rfl) (by kernel_rfl) (by kernel_rfl) (by kernel_rfl) ?_
    refine Rg.ev 3 (by rfl) (fun _ h => h) (Ev.move (show Oper.op _ = Op.move (Operand.tmp 19) from rfl) (by rfl)) (by rfl) (some 20) (by rfl) (by kernel_rfl) (by kernel_rfl) (by kernel_rfl) (by kernel_rfl) ?_
    refine Ent.split 20 (by rfl) (fun h2 => ?_) (fun h2 => ?_)
    · skip
      rw [h2, Bool.false_and, Bool.false_or] at hst
      refine Rg.pass 4 (by rfl) (fun _ h => h) (by rfl) (some 21) (by rfl) (by kernel_rfl) (by kernel_rfl) (by kernel_rfl) (by kernel_rfl) ?_
      refine Rg.pass 5 (by rfl) (fun _ h => h) (by rfl) (some 22) (by rfl) (by kernel_rfl) (by kernel_rfl) (by kernel_rfl) (by kernel_rfl) ?_
      refine Rg.pass 6 (by rfl) (fun _ h => h) (by rfl) (some 23) (by rfl) (by kernel_rfl) (by kernel_rfl) (by kernel_rfl) (by kernel_rfl) ?_
      refine Rg.pass 7 (by rfl) (fun _ h => h) (by rfl) (some 24) (by rfl) (by kernel_rfl) (by kernel_rfl) (by kernel_rfl) (by kernel_rfl) ?_
      refine Rg.pass 8 (by rfl) (fun _ h => h) (by rfl) (some 25) (by rfl) (by kernel_rfl) (by kernel_rfl) (by kernel_rfl) (by kernel_rfl) ?_
      refine Rg.pass 9 (by rfl) (fun _ h => h) (by rfl) (some 26) (by rfl) (by kernel_rfl) (by kernel_rfl) (by kernel_rfl) (by kernel_rfl) ?_
      refine Rg.pass 10 (by rfl) (fun _ h => h) (by rfl) (some 27) (by rfl) (by kernel_rfl) (by kernel_rfl) (by kernel_rfl) (by kernel_rfl) ?_
      refine Rg.pass 11 (by rfl) (fun _ h => h) (by rfl) (some 28) (by rfl) (by kernel_rfl) (by kernel_rfl) (by kernel_rfl) (by kernel_rfl) ?_
      refine Rg.pass 12 (by rfl) (fun _ h => h) (by rfl) (some 29) (by rfl) (by kernel_rfl) (by kernel_rfl) (by kernel_rfl) (by kernel_rfl) ?_
      refine Rg.ev 13 (by rfl) (fun _ h => h) (Ev.pickF (show Oper.op _ = Op.pick (Operand.tmp 20) (Operand.tmp 29) (Operand.const (Value.bool false)) from rfl) (by rfl) (by rfl)) (by rfl) (some 30) (by rfl) (by kernel_rfl) (by kernel_rfl) (by kernel_rfl) (by kernel_rfl) ?_
      refine Rg.done (by kernel_rfl) ?_ _
      skip
      refine Cd.cond_false (by rfl) (rfl) ?_
      refine Cd.skip ?_
      refine Cd.region ?_
      refine Ls.ev (some 15) (Ev.move (show Oper.op _ = Op.move (Operand.tmp 9) from rfl) (by rfl)) (by rfl) (by rfl) ?_
      refine Ls.ev (some 16) (Ev.addN (b := 1) (show Oper.op _ = Op.binOp BinOp.add 3 (Operand.tmp 15) (Operand.const (Value.int IntKind.i64 1)) 3 from rfl) (by rfl) (by rfl) (by omega)) (by rfl) (by rfl) ?_
      refine Ls.ev (some 9) (Ev.assign (show Oper.op _ = Op.assign (Operand.tmp 16) from rfl) (by rfl)) (by rfl) (by rfl) ?_
      refine Ls.nil ?_
      refine Ent.pick [0, 1, 2, 3, 4] (by rfl) ?_
      refine Ent.inv (k + 1) ?_ ?_ ?_
      · (try dsimp only); exact ⟨⟨hlt, by rw [hck, hst]⟩, by omega⟩
      · (repeat (first | exact trivial | refine ⟨by rfl, ?_⟩ | refine ⟨by simp only [List.length_append, List.length_cons, List.length_nil]; rfl, ?_⟩ | refine ⟨by push_cast; rfl, ?_⟩))
      · rfl
    · skip
      rw [h2, Bool.true_and] at hst
      refine Rg.ev 4 (by rfl) (fun _ h => h) (Ev.loads 3 (show Oper.op _ = Op.load 41 (Operand.tmp 6) from rfl) (by rfl) (by rfl) (n := 2) (by kernel_rfl) (by rfl) (by rfl)) (by rfl) (some 21) (by rfl) (by kernel_rfl) (by kernel_rfl) (by kernel_rfl) (by kernel_rfl) ?_
      refine Rg.ev 5 (by rfl) (fun _ h => h) (Ev.fieldAddr (k := 1) (show Oper.op _ = Op.fieldAddr 61 (Operand.tmp 4) 1 from rfl) (by rfl) (by kernel_rfl) (by rfl)) (by rfl) (some 22) (by rfl) (by kernel_rfl) (by kernel_rfl) (by kernel_rfl) (by kernel_rfl) ?_
      refine Rg.ev 6 (by rfl) (fun _ h => h) (Ev.load 0 (show Oper.op _ = Op.load 59 (Operand.tmp 22) from rfl) (by rfl) (by rfl) (by kernel_rfl) (by rfl)) (by rfl) (some 23) (by rfl) (by kernel_rfl) (by kernel_rfl) (by kernel_rfl) (by kernel_rfl) ?_
      refine Rg.ev 7 (by rfl) (fun _ h => h) (Ev.move (show Oper.op _ = Op.move (Operand.tmp 9) from rfl) (by rfl)) (by rfl) (some 24) (by rfl) (by kernel_rfl) (by kernel_rfl) (by kernel_rfl) (by kernel_rfl) ?_
      refine Rg.ev 8 (by rfl) (fun _ h => h) (Ev.indexAt (sz := 2) (show Oper.op _ = Op.indexAddr 59 (Operand.tmp 23) (Operand.tmp 24) from rfl) (by rfl) (by rfl) Try.underlying59 (by kernel_rfl) (by omega)) (by rfl) (some 25) (by rfl) (by kernel_rfl) (by kernel_rfl) (by kernel_rfl) (by kernel_rfl) ?_
      refine Rg.ev 9 (by rfl) (fun _ h => h) (Ev.loadEl (show Oper.op _ = Op.load 41 (Operand.tmp 25) from rfl) (by rfl) (ReadsIn.rd 1 (by rfl)) (by kernel_rfl) (by intro _; rfl) (by assumption)) (by rfl) (some 26) (by rfl) (by kernel_rfl) (by kernel_rfl) (by kernel_rfl) (by kernel_rfl) ?_
      refine Rg.ev 10 (by rfl) (fun _ h => h) (Ev.move (show Oper.op _ = Op.move (Operand.tmp 3) from rfl) (by rfl)) (by rfl) (some 27) (by rfl) (by kernel_rfl) (by kernel_rfl) (by kernel_rfl) (by kernel_rfl) ?_
      refine Rg.does 11 (by rfl) (by kernel_rfl) (Does.readN (show Oper.op _ = Op.call { callee := Callee.value (Operand.func 31), args := #[Operand.tmp 26, Operand.tmp 27], argTypes := #[41, 3] } from rfl) Try.func31 (by kernel_rfl) (by kernel_rfl) (dCut_sl (rts.getD k noS) (by have : (rts.getD k noS).l.length ≤ 24 := hlen; omega) tick) (by rfl) (by rfl) ⟨ReadsIn.rd 5 (by rfl), trivial⟩ (fun _ => by rfl)) (by rfl) (some 28) (by rfl) (fun _ _ h => h.tail_) ?_
      rintro y hy
      rw [← hy] at hst hok
      skip
      refine Rg.does 12 (by rfl) (by kernel_rfl) (Does.read (show Oper.op _ = Op.call { callee := Callee.value (Operand.func 49), args := #[Operand.tmp 21, Operand.tmp 28], argTypes := #[41, 41] } from rfl) Try.func49 (by kernel_rfl) (by kernel_rfl) (hcom y hok) (by rfl) (by rfl) ⟨ReadsIn.rd 5 (by rfl), ReadsIn.row 0 (by rfl), trivial⟩) (by rfl) (some 29) (by rfl) (by exact fun _ _ h => h) ?_
      rintro _ -
      refine Rg.ev 13 (by rfl) (fun _ h => h) (Ev.pickT (show Oper.op _ = Op.pick (Operand.tmp 20) (Operand.tmp 29) (Operand.const (Value.bool false)) from rfl) (by rfl) (by rfl)) (by rfl) (some 30) (by rfl) (by kernel_rfl) (by kernel_rfl) (by kernel_rfl) (by kernel_rfl) ?_
      refine Rg.done (by kernel_rfl) ?_ _
      refine Cd.cond _ (by rfl) (fun h3 => ?_) (fun h3 => ?_)
      · skip
        rw [hck, hst, h3]
        refine Cd.seq ?_
        refine Cd.region ?_
        refine Ls.ev (some 8) (Ev.assign (show Oper.op _ = Op.assign (Operand.const (Value.bool true)) from rfl) (by rfl)) (by rfl) (by rfl) ?_
        refine Ls.nil ?_
        refine Cd.ret ?_
        refine Ent.ret (()) (trivial) (Res.tmp (by rfl) (by rfl)) ?_ [] (by rfl) ?_
        · rfl
        · rfl
      · skip
        refine Cd.skip ?_
        refine Cd.region ?_
        refine Ls.ev (some 15) (Ev.move (show Oper.op _ = Op.move (Operand.tmp 9) from rfl) (by rfl)) (by rfl) (by rfl) ?_
        refine Ls.ev (some 16) (Ev.addN (b := 1) (show Oper.op _ = Op.binOp BinOp.add 3 (Operand.tmp 15) (Operand.const (Value.int IntKind.i64 1)) 3 from rfl) (by rfl) (by rfl) (by omega)) (by rfl) (by rfl) ?_
        refine Ls.ev (some 9) (Ev.assign (show Oper.op _ = Op.assign (Operand.tmp 16) from rfl) (by rfl)) (by rfl) (by rfl) ?_
        refine Ls.nil ?_
        refine Ent.pick [1, 2, 3, 4, 5] (by rfl) ?_
        refine Ent.inv (k + 1) ?_ ?_ ?_
        · (try dsimp only); exact ⟨⟨hlt, by rw [hck, hst, h3, Bool.false_or]⟩, by omega⟩
        · (repeat (first | exact trivial | refine ⟨by rfl, ?_⟩ | refine ⟨by simp only [List.length_append, List.length_cons, List.length_nil]; rfl, ?_⟩ | refine ⟨by push_cast; rfl, ?_⟩))
        · rfl
  · skip
    have hk2 : k = 16 := by have := of_decide_eq_false h1; omega
    subst hk2
    rw [hck]
    refine Cd.exit ?_
    refine Cd.seq ?_
    refine Cd.region ?_
    refine Ls.ev (some 8) (Ev.assign (show Oper.op _ = Op.assign (Operand.const (Value.bool false)) from rfl) (by rfl)) (by rfl) (by rfl) ?_
    refine Ls.nil ?_
    refine Cd.ret ?_
    refine Ent.ret (()) (trivial) (Res.tmp (by rfl) (by rfl)) ?_ [] (by rfl) ?_
    · rfl
    · rfl
end
end Go.Proofs.Ytegjoabfoddadaa
/- the document over pieces: a book changed -/
namespace Go.Proofs.Ytegjoabfoddadaa
open Go.RowKit
theorem elem_rts : Elem Try.prog 59 41 2 32 := elem_of (by kernel_rfl)
theorem one_rts (l : List RtS) : ∀ u ∈ l.flatMap RtS.enc, u.oneCell' = true := fun u hu => by
  obtain ⟨x, _, h⟩ := List.mem_flatMap.1 hu
  unfold RtS.enc at h
  simp only [List.mem_cons, List.not_mem_nil, or_false] at h
  rcases h with rfl | rfl <;> rfl
theorem ints_set' (l : List Int) (k : Nat) (v : Int) : (ints l).set k (.int .i64 v) = ints (l.set k v) := by unfold ints; rw [List.map_set]
abbrev BkD.we (B : BkD) : Chunk := rowI B.E B.ec B.eps
abbrev BkD.wr (B : BkD) : Chunk := row B.R B.rts.length B.rc 41 2 (B.rts.flatMap RtS.enc)
set_option maxRecDepth 20000 in
theorem dWith_sl (B : BkD) (h1 : B.eps.length = 16) (h2 : B.rts.length = 16) (r : Nat) (hr : r < 16) (e : Int) (x : RtS) : Fn Try.prog 32 #[.agg B.val.toArray, .int .i64 r, .int .i64 e, .agg x.enc.toArray] [B.re, B.rr] BkD (fun D => .agg D.val.toArray) (fun D => [D.we, D.wr]) (fun D => D.eps = B.eps.set r e ∧ D.rts = B.rts.set r x) := by
  obtain ⟨E, ec, eps, R, rc, rts⟩ := B
  dsimp only [BkD.val] at h1 h2 ⊢
  refine Fn.enter Try.func32 rfl Try.ntmps32 (by rfl) ?_
  intro w0
  refine Cd.seq ?_
  refine Cd.region ?_
  refine Ls.does (some 4) (Does.box (show Oper.op _ = Op.box 61 (Operand.tmp 0) from rfl) (by rfl)) (by rfl) (by rfl) ?_
  intro g1 _
  refine Ls.does (some 7) (Does.box (show Oper.op _ = Op.box 41 (Operand.tmp 3) from rfl) (by rfl)) (by rfl) (by rfl) ?_
  intro g2 _
  refine Ls.does (some 8) (Does.alloc (cs := [.slice none 0 0, .slice none 0 0]) (show Oper.op _ = Op.alloc 61 from rfl) (ZeroIs.mk (.agg #[.slice none 0 0, .slice none 0 0]) (by kernel_rfl) (by rfl))) (by rfl) (by rfl) ?_
  intro g3 _
  refine Ls.nil ?_
  refine Cd.seq ?_
  refine Cd.region ?_
  refine Ls.does (some 9) (Does.lit0 (sz := 1) (show Oper.op _ = Op.buildSlice 22 0 #[] from rfl) Try.underlying22 (by kernel_rfl)) (by rfl) (by rfl) ?_
  intro g4 _
  refine Ls.ev (some 10) (Ev.fieldAddr (k := 0) (show Oper.op _ = Op.fieldAddr 61 (Operand.tmp 4) 0 from rfl) (by rfl) (by kernel_rfl) (by rfl)) (by rfl) (by rfl) ?_
  refine Ls.ev (some 11) (Ev.load 3 (show Oper.op _ = Op.load 22 (Operand.tmp 10) from rfl) (by rfl) (by rfl) (by kernel_rfl) (by rfl)) (by rfl) (by rfl) ?_
  refine Ls.does (some 12) (Does.app (news := ints eps) 0 (show Oper.op _ = Op.call { callee := Callee.builtin Builtin.append, args := #[Operand.tmp 9, Operand.tmp 11], argTypes := #[22, 22] } from rfl) (by rfl) (by rfl) (by rfl) (ReadsIn.rd 4 (by rfl)) elem_int (one_ints _) (by omega)) (by rfl) (by rfl) ?_
  rintro q1 -
  refine Ls.ev (some 13) (Ev.fieldAddr (k := 0) (show Oper.op _ = Op.fieldAddr 61 (Operand.tmp 4) 0 from rfl) (by rfl) (by kernel_rfl) (by rfl)) (by rfl) (by rfl) ?_
  refine Ls.does none (Does.store 3 (show Oper.op _ = Op.store 22 (Operand.tmp 13) (Operand.tmp 12) from rfl) (by rfl) (by rfl) (by rfl) (by kernel_rfl) (by rfl) (by kernel_rfl) (by rfl)) (by rfl) (by rfl) ?_
  intro _ _
  refine Ls.nil ?_
  refine Cd.seq ?_
  refine Cd.region ?_
  refine Ls.does (some 14) (Does.lit0 (sz := 2) (show Oper.op _ = Op.buildSlice 59 0 #[] from rfl) Try.underlying59 (by kernel_rfl)) (by rfl) (by rfl) ?_
  intro g5 _
  refine Ls.ev (some 15) (Ev.fieldAddr (k := 1) (show Oper.op _ = Op.fieldAddr 61 (Operand.tmp 4) 1 from rfl) (by rfl) (by kernel_rfl) (by rfl)) (by rfl) (by rfl) ?_
  refine Ls.ev (some 16) (Ev.load 4 (show Oper.op _ = Op.load 59 (Operand.tmp 15) from rfl) (by rfl) (by rfl) (by kernel_rfl) (by rfl)) (by rfl) (by rfl) ?_
  refine Ls.does (some 17) (Does.app (news := rts.flatMap RtS.enc) 0 (show Oper.op _ = Op.call { callee := Callee.builtin Builtin.append, args := #[Operand.tmp 14, Operand.tmp 16], argTypes := #[59, 59] } from rfl) (by rfl) (by rfl) (by rfl) (ReadsIn.rd 6 (by rfl)) elem_rts (one_rts _) (by omega)) (by rfl) (by rfl) ?_
  rintro q2 -
  refine Ls.ev (some 18) (Ev.fieldAddr (k := 1) (show Oper.op _ = Op.fieldAddr 61 (Operand.tmp 4) 1 from rfl) (by rfl) (by kernel_rfl) (by rfl)) (by rfl) (by rfl) ?_
  refine Ls.does none (Does.store 4 (show Oper.op _ = Op.store 59 (Operand.tmp 18) (Operand.tmp 17) from rfl) (by rfl) (by rfl) (by rfl) (by kernel_rfl) (by rfl) (by kernel_rfl) (by rfl)) (by rfl) (by rfl) ?_
  intro _ _
  refine Ls.nil ?_
  refine Cd.seq ?_
  refine Ent.pick [4, 1, 0, 3, 2] (by rfl) ?_
  refine Ent.norm ([(1, .int .i64 r), (2, .int .i64 e), (4, .pointer (some ⟨g1, 0, none⟩)), (7, .pointer (some ⟨g2, 0, none⟩)), (8, .pointer (some ⟨g3, 0, none⟩))]) ([blk g1 61 [.slice q1.1 eps.length q1.2, .slice q2.1 rts.length q2.2], row q1.1 eps.length q1.2 3 1 (ints eps), row q2.1 rts.length q2.2 41 2 (rts.flatMap RtS.enc), blk g2 41 x.enc, blk g3 61 [.slice none 0 0, .slice none 0 0]]) (by repeat (first | exact trivial | refine ⟨by rfl, ?_⟩ | refine ⟨by simp only [List.length_append, List.length_cons, List.length_nil]; rfl, ?_⟩ | refine ⟨by push_cast; rfl, ?_⟩)) (by simp only [Nat.zero_add]; rfl) ?_
  refine Ent.rowSome 1 (by rfl) (by omega) (fun ad had => ?_)
  refine Ent.rowSome 2 (by rfl) (by omega) (fun bd hbd => ?_)
  obtain ⟨qa, qc⟩ := q1
  obtain ⟨qb, qd⟩ := q2
  dsimp only at had hbd
  subst had hbd
  refine Cd.region ?_
  refine Ls.ev (some 19) (Ev.fieldAddr (k := 0) (show Oper.op _ = Op.fieldAddr 61 (Operand.tmp 4) 0 from rfl) (by rfl) (by kernel_rfl) (by rfl)) (by rfl) (by rfl) ?_
  refine Ls.ev (some 20) (Ev.load 0 (show Oper.op _ = Op.load 22 (Operand.tmp 19) from rfl) (by rfl) (by rfl) (by kernel_rfl) (by rfl)) (by rfl) (by rfl) ?_
  refine Ls.ev (some 21) (Ev.move (show Oper.op _ = Op.move (Operand.tmp 1) from rfl) (by rfl)) (by rfl) (by rfl) ?_
  refine Ls.ev (some 22) (Ev.move (show Oper.op _ = Op.move (Operand.tmp 2) from rfl) (by rfl)) (by rfl) (by rfl) ?_
  refine Ls.ev (some 23) (Ev.indexAt (sz := 1) (show Oper.op _ = Op.indexAddr 22 (Operand.tmp 20) (Operand.tmp 21) from rfl) (by rfl) (by rfl) Try.underlying22 (by kernel_rfl) (by omega)) (by rfl) (by rfl) ?_
  refine Ls.does none (Does.storeEl (k := r) 1 (show Oper.op _ = Op.store 3 (Operand.tmp 23) (Operand.tmp 22) from rfl) (by rfl) (by rfl) (by rfl) rfl (by kernel_rfl) rfl (by omega) (ints_set' eps r e)) (by rfl) (by rfl) ?_
  rintro _ -
  refine Ls.nil ?_
  refine Cd.seq ?_
  refine Cd.region ?_
  refine Ls.ev (some 24) (Ev.fieldAddr (k := 1) (show Oper.op _ = Op.fieldAddr 61 (Operand.tmp 4) 1 from rfl) (by rfl) (by kernel_rfl) (by rfl)) (by rfl) (by rfl) ?_
  refine Ls.ev (some 25) (Ev.load 0 (show Oper.op _ = Op.load 59 (Operand.tmp 24) from rfl) (by rfl) (by rfl) (by kernel_rfl) (by rfl)) (by rfl) (by rfl) ?_
  refine Ls.ev (some 26) (Ev.move (show Oper.op _ = Op.move (Operand.tmp 1) from rfl) (by rfl)) (by rfl) (by rfl) ?_
  refine Ls.ev (some 27) (Ev.loads 3 (show Oper.op _ = Op.load 41 (Operand.tmp 7) from rfl) (by rfl) (by rfl) (n := 2) (by kernel_rfl) (by rfl) (by rfl)) (by rfl) (by rfl) ?_
  refine Ls.ev (some 28) (Ev.indexAt (sz := 2) (show Oper.op _ = Op.indexAddr 59 (Operand.tmp 25) (Operand.tmp 26) from rfl) (by rfl) (by rfl) Try.underlying59 (by kernel_rfl) (by omega)) (by rfl) (by rfl) ?_
  refine Ls.does none (Does.storeRow (j := r * 2) (xs' := (rts.set r x).flatMap RtS.enc) 2 (show Oper.op _ = Op.store 41 (Operand.tmp 28) (Operand.tmp 27) from rfl) (by rfl) (by rfl) (by rfl) rfl (by kernel_rfl) (by rfl) (by show r * 2 + 2 ≤ _; rw [flatMap_len (enc := RtS.enc) (sz := 2) (fun _ => rfl)]; omega) (by omega) (setR_enc (enc := RtS.enc) (sz := 2) (fun _ => rfl) rts r x (by omega))) (by rfl) (by rfl) ?_
  rintro _ -
  refine Ls.nil ?_
  refine Cd.seq ?_
  refine Cd.region ?_
  refine Ls.ev (some 29) (Ev.loads 0 (show Oper.op _ = Op.load 61 (Operand.tmp 4) from rfl) (by rfl) (by rfl) (n := 2) (by kernel_rfl) (by rfl) (by rfl)) (by rfl) (by rfl) ?_
  refine Ls.does none (Does.store 4 (show Oper.op _ = Op.store 61 (Operand.tmp 8) (Operand.tmp 29) from rfl) (by rfl) (by rfl) (by rfl) (by kernel_rfl) (by rfl) (by kernel_rfl) (by rfl)) (by rfl) (by rfl) ?_
  intro _ _
  refine Ls.nil ?_
  refine Cd.ret ?_
  refine Ent.ret (⟨some ad, qc, eps.set r e, some bd, qd, rts.set r x⟩) (⟨rfl, rfl⟩) (Res.cell 4 (by rfl) (by rfl) (by rfl) (n := 2) (by kernel_rfl) (by rfl) (by rfl)) ?_ [1, 2] (by rfl) ?_
  · dsimp only [BkD.val]
    rw [List.length_set, List.length_set]
    rfl
  · dsimp only [BkD.we, BkD.wr, rowI]
    rw [List.length_set, List.length_set]
    rfl
theorem Res.cell2 {Γ : Ctx} {N : Frm} {P : Program} {E : Env} {H : List Chunk} {fn : Func} {p p' t t' n n' g g' m m' u u' : Nat} {cs cs' vs vs' : List Value} (i i' : Nat) (h : fn.results = #[.cell p t, .cell p' t']) (hp : E.get p = some (.pointer (some ⟨g, m, none⟩))) (hp' : E.get p' = some (.pointer (some ⟨g', m', none⟩))) (hi : H[i]? = some (blk g u cs)) (hi' : H[i']? = some (blk g' u' cs')) (ht : agg P t n = true) (ht' : agg P t' n' = true) (hv : rangeOf cs m n = vs) (hv' : rangeOf cs' m' n' = vs') (hn : vs.length = n) (hn' : vs'.length = n') : Res Γ N P fn E H (.tuple #[.agg vs.toArray, .agg vs'.toArray]) := fun a w hr hs => by
  simp [results, h, hr.get p _ hp, hr.get p' _ hp', asAddr, run_cell i hs hi ht hv hn, run_cell i' hs hi' ht' hv' hn']
section
variable {Γ : Ctx} {N : Frm} {P : Program} {E : Env} {H : List Chunk} {o : Oper} {x y : Operand}
/-- make of a slice, its cells zero. -/
theorem Does.makeS {t e sz bytes n : Nat} {vs : List Value} (ho : o.op = .makeSlice t x y) (hx : E.ev x = some (.int .i64 (n : Int))) (hy : E.ev y = some (.int .i64 (n : Int))) (ht : P.underlying t = some (.slice e))
    (hz : ((P.info? e).bind fun i => i.zero.map fun z => (i.size, i.bytes, (madeCells z.cells (n * i.size)).toList)) = some (sz, bytes, vs)) (hl : vs.length = n * sz) (hb : bytes * n ≤ 281474976710656) (hn : n ≤ maxLen) :
    Does Γ N P E H o Nat (fun g => .slice (some ⟨g, 0, none⟩) n n) (fun g => row (some ⟨g, 0, none⟩) n n e sz vs :: H) (fun _ => True) := .of fun ρ hρ w hs => by
  obtain ⟨i, hi, hz⟩ := Option.bind_eq_some_iff.1 hz
  obtain ⟨z, hzz, he⟩ := Option.map_eq_some_iff.1 hz
  simp only [Prod.mk.injEq] at he
  obtain ⟨rfl, rfl, rfl⟩ := he
  have h9 : (i.bytes : Int) * (n : Int) ≤ 281474976710656 := by
    have : ((i.bytes * n : Nat) : Int) ≤ 281474976710656 := by omega
    rwa [Int.natCast_mul] at this
  have h8 : maxLen ≤ 9223372036854775807 := by decide
  have hrun := run_make (P := P) w t e i z ht hi hzz .i64 .i64 (n : Int) (n : Int) (by omega) (by omega) h9 (by omega)
  rw [Int.toNat_natCast] at hrun
  refine ⟨w.heap.size, w.alloc (.cells (madeCells z.cells (n * i.size)) e), trivial, ?_, .inl ?_⟩
  · have hn0 := hs.new e (madeCells z.cells (n * i.size)).toList
    have := hn0.turn (i := 0) (C := blk w.heap.size e (madeCells z.cells (n * i.size)).toList) rfl rfl (Upd.refl _ _) (C' := row (some ⟨w.heap.size, 0, none⟩) n n e i.size (madeCells z.cells (n * i.size)).toList) (by
      have h0 := hn0.mem (i := 0) rfl
      have := Own.of_blk (n := n) (size := i.size) (base := 0) (c := n) h0 (Nat.zero_le _) (Nat.le_refl _) hn (by simpa using hl)
      show Own _ 0 e i.size _ _ _ _
      have h2 : (madeCells z.cells (n * i.size)).toList.take (n * i.size) = (madeCells z.cells (n * i.size)).toList := List.take_of_length_le (by omega)
      simpa [h2] using this) (fun k hk => .inl (by simpa [row, blockOf, blk] using hk.symm))
    simpa using this
  · simp [execOp, ho, hρ x _ hx, hρ y _ hy, hrun]
end
/-- The document's first book. -/
theorem dNew20_sl : Fn Try.prog 18 #[] [] BkD (fun D => .agg D.val.toArray) (fun D => [D.we, D.wr]) (fun D => D.eps = List.replicate 16 0 ∧ D.rts = List.replicate 16 noS) := by
  refine Fn.enter Try.func18 rfl Try.ntmps18 (by rfl) ?_
  intro w0
  refine Cd.seq ?_
  refine Cd.region ?_
  refine Ls.does (some 0) (Does.alloc (cs := [.slice none 0 0, .slice none 0 0]) (show Oper.op _ = Op.alloc 61 from rfl) (ZeroIs.mk (.agg #[.slice none 0 0, .slice none 0 0]) (by kernel_rfl) (by rfl))) (by rfl) (by rfl) ?_
  intro g1 _
  refine Ls.nil ?_
  refine Cd.seq ?_
  skip
  refine Cd.draw [3] (by kernel_rfl) ?_
  skip
  refine Rg.float1 0 (ι := Nat) (some 1) (fun g => .slice (some ⟨g, 0, none⟩) 16 16) (fun g => row (some ⟨g, 0, none⟩) 16 16 3 1 (ints (List.replicate 16 0))) ?_
  skip
  skip
  refine RgF.does 1 (by rfl) (by rfl) (.inl (by kernel_rfl)) (by kernel_rfl) (Does.makeS (n := 16) (sz := 1) (bytes := 8) (vs := ints (List.replicate 16 0)) (show Oper.op _ = Op.makeSlice 22 (Operand.const (Value.int IntKind.i64 16)) (Operand.const (Value.int IntKind.i64 16)) from rfl) (by rfl) (by rfl) Try.underlying22 (by kernel_rfl) (by rfl) (by decide) (by decide)) (by rfl) (some 1) (by rfl) (fun _ => by repeat (first | exact trivial | refine ⟨by rfl, ?_⟩ | refine ⟨by simp only [List.length_append, List.length_cons, List.length_nil]; rfl, ?_⟩ | refine ⟨by push_cast; rfl, ?_⟩)) (by exact fun _ _ h => h.last) (by exact fun _ _ h => h.pick [0] (by rfl)) (Does.makeS (n := 16) (sz := 2) (bytes := 32) (vs := (List.replicate 16 noS).flatMap RtS.enc) (show Oper.op _ = Op.makeSlice 59 (Operand.const (Value.int IntKind.i64 16)) (Operand.const (Value.int IntKind.i64 16)) from rfl) (by rfl) (by rfl) Try.underlying59 (by kernel_rfl) (by rfl) (by decide) (by decide)) (by rfl) (some 2) (by rfl) (by exact fun _ _ h => h.pick [1] (by rfl)) (fun _ => Does.makeS (n := 16) (sz := 2) (bytes := 32) (vs := (List.replicate 16 noS).flatMap RtS.enc) (show Oper.op _ = Op.makeSlice 59 (Operand.const (Value.int IntKind.i64 16)) (Operand.const (Value.int IntKind.i64 16)) from rfl) (by rfl) (by rfl) Try.underlying59 (by kernel_rfl) (by rfl) (by decide) (by decide)) (fun _ => by rfl) (by exact fun _ _ _ h => h.pick [1] (by rfl)) ?_
  intro g3 _
  skip
  refine RgF.land (by rfl) (by kernel_rfl) (Does.makeS (n := 16) (sz := 1) (bytes := 8) (vs := ints (List.replicate 16 0)) (show Oper.op _ = Op.makeSlice 22 (Operand.const (Value.int IntKind.i64 16)) (Operand.const (Value.int IntKind.i64 16)) from rfl) (by rfl) (by rfl) Try.underlying22 (by kernel_rfl) (by rfl) (by decide) (by decide)) (by rfl) (some 1) (by rfl) (fun _ => by repeat (first | exact trivial | refine ⟨by rfl, ?_⟩ | refine ⟨by simp only [List.length_append, List.length_cons, List.length_nil]; rfl, ?_⟩ | refine ⟨by push_cast; rfl, ?_⟩)) (by exact fun _ _ h => h.last) (by exact fun _ _ h => h.pick [1] (by rfl)) ?_
  intro g2
  refine Rg.ev 2 (by rfl) (by exact fun _ h => h.pick [1] (by rfl)) (Ev.buildP (pl := [(0, 1), (1, 1)]) (zs := [.slice none 0 0, .slice none 0 0]) (show Oper.op _ = Op.build 61 #[(0, Operand.tmp 1), (1, Operand.tmp 2)] from rfl) (by rfl) (by kernel_rfl) (by rfl)) (by rfl) (some 3) (by rfl) (by kernel_rfl) (by kernel_rfl) (by kernel_rfl) (by kernel_rfl) ?_
  refine Rg.one 3 (by kernel_rfl) ?_; refine RgO.tail 3 (by rfl) (Does.store 1 (show Oper.op _ = Op.store 61 (Operand.tmp 0) (Operand.tmp 3) from rfl) (by rfl) (by rfl) (by rfl) (by kernel_rfl) (by rfl) (by kernel_rfl) (by rfl)) (by rfl) none (by rfl) (by kernel_rfl) (by kernel_rfl) ?_
  intro _ _
  refine Rg.done (by kernel_rfl) ?_ _
  refine Cd.ret ?_
  refine Ent.ret (⟨some ⟨g2, 0, none⟩, 16, List.replicate 16 0, some ⟨g3, 0, none⟩, 16, List.replicate 16 noS⟩) (⟨rfl, rfl⟩) (Res.cell 1 (by rfl) (by rfl) (by rfl) (n := 2) (by kernel_rfl) (by rfl) (by rfl)) ?_ [2, 0] (by rfl) ?_
  · rfl
  · rfl
end Go.Proofs.Ytegjoabfoddadaa
