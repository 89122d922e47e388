/-
  Texts joined: ScY, ScZ, SlV, ScO, ScAA, ScAB, ScAC, ScAD, ScM.
-/
import Derived.Test.YtemcigoelcblbaaDoorMScL3a
import Derived.Test.YtemcigoelcblbaaDoorMScL3g
import Derived.Test.YtemcigoelcblbaaDoorMScL3h
import Derived.Test.YtemcigoelcblbaaDoorMScL3i
import Derived.Test.YtemcigoelcblbaaDoorMScL3j
import Derived.Deep.DeepHandedRow
import Derived.Stop.LaidErr
import Derived.Shelf.Vars
import Derived.MakeChecks
/- the walk of ScriptLines -/
namespace Go.Proofs.YtemcigoelcblbaaDoor
open Go.RowKit
set_option maxRecDepth 20000 in
set_option maxHeartbeats 4000000 in
theorem dsame_sl (z y : StS) (h1 : z.keeps.length ≤ 17592186044415) (h2 : z.cells.length ≤ 17592186044415) : Fn Tryd.prog 10 #[.agg z.enc.toArray, .agg y.enc.toArray] [z.rC, z.rK, y.rC, y.rK] Unit (fun _ => .bool (decide (z.p = y.p))) (fun _ => []) (fun _ => True) := by
  rw [show decide (z.p = y.p) = decide (z.p.eqs y.p) from decide_eq_decide.2 StP.eqs_iff.symm]
  have hk := ints_sl z.K y.K z.kc y.kc z.keeps y.keeps h1
  have hc := sameCall_sl z.verb y.verb z.ep y.ep z.st y.st z.C y.C z.cc y.cc z.cells y.cells h2
  obtain ⟨z1, z2, z3, z4, z5, z6, z7, z8, z9, z10, zC, zcc, zcl, zK, zkc, zkl⟩ := z
  obtain ⟨y1, y2, y3, y4, y5, y6, y7, y8, y9, y10, yC, ycc, ycl, yK, ykc, ykl⟩ := y
  dsimp only [StS.enc, StS.p, StP.eqs, StS.rC, StS.rK] at hk hc ⊢
  refine Fn.enter Tryd.func10 rfl Tryd.ntmps10 (by rfl) ?_
  intro w0
  refine Cd.seq ?_
  refine Cd.region ?_
  refine Ls.does (some 2) (Does.box (show Oper.op _ = Op.box 40 (Operand.tmp 0) from rfl) (by rfl)) (by rfl) (by rfl) ?_
  intro g1 _
  refine Ls.does (some 3) (Does.box (show Oper.op _ = Op.box 40 (Operand.tmp 1) from rfl) (by rfl)) (by rfl) (by rfl) ?_
  intro g2 _
  refine Ls.ev (some 4) (Ev.assign (show Oper.op _ = Op.assign (Operand.const (Value.bool false)) from rfl) (by rfl)) (by rfl) (by rfl) ?_
  refine Ls.nil ?_
  refine Cd.seq ?_
  refine Cd.cut (ι := Unit) (fun _ => [(4, .bool (decide (z1 = y1 ∧ z2 = y2 ∧ z3 = y3 ∧ z4 = y4 ∧ z5 = y5 ∧ z6 = y6 ∧ z7 = y7 ∧ zkl = ykl ∧ z8 = y8 ∧ z9 = y9 ∧ z10 = y10 ∧ zcl = ycl)))]) (fun _ => []) (fun _ => True) ?_ ?_
  · skip
    refine Cd.region ?_
    refine Ls.ev (some 5) (Ev.fieldAddr (k := 0) (show Oper.op _ = Op.fieldAddr 40 (Operand.tmp 2) 0 from rfl) (by rfl) (by kernel_rfl) (by rfl)) (by rfl) (by rfl) ?_
    refine Ls.ev (some 6) (Ev.load 1 (show Oper.op _ = Op.load 3 (Operand.tmp 5) from rfl) (by rfl) (by rfl) (by kernel_rfl) (by rfl)) (by rfl) (by rfl) ?_
    refine Ls.ev (some 7) (Ev.fieldAddr (k := 0) (show Oper.op _ = Op.fieldAddr 40 (Operand.tmp 3) 0 from rfl) (by rfl) (by kernel_rfl) (by rfl)) (by rfl) (by rfl) ?_
    refine Ls.ev (some 8) (Ev.load 0 (show Oper.op _ = Op.load 3 (Operand.tmp 7) from rfl) (by rfl) (by rfl) (by kernel_rfl) (by rfl)) (by rfl) (by rfl) ?_
    refine Ls.ev (some 9) (Ev.eql (show Oper.op _ = Op.binOp BinOp.eql 3 (Operand.tmp 6) (Operand.tmp 8) 3 from rfl) (by rfl) (by rfl)) (by rfl) (by rfl) ?_
    refine Ls.ev (some 10) (Ev.move (show Oper.op _ = Op.move (Operand.tmp 9) from rfl) (by rfl)) (by rfl) (by rfl) ?_
    refine Ent.split 10 (by rfl) (fun hT1 => ?_) (fun hT1 => ?_)
    · first | have hT1 := of_decide_eq_false hT1 | have hT1 := of_not_decide_false hT1 | skip
      refine Ls.pass (some 11) (by rfl) (by rfl) ?_
      refine Ls.pass (some 12) (by rfl) (by rfl) ?_
      refine Ls.pass (some 13) (by rfl) (by rfl) ?_
      refine Ls.pass (some 14) (by rfl) (by rfl) ?_
      refine Ls.pass (some 15) (by rfl) (by rfl) ?_
      refine Ls.ev (some 16) (Ev.pickF (show Oper.op _ = Op.pick (Operand.tmp 10) (Operand.tmp 15) (Operand.const (Value.bool false)) from rfl) (by rfl) (by rfl)) (by rfl) (by rfl) ?_
      refine Ls.ev (some 17) (Ev.move (show Oper.op _ = Op.move (Operand.tmp 16) from rfl) (by rfl)) (by rfl) (by rfl) ?_
      refine Ls.pass (some 18) (by rfl) (by rfl) ?_
      refine Ls.pass (some 19) (by rfl) (by rfl) ?_
      refine Ls.pass (some 20) (by rfl) (by rfl) ?_
      refine Ls.pass (some 21) (by rfl) (by rfl) ?_
      refine Ls.pass (some 22) (by rfl) (by rfl) ?_
      refine Ls.ev (some 23) (Ev.pickF (show Oper.op _ = Op.pick (Operand.tmp 17) (Operand.tmp 22) (Operand.const (Value.bool false)) from rfl) (by rfl) (by rfl)) (by rfl) (by rfl) ?_
      refine Ls.ev (some 24) (Ev.move (show Oper.op _ = Op.move (Operand.tmp 23) from rfl) (by rfl)) (by rfl) (by rfl) ?_
      refine Ls.pass (some 25) (by rfl) (by rfl) ?_
      refine Ls.pass (some 26) (by rfl) (by rfl) ?_
      refine Ls.pass (some 27) (by rfl) (by rfl) ?_
      refine Ls.pass (some 28) (by rfl) (by rfl) ?_
      refine Ls.pass (some 29) (by rfl) (by rfl) ?_
      refine Ls.ev (some 30) (Ev.pickF (show Oper.op _ = Op.pick (Operand.tmp 24) (Operand.tmp 29) (Operand.const (Value.bool false)) from rfl) (by rfl) (by rfl)) (by rfl) (by rfl) ?_
      refine Ls.ev (some 31) (Ev.move (show Oper.op _ = Op.move (Operand.tmp 30) from rfl) (by rfl)) (by rfl) (by rfl) ?_
      refine Ls.pass (some 32) (by rfl) (by rfl) ?_
      refine Ls.pass (some 33) (by rfl) (by rfl) ?_
      refine Ls.pass (some 34) (by rfl) (by rfl) ?_
      refine Ls.pass (some 35) (by rfl) (by rfl) ?_
      refine Ls.pass (some 36) (by rfl) (by rfl) ?_
      refine Ls.pass (some 37) (by rfl) (by rfl) ?_
      refine Ls.pass (some 38) (by rfl) (by rfl) ?_
      refine Ls.ev (some 39) (Ev.pickF (show Oper.op _ = Op.pick (Operand.tmp 31) (Operand.tmp 38) (Operand.const (Value.bool false)) from rfl) (by rfl) (by rfl)) (by rfl) (by rfl) ?_
      refine Ls.ev (some 40) (Ev.move (show Oper.op _ = Op.move (Operand.tmp 39) from rfl) (by rfl)) (by rfl) (by rfl) ?_
      refine Ls.pass (some 41) (by rfl) (by rfl) ?_
      refine Ls.pass (some 42) (by rfl) (by rfl) ?_
      refine Ls.pass (some 43) (by rfl) (by rfl) ?_
      refine Ls.pass (some 44) (by rfl) (by rfl) ?_
      refine Ls.pass (some 45) (by rfl) (by rfl) ?_
      refine Ls.pass (some 46) (by rfl) (by rfl) ?_
      refine Ls.pass (some 47) (by rfl) (by rfl) ?_
      refine Ls.ev (some 48) (Ev.pickF (show Oper.op _ = Op.pick (Operand.tmp 40) (Operand.tmp 47) (Operand.const (Value.bool false)) from rfl) (by rfl) (by rfl)) (by rfl) (by rfl) ?_
      refine Ls.ev (some 49) (Ev.move (show Oper.op _ = Op.move (Operand.tmp 48) from rfl) (by rfl)) (by rfl) (by rfl) ?_
      refine Ls.pass (some 50) (by rfl) (by rfl) ?_
      refine Ls.pass (some 51) (by rfl) (by rfl) ?_
      refine Ls.pass (some 52) (by rfl) (by rfl) ?_
      refine Ls.pass (some 53) (by rfl) (by rfl) ?_
      refine Ls.pass (some 54) (by rfl) (by rfl) ?_
      refine Ls.pass (some 55) (by rfl) (by rfl) ?_
      refine Ls.pass (some 56) (by rfl) (by rfl) ?_
      refine Ls.ev (some 57) (Ev.pickF (show Oper.op _ = Op.pick (Operand.tmp 49) (Operand.tmp 56) (Operand.const (Value.bool false)) from rfl) (by rfl) (by rfl)) (by rfl) (by rfl) ?_
      refine Ls.ev (some 58) (Ev.move (show Oper.op _ = Op.move (Operand.tmp 57) from rfl) (by rfl)) (by rfl) (by rfl) ?_
      refine Ls.pass (some 59) (by rfl) (by rfl) ?_
      refine Ls.pass (some 60) (by rfl) (by rfl) ?_
      refine Ls.pass (some 61) (by rfl) (by rfl) ?_
      refine Ls.pass (some 62) (by rfl) (by rfl) ?_
      refine Ls.pass (some 63) (by rfl) (by rfl) ?_
      refine Ls.pass (some 64) (by rfl) (by rfl) ?_
      refine Ls.pass (some 65) (by rfl) (by rfl) ?_
      refine Ls.ev (some 66) (Ev.pickF (show Oper.op _ = Op.pick (Operand.tmp 58) (Operand.tmp 65) (Operand.const (Value.bool false)) from rfl) (by rfl) (by rfl)) (by rfl) (by rfl) ?_
      refine Ls.ev (some 67) (Ev.move (show Oper.op _ = Op.move (Operand.tmp 66) from rfl) (by rfl)) (by rfl) (by rfl) ?_
      refine Ls.pass (some 68) (by rfl) (by rfl) ?_
      refine Ls.pass (some 69) (by rfl) (by rfl) ?_
      refine Ls.pass (some 70) (by rfl) (by rfl) ?_
      refine Ls.pass (some 71) (by rfl) (by rfl) ?_
      refine Ls.pass (some 72) (by rfl) (by rfl) ?_
      refine Ls.pass (some 73) (by rfl) (by rfl) ?_
      refine Ls.pass (some 74) (by rfl) (by rfl) ?_
      refine Ls.ev (some 75) (Ev.pickF (show Oper.op _ = Op.pick (Operand.tmp 67) (Operand.tmp 74) (Operand.const (Value.bool false)) from rfl) (by rfl) (by rfl)) (by rfl) (by rfl) ?_
      refine Ls.ev (some 4) (Ev.assign (show Oper.op _ = Op.assign (Operand.tmp 75) from rfl) (by rfl)) (by rfl) (by rfl) ?_
      refine Ls.nil ?_
      refine Ent.pick [] (by rfl) ?_
      refine Ent.inv () ?_ ?_ ?_
      · exact trivial
      · (repeat (first | exact trivial | refine ⟨by rfl, ?_⟩ | refine ⟨by simp only [List.length_append, List.length_cons, List.length_nil]; rfl, ?_⟩ | refine ⟨by push_cast; rfl, ?_⟩ | refine ⟨by (show some (Value.bool _) = some (Value.bool _); congr 2; (first | (refine (decide_eq_false ?_).symm; simp_all; done) | (refine decide_eq_decide.2 ?_; simp_all; done))), ?_⟩))
      · rfl
    · first | have hT1 := of_decide_eq_true hT1 | have hT1 := of_not_decide_true hT1 | skip
      refine Ls.ev (some 11) (Ev.fieldAddr (k := 1) (show Oper.op _ = Op.fieldAddr 40 (Operand.tmp 2) 1 from rfl) (by rfl) (by kernel_rfl) (by rfl)) (by rfl) (by rfl) ?_
      refine Ls.ev (some 12) (Ev.load 1 (show Oper.op _ = Op.load 3 (Operand.tmp 11) from rfl) (by rfl) (by rfl) (by kernel_rfl) (by rfl)) (by rfl) (by rfl) ?_
      refine Ls.ev (some 13) (Ev.fieldAddr (k := 1) (show Oper.op _ = Op.fieldAddr 40 (Operand.tmp 3) 1 from rfl) (by rfl) (by kernel_rfl) (by rfl)) (by rfl) (by rfl) ?_
      refine Ls.ev (some 14) (Ev.load 0 (show Oper.op _ = Op.load 3 (Operand.tmp 13) from rfl) (by rfl) (by rfl) (by kernel_rfl) (by rfl)) (by rfl) (by rfl) ?_
      refine Ls.ev (some 15) (Ev.eql (show Oper.op _ = Op.binOp BinOp.eql 3 (Operand.tmp 12) (Operand.tmp 14) 3 from rfl) (by rfl) (by rfl)) (by rfl) (by rfl) ?_
      refine Ls.ev (some 16) (Ev.pickT (show Oper.op _ = Op.pick (Operand.tmp 10) (Operand.tmp 15) (Operand.const (Value.bool false)) from rfl) (by rfl) (by rfl)) (by rfl) (by rfl) ?_
      refine Ls.ev (some 17) (Ev.move (show Oper.op _ = Op.move (Operand.tmp 16) from rfl) (by rfl)) (by rfl) (by rfl) ?_
      refine Ent.split 17 (by rfl) (fun hT2 => ?_) (fun hT2 => ?_)
      · first | have hT2 := of_decide_eq_false hT2 | have hT2 := of_not_decide_false hT2 | skip
        refine Ls.pass (some 18) (by rfl) (by rfl) ?_
        refine Ls.pass (some 19) (by rfl) (by rfl) ?_
        refine Ls.pass (some 20) (by rfl) (by rfl) ?_
        refine Ls.pass (some 21) (by rfl) (by rfl) ?_
        refine Ls.pass (some 22) (by rfl) (by rfl) ?_
        refine Ls.ev (some 23) (Ev.pickF (show Oper.op _ = Op.pick (Operand.tmp 17) (Operand.tmp 22) (Operand.const (Value.bool false)) from rfl) (by rfl) (by rfl)) (by rfl) (by rfl) ?_
        refine Ls.ev (some 24) (Ev.move (show Oper.op _ = Op.move (Operand.tmp 23) from rfl) (by rfl)) (by rfl) (by rfl) ?_
        refine Ls.pass (some 25) (by rfl) (by rfl) ?_
        refine Ls.pass (some 26) (by rfl) (by rfl) ?_
        refine Ls.pass (some 27) (by rfl) (by rfl) ?_
        refine Ls.pass (some 28) (by rfl) (by rfl) ?_
        refine Ls.pass (some 29) (by rfl) (by rfl) ?_
        refine Ls.ev (some 30) (Ev.pickF (show Oper.op _ = Op.pick (Operand.tmp 24) (Operand.tmp 29) (Operand.const (Value.bool false)) from rfl) (by rfl) (by rfl)) (by rfl) (by rfl) ?_
        refine Ls.ev (some 31) (Ev.move (show Oper.op _ = Op.move (Operand.tmp 30) from rfl) (by rfl)) (by rfl) (by rfl) ?_
        refine Ls.pass (some 32) (by rfl) (by rfl) ?_
        refine Ls.pass (some 33) (by rfl) (by rfl) ?_
        refine Ls.pass (some 34) (by rfl) (by rfl) ?_
        refine Ls.pass (some 35) (by rfl) (by rfl) ?_
        refine Ls.pass (some 36) (by rfl) (by rfl) ?_
        refine Ls.pass (some 37) (by rfl) (by rfl) ?_
        refine Ls.pass (some 38) (by rfl) (by rfl) ?_
        refine Ls.ev (some 39) (Ev.pickF (show Oper.op _ = Op.pick (Operand.tmp 31) (Operand.tmp 38) (Operand.const (Value.bool false)) from rfl) (by rfl) (by rfl)) (by rfl) (by rfl) ?_
        refine Ls.ev (some 40) (Ev.move (show Oper.op _ = Op.move (Operand.tmp 39) from rfl) (by rfl)) (by rfl) (by rfl) ?_
        refine Ls.pass (some 41) (by rfl) (by rfl) ?_
        refine Ls.pass (some 42) (by rfl) (by rfl) ?_
        refine Ls.pass (some 43) (by rfl) (by rfl) ?_
        refine Ls.pass (some 44) (by rfl) (by rfl) ?_
        refine Ls.pass (some 45) (by rfl) (by rfl) ?_
        refine Ls.pass (some 46) (by rfl) (by rfl) ?_
        refine Ls.pass (some 47) (by rfl) (by rfl) ?_
        refine Ls.ev (some 48) (Ev.pickF (show Oper.op _ = Op.pick (Operand.tmp 40) (Operand.tmp 47) (Operand.const (Value.bool false)) from rfl) (by rfl) (by rfl)) (by rfl) (by rfl) ?_
        refine Ls.ev (some 49) (Ev.move (show Oper.op _ = Op.move (Operand.tmp 48) from rfl) (by rfl)) (by rfl) (by rfl) ?_
        refine Ls.pass (some 50) (by rfl) (by rfl) ?_
        refine Ls.pass (some 51) (by rfl) (by rfl) ?_
        refine Ls.pass (some 52) (by rfl) (by rfl) ?_
        refine Ls.pass (some 53) (by rfl) (by rfl) ?_
        refine Ls.pass (some 54) (by rfl) (by rfl) ?_
        refine Ls.pass (some 55) (by rfl) (by rfl) ?_
        refine Ls.pass (some 56) (by rfl) (by rfl) ?_
        refine Ls.ev (some 57) (Ev.pickF (show Oper.op _ = Op.pick (Operand.tmp 49) (Operand.tmp 56) (Operand.const (Value.bool false)) from rfl) (by rfl) (by rfl)) (by rfl) (by rfl) ?_
        refine Ls.ev (some 58) (Ev.move (show Oper.op _ = Op.move (Operand.tmp 57) from rfl) (by rfl)) (by rfl) (by rfl) ?_
        refine Ls.pass (some 59) (by rfl) (by rfl) ?_
        refine Ls.pass (some 60) (by rfl) (by rfl) ?_
        refine Ls.pass (some 61) (by rfl) (by rfl) ?_
        refine Ls.pass (some 62) (by rfl) (by rfl) ?_
        refine Ls.pass (some 63) (by rfl) (by rfl) ?_
        refine Ls.pass (some 64) (by rfl) (by rfl) ?_
        refine Ls.pass (some 65) (by rfl) (by rfl) ?_
        refine Ls.ev (some 66) (Ev.pickF (show Oper.op _ = Op.pick (Operand.tmp 58) (Operand.tmp 65) (Operand.const (Value.bool false)) from rfl) (by rfl) (by rfl)) (by rfl) (by rfl) ?_
        refine Ls.ev (some 67) (Ev.move (show Oper.op _ = Op.move (Operand.tmp 66) from rfl) (by rfl)) (by rfl) (by rfl) ?_
        refine Ls.pass (some 68) (by rfl) (by rfl) ?_
        refine Ls.pass (some 69) (by rfl) (by rfl) ?_
        refine Ls.pass (some 70) (by rfl) (by rfl) ?_
        refine Ls.pass (some 71) (by rfl) (by rfl) ?_
        refine Ls.pass (some 72) (by rfl) (by rfl) ?_
        refine Ls.pass (some 73) (by rfl) (by rfl) ?_
        refine Ls.pass (some 74) (by rfl) (by rfl) ?_
        refine Ls.ev (some 75) (Ev.pickF (show Oper.op _ = Op.pick (Operand.tmp 67) (Operand.tmp 74) (Operand.const (Value.bool false)) from rfl) (by rfl) (by rfl)) (by rfl) (by rfl) ?_
        refine Ls.ev (some 4) (Ev.assign (show Oper.op _ = Op.assign (Operand.tmp 75) from rfl) (by rfl)) (by rfl) (by rfl) ?_
        refine Ls.nil ?_
        refine Ent.pick [] (by rfl) ?_
        refine Ent.inv () ?_ ?_ ?_
        · exact trivial
        · (repeat (first | exact trivial | refine ⟨by rfl, ?_⟩ | refine ⟨by simp only [List.length_append, List.length_cons, List.length_nil]; rfl, ?_⟩ | refine ⟨by push_cast; rfl, ?_⟩ | refine ⟨by (show some (Value.bool _) = some (Value.bool _); congr 2; (first | (refine (decide_eq_false ?_).symm; simp_all; done) | (refine decide_eq_decide.2 ?_; simp_all; done))), ?_⟩))
        · rfl
      · first | have hT2 := of_decide_eq_true hT2 | have hT2 := of_not_decide_true hT2 | skip
        refine Ls.ev (some 18) (Ev.fieldAddr (k := 2) (show Oper.op _ = Op.fieldAddr 40 (Operand.tmp 2) 2 from rfl) (by rfl) (by kernel_rfl) (by rfl)) (by rfl) (by rfl) ?_
        refine Ls.ev (some 19) (Ev.load 1 (show Oper.op _ = Op.load 3 (Operand.tmp 18) from rfl) (by rfl) (by rfl) (by kernel_rfl) (by rfl)) (by rfl) (by rfl) ?_
        refine Ls.ev (some 20) (Ev.fieldAddr (k := 2) (show Oper.op _ = Op.fieldAddr 40 (Operand.tmp 3) 2 from rfl) (by rfl) (by kernel_rfl) (by rfl)) (by rfl) (by rfl) ?_
        refine Ls.ev (some 21) (Ev.load 0 (show Oper.op _ = Op.load 3 (Operand.tmp 20) from rfl) (by rfl) (by rfl) (by kernel_rfl) (by rfl)) (by rfl) (by rfl) ?_
        refine Ls.ev (some 22) (Ev.eql (show Oper.op _ = Op.binOp BinOp.eql 3 (Operand.tmp 19) (Operand.tmp 21) 3 from rfl) (by rfl) (by rfl)) (by rfl) (by rfl) ?_
        refine Ls.ev (some 23) (Ev.pickT (show Oper.op _ = Op.pick (Operand.tmp 17) (Operand.tmp 22) (Operand.const (Value.bool false)) from rfl) (by rfl) (by rfl)) (by rfl) (by rfl) ?_
        refine Ls.ev (some 24) (Ev.move (show Oper.op _ = Op.move (Operand.tmp 23) from rfl) (by rfl)) (by rfl) (by rfl) ?_
        refine Ent.split 24 (by rfl) (fun hT3 => ?_) (fun hT3 => ?_)
        · first | have hT3 := of_decide_eq_false hT3 | have hT3 := of_not_decide_false hT3 | skip
          refine Ls.pass (some 25) (by rfl) (by rfl) ?_
          refine Ls.pass (some 26) (by rfl) (by rfl) ?_
          refine Ls.pass (some 27) (by rfl) (by rfl) ?_
          refine Ls.pass (some 28) (by rfl) (by rfl) ?_
          refine Ls.pass (some 29) (by rfl) (by rfl) ?_
          refine Ls.ev (some 30) (Ev.pickF (show Oper.op _ = Op.pick (Operand.tmp 24) (Operand.tmp 29) (Operand.const (Value.bool false)) from rfl) (by rfl) (by rfl)) (by rfl) (by rfl) ?_
          refine Ls.ev (some 31) (Ev.move (show Oper.op _ = Op.move (Operand.tmp 30) from rfl) (by rfl)) (by rfl) (by rfl) ?_
          refine Ls.pass (some 32) (by rfl) (by rfl) ?_
          refine Ls.pass (some 33) (by rfl) (by rfl) ?_
          refine Ls.pass (some 34) (by rfl) (by rfl) ?_
          refine Ls.pass (some 35) (by rfl) (by rfl) ?_
          refine Ls.pass (some 36) (by rfl) (by rfl) ?_
          refine Ls.pass (some 37) (by rfl) (by rfl) ?_
          refine Ls.pass (some 38) (by rfl) (by rfl) ?_
          refine Ls.ev (some 39) (Ev.pickF (show Oper.op _ = Op.pick (Operand.tmp 31) (Operand.tmp 38) (Operand.const (Value.bool false)) from rfl) (by rfl) (by rfl)) (by rfl) (by rfl) ?_
          refine Ls.ev (some 40) (Ev.move (show Oper.op _ = Op.move (Operand.tmp 39) from rfl) (by rfl)) (by rfl) (by rfl) ?_
          refine Ls.pass (some 41) (by rfl) (by rfl) ?_
          refine Ls.pass (some 42) (by rfl) (by rfl) ?_
          refine Ls.pass (some 43) (by rfl) (by rfl) ?_
          refine Ls.pass (some 44) (by rfl) (by rfl) ?_
          refine Ls.pass (some 45) (by rfl) (by rfl) ?_
          refine Ls.pass (some 46) (by rfl) (by rfl) ?_
          refine Ls.pass (some 47) (by rfl) (by rfl) ?_
          refine Ls.ev (some 48) (Ev.pickF (show Oper.op _ = Op.pick (Operand.tmp 40) (Operand.tmp 47) (Operand.const (Value.bool false)) from rfl) (by rfl) (by rfl)) (by rfl) (by rfl) ?_
          refine Ls.ev (some 49) (Ev.move (show Oper.op _ = Op.move (Operand.tmp 48) from rfl) (by rfl)) (by rfl) (by rfl) ?_
          refine Ls.pass (some 50) (by rfl) (by rfl) ?_
          refine Ls.pass (some 51) (by rfl) (by rfl) ?_
          refine Ls.pass (some 52) (by rfl) (by rfl) ?_
          refine Ls.pass (some 53) (by rfl) (by rfl) ?_
          refine Ls.pass (some 54) (by rfl) (by rfl) ?_
          refine Ls.pass (some 55) (by rfl) (by rfl) ?_
          refine Ls.pass (some 56) (by rfl) (by rfl) ?_
          refine Ls.ev (some 57) (Ev.pickF (show Oper.op _ = Op.pick (Operand.tmp 49) (Operand.tmp 56) (Operand.const (Value.bool false)) from rfl) (by rfl) (by rfl)) (by rfl) (by rfl) ?_
          refine Ls.ev (some 58) (Ev.move (show Oper.op _ = Op.move (Operand.tmp 57) from rfl) (by rfl)) (by rfl) (by rfl) ?_
          refine Ls.pass (some 59) (by rfl) (by rfl) ?_
          refine Ls.pass (some 60) (by rfl) (by rfl) ?_
          refine Ls.pass (some 61) (by rfl) (by rfl) ?_
          refine Ls.pass (some 62) (by rfl) (by rfl) ?_
          refine Ls.pass (some 63) (by rfl) (by rfl) ?_
          refine Ls.pass (some 64) (by rfl) (by rfl) ?_
          refine Ls.pass (some 65) (by rfl) (by rfl) ?_
          refine Ls.ev (some 66) (Ev.pickF (show Oper.op _ = Op.pick (Operand.tmp 58) (Operand.tmp 65) (Operand.const (Value.bool false)) from rfl) (by rfl) (by rfl)) (by rfl) (by rfl) ?_
          refine Ls.ev (some 67) (Ev.move (show Oper.op _ = Op.move (Operand.tmp 66) from rfl) (by rfl)) (by rfl) (by rfl) ?_
          refine Ls.pass (some 68) (by rfl) (by rfl) ?_
          refine Ls.pass (some 69) (by rfl) (by rfl) ?_
          refine Ls.pass (some 70) (by rfl) (by rfl) ?_
          refine Ls.pass (some 71) (by rfl) (by rfl) ?_
          refine Ls.pass (some 72) (by rfl) (by rfl) ?_
          refine Ls.pass (some 73) (by rfl) (by rfl) ?_
          refine Ls.pass (some 74) (by rfl) (by rfl) ?_
          refine Ls.ev (some 75) (Ev.pickF (show Oper.op _ = Op.pick (Operand.tmp 67) (Operand.tmp 74) (Operand.const (Value.bool false)) from rfl) (by rfl) (by rfl)) (by rfl) (by rfl) ?_
          refine Ls.ev (some 4) (Ev.assign (show Oper.op _ = Op.assign (Operand.tmp 75) from rfl) (by rfl)) (by rfl) (by rfl) ?_
          refine Ls.nil ?_
          refine Ent.pick [] (by rfl) ?_
          refine Ent.inv () ?_ ?_ ?_
          · exact trivial
          · (repeat (first | exact trivial | refine ⟨by rfl, ?_⟩ | refine ⟨by simp only [List.length_append, List.length_cons, List.length_nil]; rfl, ?_⟩ | refine ⟨by push_cast; rfl, ?_⟩ | refine ⟨by (show some (Value.bool _) = some (Value.bool _); congr 2; (first | (refine (decide_eq_false ?_).symm; simp_all; done) | (refine decide_eq_decide.2 ?_; simp_all; done))), ?_⟩))
          · rfl
        · first | have hT3 := of_decide_eq_true hT3 | have hT3 := of_not_decide_true hT3 | skip
          refine Ls.ev (some 25) (Ev.fieldAddr (k := 3) (show Oper.op _ = Op.fieldAddr 40 (Operand.tmp 2) 3 from rfl) (by rfl) (by kernel_rfl) (by rfl)) (by rfl) (by rfl) ?_
          refine Ls.ev (some 26) (Ev.load 1 (show Oper.op _ = Op.load 3 (Operand.tmp 25) from rfl) (by rfl) (by rfl) (by kernel_rfl) (by rfl)) (by rfl) (by rfl) ?_
          refine Ls.ev (some 27) (Ev.fieldAddr (k := 3) (show Oper.op _ = Op.fieldAddr 40 (Operand.tmp 3) 3 from rfl) (by rfl) (by kernel_rfl) (by rfl)) (by rfl) (by rfl) ?_
          refine Ls.ev (some 28) (Ev.load 0 (show Oper.op _ = Op.load 3 (Operand.tmp 27) from rfl) (by rfl) (by rfl) (by kernel_rfl) (by rfl)) (by rfl) (by rfl) ?_
          refine Ls.ev (some 29) (Ev.eql (show Oper.op _ = Op.binOp BinOp.eql 3 (Operand.tmp 26) (Operand.tmp 28) 3 from rfl) (by rfl) (by rfl)) (by rfl) (by rfl) ?_
          refine Ls.ev (some 30) (Ev.pickT (show Oper.op _ = Op.pick (Operand.tmp 24) (Operand.tmp 29) (Operand.const (Value.bool false)) from rfl) (by rfl) (by rfl)) (by rfl) (by rfl) ?_
          refine Ls.ev (some 31) (Ev.move (show Oper.op _ = Op.move (Operand.tmp 30) from rfl) (by rfl)) (by rfl) (by rfl) ?_
          refine Ent.split 31 (by rfl) (fun hT4 => ?_) (fun hT4 => ?_)
          · first | have hT4 := of_decide_eq_false hT4 | have hT4 := of_not_decide_false hT4 | skip
            refine Ls.pass (some 32) (by rfl) (by rfl) ?_
            refine Ls.pass (some 33) (by rfl) (by rfl) ?_
            refine Ls.pass (some 34) (by rfl) (by rfl) ?_
            refine Ls.pass (some 35) (by rfl) (by rfl) ?_
            refine Ls.pass (some 36) (by rfl) (by rfl) ?_
            refine Ls.pass (some 37) (by rfl) (by rfl) ?_
            refine Ls.pass (some 38) (by rfl) (by rfl) ?_
            refine Ls.ev (some 39) (Ev.pickF (show Oper.op _ = Op.pick (Operand.tmp 31) (Operand.tmp 38) (Operand.const (Value.bool false)) from rfl) (by rfl) (by rfl)) (by rfl) (by rfl) ?_
            refine Ls.ev (some 40) (Ev.move (show Oper.op _ = Op.move (Operand.tmp 39) from rfl) (by rfl)) (by rfl) (by rfl) ?_
            refine Ls.pass (some 41) (by rfl) (by rfl) ?_
            refine Ls.pass (some 42) (by rfl) (by rfl) ?_
            refine Ls.pass (some 43) (by rfl) (by rfl) ?_
            refine Ls.pass (some 44) (by rfl) (by rfl) ?_
            refine Ls.pass (some 45) (by rfl) (by rfl) ?_
            refine Ls.pass (some 46) (by rfl) (by rfl) ?_
            refine Ls.pass (some 47) (by rfl) (by rfl) ?_
            refine Ls.ev (some 48) (Ev.pickF (show Oper.op _ = Op.pick (Operand.tmp 40) (Operand.tmp 47) (Operand.const (Value.bool false)) from rfl) (by rfl) (by rfl)) (by rfl) (by rfl) ?_
            refine Ls.ev (some 49) (Ev.move (show Oper.op _ = Op.move (Operand.tmp 48) from rfl) (by rfl)) (by rfl) (by rfl) ?_
            refine Ls.pass (some 50) (by rfl) (by rfl) ?_
            refine Ls.pass (some 51) (by rfl) (by rfl) ?_
            refine Ls.pass (some 52) (by rfl) (by rfl) ?_
            refine Ls.pass (some 53) (by rfl) (by rfl) ?_
            refine Ls.pass (some 54) (by rfl) (by rfl) ?_
            refine Ls.pass (some 55) (by rfl) (by rfl) ?_
            refine Ls.pass (some 56) (by rfl) (by rfl) ?_
            refine Ls.ev (some 57) (Ev.pickF (show Oper.op _ = Op.pick (Operand.tmp 49) (Operand.tmp 56) (Operand.const (Value.bool false)) from rfl) (by rfl) (by rfl)) (by rfl) (by rfl) ?_
            refine Ls.ev (some 58) (Ev.move (show Oper.op _ = Op.move (Operand.tmp 57) from rfl) (by rfl)) (by rfl) (by rfl) ?_
            refine Ls.pass (some 59) (by rfl) (by rfl) ?_
            refine Ls.pass (some 60) (by rfl) (by rfl) ?_
            refine Ls.pass (some 61) (by rfl) (by rfl) ?_
            refine Ls.pass (some 62) (by rfl) (by rfl) ?_
            refine Ls.pass (some 63) (by rfl) (by rfl) ?_
            refine Ls.pass (some 64) (by rfl) (by rfl) ?_
            refine Ls.pass (some 65) (by rfl) (by rfl) ?_
            refine Ls.ev (some 66) (Ev.pickF (show Oper.op _ = Op.pick (Operand.tmp 58) (Operand.tmp 65) (Operand.const (Value.bool false)) from rfl) (by rfl) (by rfl)) (by rfl) (by rfl) ?_
            refine Ls.ev (some 67) (Ev.move (show Oper.op _ = Op.move (Operand.tmp 66) from rfl) (by rfl)) (by rfl) (by rfl) ?_
            refine Ls.pass (some 68) (by rfl) (by rfl) ?_
            refine Ls.pass (some 69) (by rfl) (by rfl) ?_
            refine Ls.pass (some 70) (by rfl) (by rfl) ?_
            refine Ls.pass (some 71) (by rfl) (by rfl) ?_
            refine Ls.pass (some 72) (by rfl) (by rfl) ?_
            refine Ls.pass (some 73) (by rfl) (by rfl) ?_
            refine Ls.pass (some 74) (by rfl) (by rfl) ?_
            refine Ls.ev (some 75) (Ev.pickF (show Oper.op _ = Op.pick (Operand.tmp 67) (Operand.tmp 74) (Operand.const (Value.bool false)) from rfl) (by rfl) (by rfl)) (by rfl) (by rfl) ?_
            refine Ls.ev (some 4) (Ev.assign (show Oper.op _ = Op.assign (Operand.tmp 75) from rfl) (by rfl)) (by rfl) (by rfl) ?_
            refine Ls.nil ?_
            refine Ent.pick [] (by rfl) ?_
            refine Ent.inv () ?_ ?_ ?_
            · exact trivial
            · (repeat (first | exact trivial | refine ⟨by rfl, ?_⟩ | refine ⟨by simp only [List.length_append, List.length_cons, List.length_nil]; rfl, ?_⟩ | refine ⟨by push_cast; rfl, ?_⟩ | refine ⟨by (show some (Value.bool _) = some (Value.bool _); congr 2; (first | (refine (decide_eq_false ?_).symm; simp_all; done) | (refine decide_eq_decide.2 ?_; simp_all; done))), ?_⟩))
            · rfl
          · first | have hT4 := of_decide_eq_true hT4 | have hT4 := of_not_decide_true hT4 | skip
            refine Ls.ev (some 32) (Ev.fieldAddr (k := 4) (show Oper.op _ = Op.fieldAddr 40 (Operand.tmp 2) 4 from rfl) (by rfl) (by kernel_rfl) (by rfl)) (by rfl) (by rfl) ?_
            refine Ls.ev (some 33) (Ev.fieldAddr (k := 0) (show Oper.op _ = Op.fieldAddr 33 (Operand.tmp 32) 0 from rfl) (by rfl) (by kernel_rfl) (by rfl)) (by rfl) (by rfl) ?_
            refine Ls.ev (some 34) (Ev.load 1 (show Oper.op _ = Op.load 25 (Operand.tmp 33) from rfl) (by rfl) (by rfl) (by kernel_rfl) (by rfl)) (by rfl) (by rfl) ?_
            refine Ls.ev (some 35) (Ev.fieldAddr (k := 4) (show Oper.op _ = Op.fieldAddr 40 (Operand.tmp 3) 4 from rfl) (by rfl) (by kernel_rfl) (by rfl)) (by rfl) (by rfl) ?_
            refine Ls.ev (some 36) (Ev.fieldAddr (k := 0) (show Oper.op _ = Op.fieldAddr 33 (Operand.tmp 35) 0 from rfl) (by rfl) (by kernel_rfl) (by rfl)) (by rfl) (by rfl) ?_
            refine Ls.ev (some 37) (Ev.load 0 (show Oper.op _ = Op.load 25 (Operand.tmp 36) from rfl) (by rfl) (by rfl) (by kernel_rfl) (by rfl)) (by rfl) (by rfl) ?_
            refine Ls.ev (some 38) (Ev.eql (show Oper.op _ = Op.binOp BinOp.eql 25 (Operand.tmp 34) (Operand.tmp 37) 25 from rfl) (by rfl) (by rfl)) (by rfl) (by rfl) ?_
            refine Ls.ev (some 39) (Ev.pickT (show Oper.op _ = Op.pick (Operand.tmp 31) (Operand.tmp 38) (Operand.const (Value.bool false)) from rfl) (by rfl) (by rfl)) (by rfl) (by rfl) ?_
            refine Ls.ev (some 40) (Ev.move (show Oper.op _ = Op.move (Operand.tmp 39) from rfl) (by rfl)) (by rfl) (by rfl) ?_
            refine Ent.split 40 (by rfl) (fun hT5 => ?_) (fun hT5 => ?_)
            · first | have hT5 := of_decide_eq_false hT5 | have hT5 := of_not_decide_false hT5 | skip
              refine Ls.pass (some 41) (by rfl) (by rfl) ?_
              refine Ls.pass (some 42) (by rfl) (by rfl) ?_
              refine Ls.pass (some 43) (by rfl) (by rfl) ?_
              refine Ls.pass (some 44) (by rfl) (by rfl) ?_
              refine Ls.pass (some 45) (by rfl) (by rfl) ?_
              refine Ls.pass (some 46) (by rfl) (by rfl) ?_
              refine Ls.pass (some 47) (by rfl) (by rfl) ?_
              refine Ls.ev (some 48) (Ev.pickF (show Oper.op _ = Op.pick (Operand.tmp 40) (Operand.tmp 47) (Operand.const (Value.bool false)) from rfl) (by rfl) (by rfl)) (by rfl) (by rfl) ?_
              refine Ls.ev (some 49) (Ev.move (show Oper.op _ = Op.move (Operand.tmp 48) from rfl) (by rfl)) (by rfl) (by rfl) ?_
              refine Ls.pass (some 50) (by rfl) (by rfl) ?_
              refine Ls.pass (some 51) (by rfl) (by rfl) ?_
              refine Ls.pass (some 52) (by rfl) (by rfl) ?_
              refine Ls.pass (some 53) (by rfl) (by rfl) ?_
              refine Ls.pass (some 54) (by rfl) (by rfl) ?_
              refine Ls.pass (some 55) (by rfl) (by rfl) ?_
              refine Ls.pass (some 56) (by rfl) (by rfl) ?_
              refine Ls.ev (some 57) (Ev.pickF (show Oper.op _ = Op.pick (Operand.tmp 49) (Operand.tmp 56) (Operand.const (Value.bool false)) from rfl) (by rfl) (by rfl)) (by rfl) (by rfl) ?_
              refine Ls.ev (some 58) (Ev.move (show Oper.op _ = Op.move (Operand.tmp 57) from rfl) (by rfl)) (by rfl) (by rfl) ?_
              refine Ls.pass (some 59) (by rfl) (by rfl) ?_
              refine Ls.pass (some 60) (by rfl) (by rfl) ?_
              refine Ls.pass (some 61) (by rfl) (by rfl) ?_
              refine Ls.pass (some 62) (by rfl) (by rfl) ?_
              refine Ls.pass (some 63) (by rfl) (by rfl) ?_
              refine Ls.pass (some 64) (by rfl) (by rfl) ?_
              refine Ls.pass (some 65) (by rfl) (by rfl) ?_
              refine Ls.ev (some 66) (Ev.pickF (show Oper.op _ = Op.pick (Operand.tmp 58) (Operand.tmp 65) (Operand.const (Value.bool false)) from rfl) (by rfl) (by rfl)) (by rfl) (by rfl) ?_
              refine Ls.ev (some 67) (Ev.move (show Oper.op _ = Op.move (Operand.tmp 66) from rfl) (by rfl)) (by rfl) (by rfl) ?_
              refine Ls.pass (some 68) (by rfl) (by rfl) ?_
              refine Ls.pass (some 69) (by rfl) (by rfl) ?_
              refine Ls.pass (some 70) (by rfl) (by rfl) ?_
              refine Ls.pass (some 71) (by rfl) (by rfl) ?_
              refine Ls.pass (some 72) (by rfl) (by rfl) ?_
              refine Ls.pass (some 73) (by rfl) (by rfl) ?_
              refine Ls.pass (some 74) (by rfl) (by rfl) ?_
              refine Ls.ev (some 75) (Ev.pickF (show Oper.op _ = Op.pick (Operand.tmp 67) (Operand.tmp 74) (Operand.const (Value.bool false)) from rfl) (by rfl) (by rfl)) (by rfl) (by rfl) ?_
              refine Ls.ev (some 4) (Ev.assign (show Oper.op _ = Op.assign (Operand.tmp 75) from rfl) (by rfl)) (by rfl) (by rfl) ?_
              refine Ls.nil ?_
              refine Ent.pick [] (by rfl) ?_
              refine Ent.inv () ?_ ?_ ?_
              · exact trivial
              · (repeat (first | exact trivial | refine ⟨by rfl, ?_⟩ | refine ⟨by simp only [List.length_append, List.length_cons, List.length_nil]; rfl, ?_⟩ | refine ⟨by push_cast; rfl, ?_⟩ | refine ⟨by (show some (Value.bool _) = some (Value.bool _); congr 2; (first | (refine (decide_eq_false ?_).symm; simp_all; done) | (refine decide_eq_decide.2 ?_; simp_all; done))), ?_⟩))
              · rfl
            · first | have hT5 := of_decide_eq_true hT5 | have hT5 := of_not_decide_true hT5 | skip
              refine Ls.ev (some 41) (Ev.fieldAddr (k := 4) (show Oper.op _ = Op.fieldAddr 40 (Operand.tmp 2) 4 from rfl) (by rfl) (by kernel_rfl) (by rfl)) (by rfl) (by rfl) ?_
              refine Ls.ev (some 42) (Ev.fieldAddr (k := 1) (show Oper.op _ = Op.fieldAddr 33 (Operand.tmp 41) 1 from rfl) (by rfl) (by kernel_rfl) (by rfl)) (by rfl) (by rfl) ?_
              refine Ls.ev (some 43) (Ev.load 1 (show Oper.op _ = Op.load 3 (Operand.tmp 42) from rfl) (by rfl) (by rfl) (by kernel_rfl) (by rfl)) (by rfl) (by rfl) ?_
              refine Ls.ev (some 44) (Ev.fieldAddr (k := 4) (show Oper.op _ = Op.fieldAddr 40 (Operand.tmp 3) 4 from rfl) (by rfl) (by kernel_rfl) (by rfl)) (by rfl) (by rfl) ?_
              refine Ls.ev (some 45) (Ev.fieldAddr (k := 1) (show Oper.op _ = Op.fieldAddr 33 (Operand.tmp 44) 1 from rfl) (by rfl) (by kernel_rfl) (by rfl)) (by rfl) (by rfl) ?_
              refine Ls.ev (some 46) (Ev.load 0 (show Oper.op _ = Op.load 3 (Operand.tmp 45) from rfl) (by rfl) (by rfl) (by kernel_rfl) (by rfl)) (by rfl) (by rfl) ?_
              refine Ls.ev (some 47) (Ev.eql (show Oper.op _ = Op.binOp BinOp.eql 3 (Operand.tmp 43) (Operand.tmp 46) 3 from rfl) (by rfl) (by rfl)) (by rfl) (by rfl) ?_
              refine Ls.ev (some 48) (Ev.pickT (show Oper.op _ = Op.pick (Operand.tmp 40) (Operand.tmp 47) (Operand.const (Value.bool false)) from rfl) (by rfl) (by rfl)) (by rfl) (by rfl) ?_
              refine Ls.ev (some 49) (Ev.move (show Oper.op _ = Op.move (Operand.tmp 48) from rfl) (by rfl)) (by rfl) (by rfl) ?_
              refine Ent.split 49 (by rfl) (fun hT6 => ?_) (fun hT6 => ?_)
              · first | have hT6 := of_decide_eq_false hT6 | have hT6 := of_not_decide_false hT6 | skip
                refine Ls.pass (some 50) (by rfl) (by rfl) ?_
                refine Ls.pass (some 51) (by rfl) (by rfl) ?_
                refine Ls.pass (some 52) (by rfl) (by rfl) ?_
                refine Ls.pass (some 53) (by rfl) (by rfl) ?_
                refine Ls.pass (some 54) (by rfl) (by rfl) ?_
                refine Ls.pass (some 55) (by rfl) (by rfl) ?_
                refine Ls.pass (some 56) (by rfl) (by rfl) ?_
                refine Ls.ev (some 57) (Ev.pickF (show Oper.op _ = Op.pick (Operand.tmp 49) (Operand.tmp 56) (Operand.const (Value.bool false)) from rfl) (by rfl) (by rfl)) (by rfl) (by rfl) ?_
                refine Ls.ev (some 58) (Ev.move (show Oper.op _ = Op.move (Operand.tmp 57) from rfl) (by rfl)) (by rfl) (by rfl) ?_
                refine Ls.pass (some 59) (by rfl) (by rfl) ?_
                refine Ls.pass (some 60) (by rfl) (by rfl) ?_
                refine Ls.pass (some 61) (by rfl) (by rfl) ?_
                refine Ls.pass (some 62) (by rfl) (by rfl) ?_
                refine Ls.pass (some 63) (by rfl) (by rfl) ?_
                refine Ls.pass (some 64) (by rfl) (by rfl) ?_
                refine Ls.pass (some 65) (by rfl) (by rfl) ?_
                refine Ls.ev (some 66) (Ev.pickF (show Oper.op _ = Op.pick (Operand.tmp 58) (Operand.tmp 65) (Operand.const (Value.bool false)) from rfl) (by rfl) (by rfl)) (by rfl) (by rfl) ?_
                refine Ls.ev (some 67) (Ev.move (show Oper.op _ = Op.move (Operand.tmp 66) from rfl) (by rfl)) (by rfl) (by rfl) ?_
                refine Ls.pass (some 68) (by rfl) (by rfl) ?_
                refine Ls.pass (some 69) (by rfl) (by rfl) ?_
                refine Ls.pass (some 70) (by rfl) (by rfl) ?_
                refine Ls.pass (some 71) (by rfl) (by rfl) ?_
                refine Ls.pass (some 72) (by rfl) (by rfl) ?_
                refine Ls.pass (some 73) (by rfl) (by rfl) ?_
                refine Ls.pass (some 74) (by rfl) (by rfl) ?_
                refine Ls.ev (some 75) (Ev.pickF (show Oper.op _ = Op.pick (Operand.tmp 67) (Operand.tmp 74) (Operand.const (Value.bool false)) from rfl) (by rfl) (by rfl)) (by rfl) (by rfl) ?_
                refine Ls.ev (some 4) (Ev.assign (show Oper.op _ = Op.assign (Operand.tmp 75) from rfl) (by rfl)) (by rfl) (by rfl) ?_
                refine Ls.nil ?_
                refine Ent.pick [] (by rfl) ?_
                refine Ent.inv () ?_ ?_ ?_
                · exact trivial
                · (repeat (first | exact trivial | refine ⟨by rfl, ?_⟩ | refine ⟨by simp only [List.length_append, List.length_cons, List.length_nil]; rfl, ?_⟩ | refine ⟨by push_cast; rfl, ?_⟩ | refine ⟨by (show some (Value.bool _) = some (Value.bool _); congr 2; (first | (refine (decide_eq_false ?_).symm; simp_all; done) | (refine decide_eq_decide.2 ?_; simp_all; done))), ?_⟩))
                · rfl
              · first | have hT6 := of_decide_eq_true hT6 | have hT6 := of_not_decide_true hT6 | skip
                refine Ls.ev (some 50) (Ev.fieldAddr (k := 4) (show Oper.op _ = Op.fieldAddr 40 (Operand.tmp 2) 4 from rfl) (by rfl) (by kernel_rfl) (by rfl)) (by rfl) (by rfl) ?_
                refine Ls.ev (some 51) (Ev.fieldAddr (k := 2) (show Oper.op _ = Op.fieldAddr 33 (Operand.tmp 50) 2 from rfl) (by rfl) (by kernel_rfl) (by rfl)) (by rfl) (by rfl) ?_
                refine Ls.ev (some 52) (Ev.load 1 (show Oper.op _ = Op.load 3 (Operand.tmp 51) from rfl) (by rfl) (by rfl) (by kernel_rfl) (by rfl)) (by rfl) (by rfl) ?_
                refine Ls.ev (some 53) (Ev.fieldAddr (k := 4) (show Oper.op _ = Op.fieldAddr 40 (Operand.tmp 3) 4 from rfl) (by rfl) (by kernel_rfl) (by rfl)) (by rfl) (by rfl) ?_
                refine Ls.ev (some 54) (Ev.fieldAddr (k := 2) (show Oper.op _ = Op.fieldAddr 33 (Operand.tmp 53) 2 from rfl) (by rfl) (by kernel_rfl) (by rfl)) (by rfl) (by rfl) ?_
                refine Ls.ev (some 55) (Ev.load 0 (show Oper.op _ = Op.load 3 (Operand.tmp 54) from rfl) (by rfl) (by rfl) (by kernel_rfl) (by rfl)) (by rfl) (by rfl) ?_
                refine Ls.ev (some 56) (Ev.eql (show Oper.op _ = Op.binOp BinOp.eql 3 (Operand.tmp 52) (Operand.tmp 55) 3 from rfl) (by rfl) (by rfl)) (by rfl) (by rfl) ?_
                refine Ls.ev (some 57) (Ev.pickT (show Oper.op _ = Op.pick (Operand.tmp 49) (Operand.tmp 56) (Operand.const (Value.bool false)) from rfl) (by rfl) (by rfl)) (by rfl) (by rfl) ?_
                refine Ls.ev (some 58) (Ev.move (show Oper.op _ = Op.move (Operand.tmp 57) from rfl) (by rfl)) (by rfl) (by rfl) ?_
                refine Ent.split 58 (by rfl) (fun hT7 => ?_) (fun hT7 => ?_)
                · first | have hT7 := of_decide_eq_false hT7 | have hT7 := of_not_decide_false hT7 | skip
                  refine Ls.pass (some 59) (by rfl) (by rfl) ?_
                  refine Ls.pass (some 60) (by rfl) (by rfl) ?_
                  refine Ls.pass (some 61) (by rfl) (by rfl) ?_
                  refine Ls.pass (some 62) (by rfl) (by rfl) ?_
                  refine Ls.pass (some 63) (by rfl) (by rfl) ?_
                  refine Ls.pass (some 64) (by rfl) (by rfl) ?_
                  refine Ls.pass (some 65) (by rfl) (by rfl) ?_
                  refine Ls.ev (some 66) (Ev.pickF (show Oper.op _ = Op.pick (Operand.tmp 58) (Operand.tmp 65) (Operand.const (Value.bool false)) from rfl) (by rfl) (by rfl)) (by rfl) (by rfl) ?_
                  refine Ls.ev (some 67) (Ev.move (show Oper.op _ = Op.move (Operand.tmp 66) from rfl) (by rfl)) (by rfl) (by rfl) ?_
                  refine Ls.pass (some 68) (by rfl) (by rfl) ?_
                  refine Ls.pass (some 69) (by rfl) (by rfl) ?_
                  refine Ls.pass (some 70) (by rfl) (by rfl) ?_
                  refine Ls.pass (some 71) (by rfl) (by rfl) ?_
                  refine Ls.pass (some 72) (by rfl) (by rfl) ?_
                  refine Ls.pass (some 73) (by rfl) (by rfl) ?_
                  refine Ls.pass (some 74) (by rfl) (by rfl) ?_
                  refine Ls.ev (some 75) (Ev.pickF (show Oper.op _ = Op.pick (Operand.tmp 67) (Operand.tmp 74) (Operand.const (Value.bool false)) from rfl) (by rfl) (by rfl)) (by rfl) (by rfl) ?_
                  refine Ls.ev (some 4) (Ev.assign (show Oper.op _ = Op.assign (Operand.tmp 75) from rfl) (by rfl)) (by rfl) (by rfl) ?_
                  refine Ls.nil ?_
                  refine Ent.pick [] (by rfl) ?_
                  refine Ent.inv () ?_ ?_ ?_
                  · exact trivial
                  · (repeat (first | exact trivial | refine ⟨by rfl, ?_⟩ | refine ⟨by simp only [List.length_append, List.length_cons, List.length_nil]; rfl, ?_⟩ | refine ⟨by push_cast; rfl, ?_⟩ | refine ⟨by (show some (Value.bool _) = some (Value.bool _); congr 2; (first | (refine (decide_eq_false ?_).symm; simp_all; done) | (refine decide_eq_decide.2 ?_; simp_all; done))), ?_⟩))
                  · rfl
                · first | have hT7 := of_decide_eq_true hT7 | have hT7 := of_not_decide_true hT7 | skip
                  refine Ls.ev (some 59) (Ev.fieldAddr (k := 4) (show Oper.op _ = Op.fieldAddr 40 (Operand.tmp 2) 4 from rfl) (by rfl) (by kernel_rfl) (by rfl)) (by rfl) (by rfl) ?_
                  refine Ls.ev (some 60) (Ev.fieldAddr (k := 7) (show Oper.op _ = Op.fieldAddr 33 (Operand.tmp 59) 4 from rfl) (by rfl) (by kernel_rfl) (by rfl)) (by rfl) (by rfl) ?_
                  refine Ls.ev (some 61) (Ev.load 1 (show Oper.op _ = Op.load 27 (Operand.tmp 60) from rfl) (by rfl) (by rfl) (by kernel_rfl) (by rfl)) (by rfl) (by rfl) ?_
                  refine Ls.ev (some 62) (Ev.fieldAddr (k := 4) (show Oper.op _ = Op.fieldAddr 40 (Operand.tmp 3) 4 from rfl) (by rfl) (by kernel_rfl) (by rfl)) (by rfl) (by rfl) ?_
                  refine Ls.ev (some 63) (Ev.fieldAddr (k := 7) (show Oper.op _ = Op.fieldAddr 33 (Operand.tmp 62) 4 from rfl) (by rfl) (by kernel_rfl) (by rfl)) (by rfl) (by rfl) ?_
                  refine Ls.ev (some 64) (Ev.load 0 (show Oper.op _ = Op.load 27 (Operand.tmp 63) from rfl) (by rfl) (by rfl) (by kernel_rfl) (by rfl)) (by rfl) (by rfl) ?_
                  refine Ls.does (some 65) (Does.read (show Oper.op _ = Op.call { callee := Callee.value (Operand.func 21), args := #[Operand.tmp 61, Operand.tmp 64], argTypes := #[27, 27] } from rfl) Tryd.func21 (by kernel_rfl) (by kernel_rfl) (hk) (by rfl) (by rfl) ⟨ReadsIn.rd 3 (by rfl), ReadsIn.rd 5 (by rfl), trivial⟩) (by rfl) (by rfl) ?_
                  rintro _ -
                  refine Ls.ev (some 66) (Ev.pickT (show Oper.op _ = Op.pick (Operand.tmp 58) (Operand.tmp 65) (Operand.const (Value.bool false)) from rfl) (by rfl) (by rfl)) (by rfl) (by rfl) ?_
                  refine Ls.ev (some 67) (Ev.move (show Oper.op _ = Op.move (Operand.tmp 66) from rfl) (by rfl)) (by rfl) (by rfl) ?_
                  refine Ent.split 67 (by rfl) (fun hT8 => ?_) (fun hT8 => ?_)
                  · first | have hT8 := of_decide_eq_false hT8 | have hT8 := of_not_decide_false hT8 | skip
                    refine Ls.pass (some 68) (by rfl) (by rfl) ?_
                    refine Ls.pass (some 69) (by rfl) (by rfl) ?_
                    refine Ls.pass (some 70) (by rfl) (by rfl) ?_
                    refine Ls.pass (some 71) (by rfl) (by rfl) ?_
                    refine Ls.pass (some 72) (by rfl) (by rfl) ?_
                    refine Ls.pass (some 73) (by rfl) (by rfl) ?_
                    refine Ls.pass (some 74) (by rfl) (by rfl) ?_
                    refine Ls.ev (some 75) (Ev.pickF (show Oper.op _ = Op.pick (Operand.tmp 67) (Operand.tmp 74) (Operand.const (Value.bool false)) from rfl) (by rfl) (by rfl)) (by rfl) (by rfl) ?_
                    refine Ls.ev (some 4) (Ev.assign (show Oper.op _ = Op.assign (Operand.tmp 75) from rfl) (by rfl)) (by rfl) (by rfl) ?_
                    refine Ls.nil ?_
                    refine Ent.pick [] (by rfl) ?_
                    refine Ent.inv () ?_ ?_ ?_
                    · exact trivial
                    · (repeat (first | exact trivial | refine ⟨by rfl, ?_⟩ | refine ⟨by simp only [List.length_append, List.length_cons, List.length_nil]; rfl, ?_⟩ | refine ⟨by push_cast; rfl, ?_⟩ | refine ⟨by (show some (Value.bool _) = some (Value.bool _); congr 2; (first | (refine (decide_eq_false ?_).symm; simp_all; done) | (refine decide_eq_decide.2 ?_; simp_all; done))), ?_⟩))
                    · rfl
                  · first | have hT8 := of_decide_eq_true hT8 | have hT8 := of_not_decide_true hT8 | skip
                    refine Ls.ev (some 68) (Ev.fieldAddr (k := 4) (show Oper.op _ = Op.fieldAddr 40 (Operand.tmp 2) 4 from rfl) (by rfl) (by kernel_rfl) (by rfl)) (by rfl) (by rfl) ?_
                    refine Ls.ev (some 69) (Ev.fieldAddr (k := 3) (show Oper.op _ = Op.fieldAddr 33 (Operand.tmp 68) 3 from rfl) (by rfl) (by kernel_rfl) (by rfl)) (by rfl) (by rfl) ?_
                    refine Ls.ev (some 70) (Ev.loads 1 (show Oper.op _ = Op.load 31 (Operand.tmp 69) from rfl) (by rfl) (by rfl) (n := 4) (by kernel_rfl) (by rfl) (by rfl)) (by rfl) (by rfl) ?_
                    refine Ls.ev (some 71) (Ev.fieldAddr (k := 4) (show Oper.op _ = Op.fieldAddr 40 (Operand.tmp 3) 4 from rfl) (by rfl) (by kernel_rfl) (by rfl)) (by rfl) (by rfl) ?_
                    refine Ls.ev (some 72) (Ev.fieldAddr (k := 3) (show Oper.op _ = Op.fieldAddr 33 (Operand.tmp 71) 3 from rfl) (by rfl) (by kernel_rfl) (by rfl)) (by rfl) (by rfl) ?_
                    refine Ls.ev (some 73) (Ev.loads 0 (show Oper.op _ = Op.load 31 (Operand.tmp 72) from rfl) (by rfl) (by rfl) (n := 4) (by kernel_rfl) (by rfl) (by rfl)) (by rfl) (by rfl) ?_
                    refine Ls.does (some 74) (Does.read (show Oper.op _ = Op.call { callee := Callee.value (Operand.func 22), args := #[Operand.tmp 70, Operand.tmp 73], argTypes := #[31, 31] } from rfl) Tryd.func22 (by kernel_rfl) (by kernel_rfl) (hc) (by rfl) (by rfl) ⟨ReadsIn.rd 2 (by rfl), ReadsIn.rd 4 (by rfl), trivial⟩) (by rfl) (by rfl) ?_
                    rintro _ -
                    refine Ls.ev (some 75) (Ev.pickT (show Oper.op _ = Op.pick (Operand.tmp 67) (Operand.tmp 74) (Operand.const (Value.bool false)) from rfl) (by rfl) (by rfl)) (by rfl) (by rfl) ?_
                    refine Ls.ev (some 4) (Ev.assign (show Oper.op _ = Op.assign (Operand.tmp 75) from rfl) (by rfl)) (by rfl) (by rfl) ?_
                    refine Ls.nil ?_
                    refine Ent.pick [] (by rfl) ?_
                    refine Ent.inv () ?_ ?_ ?_
                    · exact trivial
                    · (repeat (first | exact trivial | refine ⟨by rfl, ?_⟩ | refine ⟨by simp only [List.length_append, List.length_cons, List.length_nil]; rfl, ?_⟩ | refine ⟨by push_cast; rfl, ?_⟩ | refine ⟨by (show some (Value.bool _) = some (Value.bool _); congr 2; (first | (refine (decide_eq_false ?_).symm; simp_all; done) | (refine decide_eq_decide.2 ?_; simp_all; done))), ?_⟩))
                    · rfl
  skip
  rintro _ -
  skip
  refine Cd.ret ?_
  refine Ent.ret (()) (trivial) (Res.tmp (by rfl) (by rfl)) ?_ [] (by rfl) ?_
  · rfl
  · rfl
theorem line_lens {t : List UInt8} {z : StS} (h : z.p = (lineP t).1) : z.keeps.length ≤ 1024 ∧ z.cells.length ≤ 1024 := by
  have := line_lists t
  rw [← h] at this
  have h2 : z.cells.length + z.keeps.length ≤ 1024 := this
  omega
set_option maxRecDepth 20000 in
theorem lines_sl (t : List UInt8) (ht : t.length ≤ 4611686018427387904) : Fn Tryd.prog 3 #[.string (txt t)] [laidC] Unit (fun _ => .bool true) (fun _ => []) (fun _ => True) := by
  refine Fn.enter Tryd.func3 rfl Tryd.ntmps3 (by rfl) ?_
  intro w0
  refine Cd.seq ?_
  refine Cd.region ?_
  refine Ls.ev (some 2) (Ev.assign (show Oper.op _ = Op.assign (Operand.const (Value.bool false)) from rfl) (by rfl)) (by rfl) (by rfl) ?_
  refine Ls.nil ?_
  refine Cd.seq ?_
  refine Cd.seq ?_
  refine Cd.region ?_
  refine Ls.does (some 7) (Does.read (show Oper.op _ = Op.call { callee := Callee.value (Operand.func 6), args := #[], argTypes := #[] } from rfl) Tryd.func6 (by kernel_rfl) (by kernel_rfl) (awake_sl) (by rfl) (by rfl) ⟨anyIn 0 (by rfl), trivial⟩) (by rfl) (by rfl) ?_
  rintro _ -
  refine Ls.ev (some 8) (Ev.not (show Oper.op _ = Op.unOp UnOp.not 4 (Operand.tmp 7) from rfl) (by rfl)) (by rfl) (by rfl) ?_
  refine Ls.nil ?_
  refine Cd.cond_false (by rfl) (rfl) ?_
  refine Cd.skip ?_
  refine Cd.seq ?_
  refine Cd.region ?_
  refine Ls.ev (some 9) (Ev.move (show Oper.op _ = Op.move (Operand.tmp 0) from rfl) (by rfl)) (by rfl) (by rfl) ?_
  refine Ls.does (some 10) (Does.read (show Oper.op _ = Op.call { callee := Callee.value (Operand.func 7), args := #[Operand.tmp 9], argTypes := #[9] } from rfl) Tryd.func7 (by kernel_rfl) (by kernel_rfl) (cut_sl t ht) (by rfl) (by rfl) trivial) (by rfl) (by rfl) ?_
  rintro _ -
  generalize hT : t.take 3000 = T
  have hTl : T.length ≤ 3000 := by rw [← hT, List.length_take]; omega
  refine Ls.ev (some 0) (Ev.assign (show Oper.op _ = Op.assign (Operand.tmp 10) from rfl) (by rfl)) (by rfl) (by rfl) ?_
  refine Ls.nil ?_
  refine Cd.seq ?_
  refine Cd.region ?_
  refine Ls.ev (some 12) (Ev.move (show Oper.op _ = Op.move (Operand.tmp 0) from rfl) (by rfl)) (by rfl) (by rfl) ?_
  refine Ls.does (some 13) (Does.call [0] (show Oper.op _ = Op.call { callee := Callee.value (Operand.func 8), args := #[Operand.tmp 12], argTypes := #[9] } from rfl) Tryd.func8 (by kernel_rfl) (by kernel_rfl) (line_sl T (by omega)) (by rfl) (by rfl) (by rfl)) (by rfl) (by rfl) ?_
  rintro z hz
  refine Ent.see 0 (by rfl) ?_
  refine Ent.see 1 (by rfl) ?_
  refine Ls.ev (some 11) (Ev.move (show Oper.op _ = Op.move (Operand.tmp 13) from rfl) (by rfl)) (by rfl) (by rfl) ?_
  refine Ls.ev (some 14) (Ev.extract (show Oper.op _ = Op.extract (Operand.tmp 11) 0 from rfl) (by rfl) (by rfl)) (by rfl) (by rfl) ?_
  refine Ls.ev (some 15) (Ev.extract (show Oper.op _ = Op.extract (Operand.tmp 11) 1 from rfl) (by rfl) (by rfl)) (by rfl) (by rfl) ?_
  refine Ls.does (some 3) (Does.alloc (cs := [.int .i64 0, .int .i64 0, .int .i64 0, .int .i64 0, .int .i64 0, .int .i64 0, .int .i64 0, .int .i64 0, .int .i64 0, .int .i64 0, .slice none 0 0, .slice none 0 0]) (show Oper.op _ = Op.alloc 35 from rfl) (ZeroIs.mk (.agg #[.int .i64 0, .int .i64 0, .int .i64 0, .int .i64 0, .int .i64 0, .int .i64 0, .int .i64 0, .int .i64 0, .int .i64 0, .int .i64 0, .slice none 0 0, .slice none 0 0]) (by kernel_rfl) (by rfl))) (by rfl) (by rfl) ?_
  intro g1 _
  refine Ls.does none (Does.store 0 (show Oper.op _ = Op.store 35 (Operand.tmp 3) (Operand.tmp 14) from rfl) (by rfl) (by rfl) (by rfl) (by kernel_rfl) (by rfl) (by kernel_rfl) (by rfl)) (by rfl) (by rfl) ?_
  intro _ _
  refine Ls.ev (some 4) (Ev.assign (show Oper.op _ = Op.assign (Operand.tmp 15) from rfl) (by rfl)) (by rfl) (by rfl) ?_
  refine Ls.nil ?_
  refine Cd.seq ?_
  refine Cd.region ?_
  refine Ls.ev (some 17) (Ev.move (show Oper.op _ = Op.move (Operand.tmp 0) from rfl) (by rfl)) (by rfl) (by rfl) ?_
  refine Ls.does (some 18) (Does.call [0, 1, 2] (show Oper.op _ = Op.call { callee := Callee.value (Operand.func 9), args := #[Operand.tmp 17], argTypes := #[9] } from rfl) Tryd.func9 (by kernel_rfl) (by kernel_rfl) (dline_sl T (by omega)) (by rfl) (by rfl) (by rfl)) (by rfl) (by rfl) ?_
  rintro y hy
  refine Ent.see 0 (by rfl) ?_
  refine Ent.see 1 (by rfl) ?_
  have hl := line_lens hz
  have hds := dsame_sl z y (by omega) (by omega)
  rw [decide_eq_true (hz.trans hy.symm)] at hds
  refine Ls.ev (some 16) (Ev.move (show Oper.op _ = Op.move (Operand.tmp 18) from rfl) (by rfl)) (by rfl) (by rfl) ?_
  refine Ls.ev (some 19) (Ev.extract (show Oper.op _ = Op.extract (Operand.tmp 16) 0 from rfl) (by rfl) (by rfl)) (by rfl) (by rfl) ?_
  refine Ls.ev (some 20) (Ev.extract (show Oper.op _ = Op.extract (Operand.tmp 16) 1 from rfl) (by rfl) (by rfl)) (by rfl) (by rfl) ?_
  refine Ls.does (some 5) (Does.alloc (cs := [.int .i64 0, .int .i64 0, .int .i64 0, .int .i64 0, .int .i64 0, .int .i64 0, .int .i64 0, .int .i64 0, .int .i64 0, .int .i64 0, .slice none 0 0, .slice none 0 0]) (show Oper.op _ = Op.alloc 40 from rfl) (ZeroIs.mk (.agg #[.int .i64 0, .int .i64 0, .int .i64 0, .int .i64 0, .int .i64 0, .int .i64 0, .int .i64 0, .int .i64 0, .int .i64 0, .int .i64 0, .slice none 0 0, .slice none 0 0]) (by kernel_rfl) (by rfl))) (by rfl) (by rfl) ?_
  intro g2 _
  refine Ls.does none (Does.store 0 (show Oper.op _ = Op.store 40 (Operand.tmp 5) (Operand.tmp 19) from rfl) (by rfl) (by rfl) (by rfl) (by kernel_rfl) (by rfl) (by kernel_rfl) (by rfl)) (by rfl) (by rfl) ?_
  intro _ _
  refine Ls.ev (some 6) (Ev.assign (show Oper.op _ = Op.assign (Operand.tmp 20) from rfl) (by rfl)) (by rfl) (by rfl) ?_
  refine Ls.nil ?_
  refine Cd.seq ?_
  refine Cd.draw [] (by kernel_rfl) ?_
  refine Rg.ev 0 (by rfl) (fun _ h => h) (Ev.move (show Oper.op _ = Op.move (Operand.tmp 4) from rfl) (by rfl)) (by rfl) (some 21) (by rfl) (by kernel_rfl) (by kernel_rfl) (by kernel_rfl) (by kernel_rfl) ?_
  refine Rg.ev 1 (by rfl) (fun _ h => h) (Ev.move (show Oper.op _ = Op.move (Operand.tmp 6) from rfl) (by rfl)) (by rfl) (some 22) (by rfl) (by kernel_rfl) (by kernel_rfl) (by kernel_rfl) (by kernel_rfl) ?_
  refine Rg.ev 2 (by rfl) (fun _ h => h) (Ev.eql (show Oper.op _ = Op.binOp BinOp.eql 3 (Operand.tmp 21) (Operand.tmp 22) 3 from rfl) (by rfl) (by rfl)) (by rfl) (some 23) (by rfl) (by kernel_rfl) (by kernel_rfl) (by kernel_rfl) (by kernel_rfl) ?_
  refine Rg.ev 3 (by rfl) (fun _ h => h) (Ev.move (show Oper.op _ = Op.move (Operand.tmp 23) from rfl) (by rfl)) (by rfl) (some 24) (by rfl) (by kernel_rfl) (by kernel_rfl) (by kernel_rfl) (by kernel_rfl) ?_
  refine Ent.known 24 true (by rfl) (by exact (decide_eq_true rfl)) ?_
  refine Rg.ev 4 (by rfl) (fun _ h => h) (Ev.loads 3 (show Oper.op _ = Op.load 35 (Operand.tmp 3) from rfl) (by rfl) (by rfl) (n := 12) (by kernel_rfl) (by rfl) (by rfl)) (by rfl) (some 25) (by rfl) (by kernel_rfl) (by kernel_rfl) (by kernel_rfl) (by kernel_rfl) ?_
  refine Rg.ev 6 (by rfl) (fun _ h => h) (Ev.loads 0 (show Oper.op _ = Op.load 40 (Operand.tmp 5) from rfl) (by rfl) (by rfl) (n := 12) (by kernel_rfl) (by rfl) (by rfl)) (by rfl) (some 27) (by rfl) (by kernel_rfl) (by kernel_rfl) (by kernel_rfl) (by kernel_rfl) ?_
  skip
  refine Rg.does 5 (by rfl) (by kernel_rfl) (Does.read (show Oper.op _ = Op.call { callee := Callee.value (Operand.func 11), args := #[Operand.tmp 25], argTypes := #[35] } from rfl) Tryd.func11 (by kernel_rfl) (by kernel_rfl) (ref_sl z) (by rfl) (by rfl) trivial) (by rfl) (some 26) (by rfl) (by exact fun _ _ h => h) ?_
  rintro _ -
  skip
  refine Rg.does 7 (by rfl) (by kernel_rfl) (Does.read (show Oper.op _ = Op.call { callee := Callee.value (Operand.func 10), args := #[Operand.tmp 26, Operand.tmp 27], argTypes := #[40, 40] } from rfl) Tryd.func10 (by kernel_rfl) (by kernel_rfl) (hds) (by rfl) (by rfl) ⟨ReadsIn.rd 4 (by rfl), ReadsIn.rd 5 (by rfl), ReadsIn.rd 1 (by rfl), ReadsIn.rd 2 (by rfl), trivial⟩) (by rfl) (some 28) (by rfl) (by exact fun _ _ h => h) ?_
  rintro _ -
  refine Rg.ev 8 (by rfl) (fun _ h => h) (Ev.pickT (show Oper.op _ = Op.pick (Operand.tmp 24) (Operand.tmp 28) (Operand.const (Value.bool false)) from rfl) (by rfl) (by rfl)) (by rfl) (some 29) (by rfl) (by kernel_rfl) (by kernel_rfl) (by kernel_rfl) (by kernel_rfl) ?_
  refine Rg.ev 9 (by rfl) (fun _ h => h) (Ev.assign (show Oper.op _ = Op.assign (Operand.tmp 29) from rfl) (by rfl)) (by rfl) (some 2) (by rfl) (by kernel_rfl) (by kernel_rfl) (by kernel_rfl) (by kernel_rfl) ?_
  refine Rg.done (by kernel_rfl) ?_ _
  refine Cd.ret ?_
  refine Ent.ret (()) (trivial) (Res.tmp (by rfl) (by rfl)) ?_ [] (by rfl) ?_
  · rfl
  · rfl
end Go.Proofs.YtemcigoelcblbaaDoor
/- the document over pieces: a step written -/
namespace Go.Proofs.YtemcigoelcblbaaDoor
open Go.RowKit
def goodB (z : StP) (c : CmdP) : Prop := keyB c z ∧ (lineP (textP c z)).2 = 0 ∧ (lineP (textP c z)).1 = z
instance (z : StP) (c : CmdP) : Decidable (goodB z c) := by unfold goodB; infer_instance
theorem printF_find (z : StP) : ∀ l : List CmdP, printF l z = (match l.find? fun c => decide (goodB z c) with
  | some c => textP c z
  | none => [])
  | [] => rfl
  | c :: l => by
    unfold printF
    rw [List.find?_cons]
    by_cases h : goodB z c
    · rw [decide_eq_true h]
      exact if_pos h
    · rw [decide_eq_false h]
      exact (if_neg h).trans (printF_find z l)
theorem find_some_iff {α : Type} {p : α → Bool} {l : List α} (hu : ∀ c ∈ l, ∀ d ∈ l, p c = true → p d = true → c = d) (c : α) : l.find? p = some c ↔ c ∈ l ∧ p c = true := by
  constructor
  · intro h
    exact ⟨List.mem_of_find?_eq_some h, List.find?_some h⟩
  · rintro ⟨h1, h2⟩
    cases h : l.find? p with
    | none => exact absurd h2 (by simpa using List.find?_eq_none.1 h c h1)
    | some d => rw [hu d (List.mem_of_find?_eq_some h) c h1 (List.find?_some h) h2]
theorem key_uniq : ∀ c ∈ cmdsP, ∀ d ∈ cmdsP, c.kind = d.kind ∧ c.ik = d.ik ∧ c.verb = d.verb → c = d := by decide +kernel
theorem printF_D (z : StP) : printF cmdsD z = printF cmdsP z := by
  rw [printF_find, printF_find]
  have hu : ∀ c ∈ cmdsP, ∀ d ∈ cmdsP, decide (goodB z c) = true → decide (goodB z d) = true → c = d := fun c hc d hd h1 h2 => by
    obtain ⟨⟨a1, a2, a3⟩, _⟩ := of_decide_eq_true h1
    obtain ⟨⟨b1, b2, b3⟩, _⟩ := of_decide_eq_true h2
    exact key_uniq c hc d hd ⟨a1.trans b1.symm, a2.trans b2.symm, a3.trans b3.symm⟩
  have : (cmdsD.find? fun c => decide (goodB z c)) = cmdsP.find? fun c => decide (goodB z c) := by
    apply Option.ext
    intro c
    rw [find_some_iff (fun c hc d hd => hu c (mem_D.1 hc) d (mem_D.1 hd)), find_some_iff hu, mem_D]
  rw [this]
theorem printP_long {z : StP} (h : 1024 < z.keeps.length + z.cells.length) : printP z = [] := by
  unfold printP
  rw [printF_find]
  cases hf : cmdsP.find? fun c => decide (goodB z c) with
  | none => rfl
  | some c =>
    have h1 := of_decide_eq_true (p := goodB z c) (by simpa using List.find?_some hf)
    have h2 := line_lists (textP c z)
    rw [h1.2.2] at h2
    change z.cells.length + z.keeps.length ≤ 1024 at h2
    omega
theorem printD_step {k : Nat} {c : CmdP} (h : cmdsD[k]? = some c) (z : StP) : printF (cmdsD.drop k) z = if keyB c z ∧ (lineP (textP c z)).2 = 0 ∧ (lineP (textP c z)).1 = z then textP c z else printF (cmdsD.drop (k + 1)) z := by
  obtain ⟨hk, rfl⟩ := List.getElem?_eq_some_iff.1 h
  rw [List.drop_eq_getElem_cons hk]
  rfl
theorem join_snocC (s : UInt8) (l : List (List UInt8)) (x : List UInt8) (h : l ≠ []) : Lib.join (l ++ [x]) [s] = (Lib.join l [s] ++ [s]) ++ x := by
  induction l with
  | nil => exact absurd rfl h
  | cons y r ih =>
    cases r with
    | nil => simp [Lib.join, List.intercalate, List.intersperse]
    | cons u v =>
      have := ih (by simp)
      simp [Lib.join, List.intercalate, List.intersperse] at this ⊢
      exact this
theorem text_part {z : StS} (hz : z.Ok) {c : CmdP} (hc : c ∈ cmdsP) (k : Nat) : (Lib.join (c.name :: (c.ws.take k).map (writeW z.p)) [32]).length ≤ 140737488355328 := by
  have h1 := join_len 32 (c.name :: (c.ws.take k).map (writeW z.p)) 23068673 (fun x hx => by
    rcases List.mem_cons.1 hx with rfl | hx
    · have := names_len c hc
      omega
    · obtain ⟨κ, _, rfl⟩ := List.mem_map.1 hx
      exact writeW_len hz κ)
  have h2 := (cmds_ok c hc).2
  rw [List.length_cons, List.length_map, List.length_take] at h1
  omega
theorem text_first (c : CmdP) (z : StP) : c.name = Lib.join (c.name :: (c.ws.take 0).map (writeW z)) [32] := by simp [Lib.join, List.intercalate, List.intersperse]
theorem text_next {z : StP} {c : CmdP} {k : Nat} {κ : Wk} (h : c.ws[k]? = some κ) : (Lib.join (c.name :: (c.ws.take k).map (writeW z)) [32] ++ [32]) ++ writeW z κ = Lib.join (c.name :: (c.ws.take (k + 1)).map (writeW z)) [32] := by
  rw [List.take_add_one, h, List.map_append, ← List.cons_append]
  exact (join_snocC 32 _ _ (by simp)).symm
set_option maxRecDepth 20000 in
set_option maxHeartbeats 4000000 in
theorem dprint_sl (z : StS) (hz : z.Ok) : Fn Tryd.prog 14 #[.agg z.enc.toArray] [z.rC, z.rK] Unit (fun _ => .string (txt (printP z.p))) (fun _ => []) (fun _ => True) := by
  have hkl := hz.len .k
  have hcl := hz.len .r
  change z.keeps.length ≤ _ at hkl
  change z.cells.length ≤ _ at hcl
  refine Fn.enter Tryd.func14 rfl Tryd.ntmps14 (by rfl) ?_
  intro w0
  refine Cd.seq ?_
  refine Cd.region ?_
  refine Ls.does (some 1) (Does.box (show Oper.op _ = Op.box 40 (Operand.tmp 0) from rfl) (by rfl)) (by rfl) (by rfl) ?_
  intro g1 _
  refine Ls.ev (some 2) (Ev.assign (show Oper.op _ = Op.assign (Operand.const (Value.string { data := #[] })) from rfl) (by rfl)) (by rfl) (by rfl) ?_
  refine Ls.nil ?_
  refine Cd.seq ?_
  refine Cd.seq ?_
  refine Cd.region ?_
  refine Ls.ev (some 11) (Ev.fieldAddr (k := 4) (show Oper.op _ = Op.fieldAddr 40 (Operand.tmp 1) 4 from rfl) (by rfl) (by kernel_rfl) (by rfl)) (by rfl) (by rfl) ?_
  refine Ls.ev (some 12) (Ev.fieldAddr (k := 7) (show Oper.op _ = Op.fieldAddr 33 (Operand.tmp 11) 4 from rfl) (by rfl) (by kernel_rfl) (by rfl)) (by rfl) (by rfl) ?_
  refine Ls.ev (some 13) (Ev.load 0 (show Oper.op _ = Op.load 27 (Operand.tmp 12) from rfl) (by rfl) (by rfl) (by kernel_rfl) (by rfl)) (by rfl) (by rfl) ?_
  refine Ls.ev (some 14) (Ev.len (show Oper.op _ = Op.call { callee := Callee.builtin Builtin.len, args := #[Operand.tmp 13], argTypes := #[27] } from rfl) (by rfl) Tryd.underlying27) (by rfl) (by rfl) ?_
  refine Ls.ev (some 15) (Ev.fieldAddr (k := 4) (show Oper.op _ = Op.fieldAddr 40 (Operand.tmp 1) 4 from rfl) (by rfl) (by kernel_rfl) (by rfl)) (by rfl) (by rfl) ?_
  refine Ls.ev (some 16) (Ev.fieldAddr (k := 3) (show Oper.op _ = Op.fieldAddr 33 (Operand.tmp 15) 3 from rfl) (by rfl) (by kernel_rfl) (by rfl)) (by rfl) (by rfl) ?_
  refine Ls.ev (some 17) (Ev.fieldAddr (k := 2) (show Oper.op _ = Op.fieldAddr 31 (Operand.tmp 16) 2 from rfl) (by rfl) (by kernel_rfl) (by rfl)) (by rfl) (by rfl) ?_
  refine Ls.ev (some 18) (Ev.fieldAddr (k := 1) (show Oper.op _ = Op.fieldAddr 29 (Operand.tmp 17) 1 from rfl) (by rfl) (by kernel_rfl) (by rfl)) (by rfl) (by rfl) ?_
  refine Ls.ev (some 19) (Ev.load 0 (show Oper.op _ = Op.load 27 (Operand.tmp 18) from rfl) (by rfl) (by rfl) (by kernel_rfl) (by rfl)) (by rfl) (by rfl) ?_
  refine Ls.ev (some 20) (Ev.len (show Oper.op _ = Op.call { callee := Callee.builtin Builtin.len, args := #[Operand.tmp 19], argTypes := #[27] } from rfl) (by rfl) Tryd.underlying27) (by rfl) (by rfl) ?_
  refine Ls.ev (some 21) (Ev.addI (show Oper.op _ = Op.binOp BinOp.add 3 (Operand.tmp 14) (Operand.tmp 20) 3 from rfl) (by rfl) (by rfl) (by omega)) (by rfl) (by rfl) ?_
  refine Ls.ev (some 22) (Ev.gtr (show Oper.op _ = Op.binOp BinOp.gtr 3 (Operand.tmp 21) (Operand.const (Value.int IntKind.i64 1024)) 3 from rfl) (by rfl) (by rfl)) (by rfl) (by rfl) ?_
  refine Ls.nil ?_
  refine Cd.cond _ (by rfl) (fun h0 => ?_) (fun h0 => ?_)
  · skip
    have h0 := of_decide_eq_true h0
    rw [printP_long (z := z.p) (by show 1024 < z.keeps.length + z.cells.length; omega)]
    refine Cd.seq ?_
    refine Cd.region ?_
    refine Ls.ev (some 2) (Ev.assign (show Oper.op _ = Op.assign (Operand.const (Value.string { data := #[] })) from rfl) (by rfl)) (by rfl) (by rfl) ?_
    refine Ls.nil ?_
    refine Cd.ret ?_
    refine Ent.ret (()) (trivial) (Res.tmp (by rfl) (by rfl)) ?_ [] (by rfl) ?_
    · rfl
    · rfl
  skip
  have h0 := of_decide_eq_false h0
  have hpp : printP z.p = printF (cmdsD.drop 0) z.p := (printF_D z.p).symm
  rw [hpp]
  refine Cd.skip ?_
  refine Cd.seq ?_
  refine Cd.seq ?_
  refine Cd.region ?_
  refine Ls.ev (some 3) (Ev.assign (show Oper.op _ = Op.assign (Operand.const (Value.int IntKind.i64 0)) from rfl) (by rfl)) (by rfl) (by rfl) ?_
  refine Ls.nil ?_
  refine Cd.block ?_
  refine Cd.loop (ι := Nat) (fun k => [(1, .pointer (some ⟨g1, 0, none⟩)), (3, .int .i64 k)]) (fun _ => [blk g1 40 z.enc, z.rC, z.rK]) (fun k => k ≤ 23 ∧ printF (cmdsD.drop 0) z.p = printF (cmdsD.drop k) z.p) (fun k => 23 - k) (0) (⟨Nat.zero_le _, rfl⟩) ?_ rfl ?_
  · (repeat (first | exact trivial | refine ⟨by rfl, ?_⟩))
  rintro i ⟨hi, hst⟩
  rw [hst]
  refine Cd.seq ?_
  refine Cd.seq ?_
  refine Cd.region ?_
  refine Ls.ev (some 23) (Ev.move (show Oper.op _ = Op.move (Operand.tmp 3) from rfl) (by rfl)) (by rfl) (by rfl) ?_
  refine Ls.ev (some 24) (Ev.lss (show Oper.op _ = Op.binOp BinOp.lss 3 (Operand.tmp 23) (Operand.const (Value.int IntKind.i64 23)) 3 from rfl) (by rfl) (by rfl)) (by rfl) (by rfl) ?_
  refine Ls.nil ?_
  refine Cd.cond _ (by rfl) (fun h1 => ?_) (fun h1 => ?_)
  · skip
    have hlt : i < 23 := by have := of_decide_eq_true h1; omega
    obtain ⟨c, hc⟩ := get_of_lt (show i < cmdsD.length from hlt)
    have hcm := mem_D.1 (List.mem_of_getElem? hc)
    have hw4 := cmdsD_ok c (List.mem_of_getElem? hc)
    have hstep := printD_step hc z.p
    have hcut := text_len hz hcm
    refine Cd.skip ?_
    refine Cd.seq ?_
    refine Cd.block ?_
    refine Cd.seq ?_
    refine Cd.region ?_
    refine Ls.ev (some 28) (Ev.move (show Oper.op _ = Op.move (Operand.tmp 3) from rfl) (by rfl)) (by rfl) (by rfl) ?_
    refine Ls.does (some 29) (Does.read (show Oper.op _ = Op.call { callee := Callee.value (Operand.func 19), args := #[Operand.tmp 28], argTypes := #[3] } from rfl) Tryd.func19 (by kernel_rfl) (by kernel_rfl) (dcommand_sl i c hc) (by rfl) (by rfl) trivial) (by rfl) (by rfl) ?_
    rintro _ -
    have hs1 : c.stepS.kind = c.kind := rfl
    have hs2 : c.stepS.ik = c.ik := rfl
    have hs3 : c.stepS.verb = c.verb := rfl
    refine Ls.ev (some 27) (Ev.move (show Oper.op _ = Op.move (Operand.tmp 29) from rfl) (by rfl)) (by rfl) (by rfl) ?_
    refine Ls.ev (some 30) (Ev.extract (show Oper.op _ = Op.extract (Operand.tmp 27) 0 from rfl) (by rfl) (by rfl)) (by rfl) (by rfl) ?_
    refine Ls.ev (some 31) (Ev.extract (show Oper.op _ = Op.extract (Operand.tmp 27) 1 from rfl) (by rfl) (by rfl)) (by rfl) (by rfl) ?_
    refine Ls.ev (some 32) (Ev.extract (show Oper.op _ = Op.extract (Operand.tmp 27) 2 from rfl) (by rfl) (by rfl)) (by rfl) (by rfl) ?_
    refine Ls.does (some 5) (Does.alloc (cs := [.int .i64 0, .int .i64 0, .int .i64 0, .int .i64 0, .int .i64 0, .int .i64 0, .int .i64 0, .int .i64 0, .int .i64 0, .int .i64 0, .slice none 0 0, .slice none 0 0]) (show Oper.op _ = Op.alloc 40 from rfl) (ZeroIs.mk (.agg #[.int .i64 0, .int .i64 0, .int .i64 0, .int .i64 0, .int .i64 0, .int .i64 0, .int .i64 0, .int .i64 0, .int .i64 0, .int .i64 0, .slice none 0 0, .slice none 0 0]) (by kernel_rfl) (by rfl))) (by rfl) (by rfl) ?_
    intro g2 _
    refine Ls.ev (some 4) (Ev.assign (show Oper.op _ = Op.assign (Operand.tmp 30) from rfl) (by rfl)) (by rfl) (by rfl) ?_
    refine Ls.does none (Does.store 0 (show Oper.op _ = Op.store 40 (Operand.tmp 5) (Operand.tmp 31) from rfl) (by rfl) (by rfl) (by rfl) (by kernel_rfl) (by rfl) (by kernel_rfl) (by rfl)) (by rfl) (by rfl) ?_
    intro _ _
    refine Ls.ev (some 6) (Ev.assign (show Oper.op _ = Op.assign (Operand.tmp 32) from rfl) (by rfl)) (by rfl) (by rfl) ?_
    refine Ls.nil ?_
    refine Cd.seq ?_
    refine Cd.seq ?_
    refine Ent.norm ([(1, .pointer (some ⟨g1, 0, none⟩)), (3, .int .i64 i), (4, .string (txt c.name)), (5, .pointer (some ⟨g2, 0, none⟩)), (6, .string (txt (c.ws.map Wk.byte)))]) ([blk g2 40 c.stepS.enc, blk g1 40 z.enc, z.rC, z.rK]) (by repeat (first | exact trivial | refine ⟨by rfl, ?_⟩ | refine ⟨by simp only [List.length_append, List.length_cons, List.length_nil]; rfl, ?_⟩ | refine ⟨by push_cast; rfl, ?_⟩)) (by rfl) ?_
    refine Cd.cut (ι := Unit) (fun _ => [(1, .pointer (some ⟨g1, 0, none⟩)), (3, .int .i64 i), (4, .string (txt c.name)), (6, .string (txt (c.ws.map Wk.byte))), (57, .bool (decide (¬ (c.kind = z.kind ∧ c.ik = z.ik ∧ c.verb = z.verb))))]) (fun _ => [blk g2 40 c.stepS.enc, blk g1 40 z.enc, z.rC, z.rK]) (fun _ => True) ?_ ?_
    · skip
      refine Cd.region ?_
      refine Ls.ev (some 33) (Ev.fieldAddr (k := 0) (show Oper.op _ = Op.fieldAddr 40 (Operand.tmp 5) 0 from rfl) (by rfl) (by kernel_rfl) (by rfl)) (by rfl) (by rfl) ?_
      refine Ls.ev (some 34) (Ev.load 0 (show Oper.op _ = Op.load 3 (Operand.tmp 33) from rfl) (by rfl) (by rfl) (by kernel_rfl) (by rfl)) (by rfl) (by rfl) ?_
      refine Ls.ev (some 35) (Ev.fieldAddr (k := 0) (show Oper.op _ = Op.fieldAddr 40 (Operand.tmp 1) 0 from rfl) (by rfl) (by kernel_rfl) (by rfl)) (by rfl) (by rfl) ?_
      refine Ls.ev (some 36) (Ev.load 1 (show Oper.op _ = Op.load 3 (Operand.tmp 35) from rfl) (by rfl) (by rfl) (by kernel_rfl) (by rfl)) (by rfl) (by rfl) ?_
      refine Ls.ev (some 37) (Ev.neq (show Oper.op _ = Op.binOp BinOp.neq 3 (Operand.tmp 34) (Operand.tmp 36) 3 from rfl) (by rfl) (by rfl)) (by rfl) (by rfl) ?_
      refine Ls.ev (some 38) (Ev.move (show Oper.op _ = Op.move (Operand.tmp 37) from rfl) (by rfl)) (by rfl) (by rfl) ?_
      refine Ent.split 38 (by rfl) (fun hT1 => ?_) (fun hT1 => ?_)
      · first | have hT1 := of_decide_eq_false hT1 | have hT1 := of_not_decide_false hT1 | skip
        refine Ls.ev (some 39) (Ev.fieldAddr (k := 4) (show Oper.op _ = Op.fieldAddr 40 (Operand.tmp 5) 4 from rfl) (by rfl) (by kernel_rfl) (by rfl)) (by rfl) (by rfl) ?_
        refine Ls.ev (some 40) (Ev.fieldAddr (k := 0) (show Oper.op _ = Op.fieldAddr 33 (Operand.tmp 39) 0 from rfl) (by rfl) (by kernel_rfl) (by rfl)) (by rfl) (by rfl) ?_
        refine Ls.ev (some 41) (Ev.load 0 (show Oper.op _ = Op.load 25 (Operand.tmp 40) from rfl) (by rfl) (by rfl) (by kernel_rfl) (by rfl)) (by rfl) (by rfl) ?_
        refine Ls.ev (some 42) (Ev.fieldAddr (k := 4) (show Oper.op _ = Op.fieldAddr 40 (Operand.tmp 1) 4 from rfl) (by rfl) (by kernel_rfl) (by rfl)) (by rfl) (by rfl) ?_
        refine Ls.ev (some 43) (Ev.fieldAddr (k := 0) (show Oper.op _ = Op.fieldAddr 33 (Operand.tmp 42) 0 from rfl) (by rfl) (by kernel_rfl) (by rfl)) (by rfl) (by rfl) ?_
        refine Ls.ev (some 44) (Ev.load 1 (show Oper.op _ = Op.load 25 (Operand.tmp 43) from rfl) (by rfl) (by rfl) (by kernel_rfl) (by rfl)) (by rfl) (by rfl) ?_
        refine Ls.ev (some 45) (Ev.neq (show Oper.op _ = Op.binOp BinOp.neq 25 (Operand.tmp 41) (Operand.tmp 44) 25 from rfl) (by rfl) (by rfl)) (by rfl) (by rfl) ?_
        refine Ls.ev (some 46) (Ev.pickF (show Oper.op _ = Op.pick (Operand.tmp 38) (Operand.const (Value.bool true)) (Operand.tmp 45) from rfl) (by rfl) (by rfl)) (by rfl) (by rfl) ?_
        refine Ls.ev (some 47) (Ev.move (show Oper.op _ = Op.move (Operand.tmp 46) from rfl) (by rfl)) (by rfl) (by rfl) ?_
        refine Ent.split 47 (by rfl) (fun hT2 => ?_) (fun hT2 => ?_)
        · first | have hT2 := of_decide_eq_false hT2 | have hT2 := of_not_decide_false hT2 | skip
          refine Ls.ev (some 48) (Ev.fieldAddr (k := 4) (show Oper.op _ = Op.fieldAddr 40 (Operand.tmp 5) 4 from rfl) (by rfl) (by kernel_rfl) (by rfl)) (by rfl) (by rfl) ?_
          refine Ls.ev (some 49) (Ev.fieldAddr (k := 3) (show Oper.op _ = Op.fieldAddr 33 (Operand.tmp 48) 3 from rfl) (by rfl) (by kernel_rfl) (by rfl)) (by rfl) (by rfl) ?_
          refine Ls.ev (some 50) (Ev.fieldAddr (k := 0) (show Oper.op _ = Op.fieldAddr 31 (Operand.tmp 49) 0 from rfl) (by rfl) (by kernel_rfl) (by rfl)) (by rfl) (by rfl) ?_
          refine Ls.ev (some 51) (Ev.load 0 (show Oper.op _ = Op.load 26 (Operand.tmp 50) from rfl) (by rfl) (by rfl) (by kernel_rfl) (by rfl)) (by rfl) (by rfl) ?_
          refine Ls.ev (some 52) (Ev.fieldAddr (k := 4) (show Oper.op _ = Op.fieldAddr 40 (Operand.tmp 1) 4 from rfl) (by rfl) (by kernel_rfl) (by rfl)) (by rfl) (by rfl) ?_
          refine Ls.ev (some 53) (Ev.fieldAddr (k := 3) (show Oper.op _ = Op.fieldAddr 33 (Operand.tmp 52) 3 from rfl) (by rfl) (by kernel_rfl) (by rfl)) (by rfl) (by rfl) ?_
          refine Ls.ev (some 54) (Ev.fieldAddr (k := 0) (show Oper.op _ = Op.fieldAddr 31 (Operand.tmp 53) 0 from rfl) (by rfl) (by kernel_rfl) (by rfl)) (by rfl) (by rfl) ?_
          refine Ls.ev (some 55) (Ev.load 1 (show Oper.op _ = Op.load 26 (Operand.tmp 54) from rfl) (by rfl) (by rfl) (by kernel_rfl) (by rfl)) (by rfl) (by rfl) ?_
          refine Ls.ev (some 56) (Ev.neq (show Oper.op _ = Op.binOp BinOp.neq 26 (Operand.tmp 51) (Operand.tmp 55) 26 from rfl) (by rfl) (by rfl)) (by rfl) (by rfl) ?_
          refine Ls.ev (some 57) (Ev.pickF (show Oper.op _ = Op.pick (Operand.tmp 47) (Operand.const (Value.bool true)) (Operand.tmp 56) from rfl) (by rfl) (by rfl)) (by rfl) (by rfl) ?_
          refine Ls.nil ?_
          refine Ent.inv () ?_ ?_ ?_
          · exact trivial
          · (repeat (first | exact trivial | refine ⟨by rfl, ?_⟩ | refine ⟨by simp only [List.length_append, List.length_cons, List.length_nil]; rfl, ?_⟩ | refine ⟨by push_cast; rfl, ?_⟩ | refine ⟨by (show some (Value.bool _) = some (Value.bool _); congr 2; (first | (refine (decide_eq_true ?_).symm; simp_all; done) | (refine decide_eq_decide.2 ?_; simp_all; done))), ?_⟩))
          · rfl
        · first | have hT2 := of_decide_eq_true hT2 | have hT2 := of_not_decide_true hT2 | skip
          refine Ls.pass (some 48) (by rfl) (by rfl) ?_
          refine Ls.pass (some 49) (by rfl) (by rfl) ?_
          refine Ls.pass (some 50) (by rfl) (by rfl) ?_
          refine Ls.pass (some 51) (by rfl) (by rfl) ?_
          refine Ls.pass (some 52) (by rfl) (by rfl) ?_
          refine Ls.pass (some 53) (by rfl) (by rfl) ?_
          refine Ls.pass (some 54) (by rfl) (by rfl) ?_
          refine Ls.pass (some 55) (by rfl) (by rfl) ?_
          refine Ls.pass (some 56) (by rfl) (by rfl) ?_
          refine Ls.ev (some 57) (Ev.pickT (show Oper.op _ = Op.pick (Operand.tmp 47) (Operand.const (Value.bool true)) (Operand.tmp 56) from rfl) (by rfl) (by rfl)) (by rfl) (by rfl) ?_
          refine Ls.nil ?_
          refine Ent.inv () ?_ ?_ ?_
          · exact trivial
          · (repeat (first | exact trivial | refine ⟨by rfl, ?_⟩ | refine ⟨by simp only [List.length_append, List.length_cons, List.length_nil]; rfl, ?_⟩ | refine ⟨by push_cast; rfl, ?_⟩ | refine ⟨by (show some (Value.bool _) = some (Value.bool _); congr 2; (first | (refine (decide_eq_true ?_).symm; simp_all; done) | (refine decide_eq_decide.2 ?_; simp_all; done))), ?_⟩))
          · rfl
      · first | have hT1 := of_decide_eq_true hT1 | have hT1 := of_not_decide_true hT1 | skip
        refine Ls.pass (some 39) (by rfl) (by rfl) ?_
        refine Ls.pass (some 40) (by rfl) (by rfl) ?_
        refine Ls.pass (some 41) (by rfl) (by rfl) ?_
        refine Ls.pass (some 42) (by rfl) (by rfl) ?_
        refine Ls.pass (some 43) (by rfl) (by rfl) ?_
        refine Ls.pass (some 44) (by rfl) (by rfl) ?_
        refine Ls.pass (some 45) (by rfl) (by rfl) ?_
        refine Ls.ev (some 46) (Ev.pickT (show Oper.op _ = Op.pick (Operand.tmp 38) (Operand.const (Value.bool true)) (Operand.tmp 45) from rfl) (by rfl) (by rfl)) (by rfl) (by rfl) ?_
        refine Ls.ev (some 47) (Ev.move (show Oper.op _ = Op.move (Operand.tmp 46) from rfl) (by rfl)) (by rfl) (by rfl) ?_
        refine Ls.pass (some 48) (by rfl) (by rfl) ?_
        refine Ls.pass (some 49) (by rfl) (by rfl) ?_
        refine Ls.pass (some 50) (by rfl) (by rfl) ?_
        refine Ls.pass (some 51) (by rfl) (by rfl) ?_
        refine Ls.pass (some 52) (by rfl) (by rfl) ?_
        refine Ls.pass (some 53) (by rfl) (by rfl) ?_
        refine Ls.pass (some 54) (by rfl) (by rfl) ?_
        refine Ls.pass (some 55) (by rfl) (by rfl) ?_
        refine Ls.pass (some 56) (by rfl) (by rfl) ?_
        refine Ls.ev (some 57) (Ev.pickT (show Oper.op _ = Op.pick (Operand.tmp 47) (Operand.const (Value.bool true)) (Operand.tmp 56) from rfl) (by rfl) (by rfl)) (by rfl) (by rfl) ?_
        refine Ls.nil ?_
        refine Ent.inv () ?_ ?_ ?_
        · exact trivial
        · (repeat (first | exact trivial | refine ⟨by rfl, ?_⟩ | refine ⟨by simp only [List.length_append, List.length_cons, List.length_nil]; rfl, ?_⟩ | refine ⟨by push_cast; rfl, ?_⟩ | refine ⟨by (show some (Value.bool _) = some (Value.bool _); congr 2; (first | (refine (decide_eq_true ?_).symm; simp_all; done) | (refine decide_eq_decide.2 ?_; simp_all; done))), ?_⟩))
        · rfl
    skip
    rintro _ -
    refine Ent.pick [1, 2, 3] (by rfl) ?_
    refine Cd.cond _ (by rfl) (fun h2 => ?_) (fun h2 => ?_)
    · skip
      have h2 : ¬ keyB c z.p := of_decide_eq_true h2
      rw [if_neg (fun h => h2 h.1)] at hstep
      refine Cd.exit ?_
      refine Cd.region ?_
      refine Ls.ev (some 25) (Ev.move (show Oper.op _ = Op.move (Operand.tmp 3) from rfl) (by rfl)) (by rfl) (by rfl) ?_
      refine Ls.ev (some 26) (Ev.addI (show Oper.op _ = Op.binOp BinOp.add 3 (Operand.tmp 25) (Operand.const (Value.int IntKind.i64 1)) 3 from rfl) (by rfl) (by rfl) (by omega)) (by rfl) (by rfl) ?_
      refine Ls.ev (some 3) (Ev.assign (show Oper.op _ = Op.assign (Operand.tmp 26) from rfl) (by rfl)) (by rfl) (by rfl) ?_
      refine Ls.nil ?_
      refine Ent.inv (i + 1) ?_ ?_ ?_
      · (try dsimp only); exact ⟨⟨hlt, hstep⟩, by omega⟩
      · (repeat (first | exact trivial | refine ⟨by rfl, ?_⟩ | refine ⟨by simp only [List.length_append, List.length_cons, List.length_nil]; rfl, ?_⟩ | refine ⟨by push_cast; rfl, ?_⟩))
      · rfl
    skip
    have h2 : keyB c z.p := Decidable.not_not.1 (of_decide_eq_false h2)
    have hbs : (txt (c.ws.map Wk.byte)).size = c.ws.length := by rw [txt_size, List.length_map]
    refine Cd.skip ?_
    refine Cd.seq ?_
    refine Cd.region ?_
    refine Ls.ev (some 58) (Ev.move (show Oper.op _ = Op.move (Operand.tmp 4) from rfl) (by rfl)) (by rfl) (by rfl) ?_
    refine Ls.ev (some 7) (Ev.assign (show Oper.op _ = Op.assign (Operand.tmp 58) from rfl) (by rfl)) (by rfl) (by rfl) ?_
    refine Ls.nil ?_
    refine Cd.seq ?_
    refine Cd.seq ?_
    refine Cd.region ?_
    refine Ls.ev (some 8) (Ev.assign (show Oper.op _ = Op.assign (Operand.const (Value.int IntKind.i64 0)) from rfl) (by rfl)) (by rfl) (by rfl) ?_
    refine Ls.nil ?_
    refine Cd.block ?_
    refine Cd.loop (ι := Nat) (fun k => [(1, .pointer (some ⟨g1, 0, none⟩)), (3, .int .i64 i), (6, .string (txt (c.ws.map Wk.byte))), (7, .string (txt (Lib.join (c.name :: (c.ws.take k).map (writeW z.p)) [32]))), (8, .int .i64 k)]) (fun _ => [blk g1 40 z.enc, z.rC, z.rK]) (fun k => k ≤ c.ws.length) (fun k => c.ws.length - k) (0) (Nat.zero_le _) ?_ rfl ?_
    · (repeat (first | exact trivial | refine ⟨by rfl, ?_⟩ | refine ⟨by exact congrArg (fun l => some (Value.string (txt l))) (text_first c z.p), ?_⟩))
    rintro k hk
    refine Cd.seq ?_
    refine Cd.seq ?_
    refine Cd.region ?_
    refine Ls.ev (some 59) (Ev.move (show Oper.op _ = Op.move (Operand.tmp 8) from rfl) (by rfl)) (by rfl) (by rfl) ?_
    refine Ls.ev (some 60) (Ev.move (show Oper.op _ = Op.move (Operand.tmp 6) from rfl) (by rfl)) (by rfl) (by rfl) ?_
    refine Ls.ev (some 61) (Ev.lenS (show Oper.op _ = Op.call { callee := Callee.builtin Builtin.len, args := #[Operand.tmp 60], argTypes := #[9] } from rfl) (by rfl) Tryd.underlying9) (by rfl) (by rfl) ?_
    refine Ls.ev (some 62) (Ev.lss (show Oper.op _ = Op.binOp BinOp.lss 3 (Operand.tmp 59) (Operand.tmp 61) 3 from rfl) (by rfl) (by rfl)) (by rfl) (by rfl) ?_
    refine Ls.nil ?_
    refine Cd.cond _ (by rfl) (fun h3 => ?_) (fun h3 => ?_)
    · skip
      have hkl : k < c.ws.length := by have := of_decide_eq_true h3; omega
      obtain ⟨κ, hκ⟩ := get_of_lt hkl
      have hbk : (c.ws.map Wk.byte)[k]? = some κ.byte := by rw [List.getElem?_map, hκ]; rfl
      have hpl := text_part hz hcm k
      have hwl := writeW_len hz κ
      refine Cd.skip ?_
      refine Cd.seq ?_
      refine Cd.block ?_
      refine Cd.draw [] (by kernel_rfl) ?_
      refine Rg.ev 0 (by rfl) (fun _ h => h) (Ev.move (show Oper.op _ = Op.move (Operand.tmp 7) from rfl) (by rfl)) (by rfl) (some 65) (by rfl) (by kernel_rfl) (by kernel_rfl) (by kernel_rfl) (by kernel_rfl) ?_
      refine Rg.ev 1 (by rfl) (fun _ h => h) (Ev.to (Ev.addS (show Oper.op _ = Op.binOp BinOp.add 9 (Operand.tmp 65) (Operand.const (Value.string { data := #[32] })) 9 from rfl) (by rfl) (by rfl) (by rw [txt_size]; show _ + 1 ≤ _; omega)) (congrArg Value.string (txt_app _ [32]))) (by rfl) (some 66) (by rfl) (by kernel_rfl) (by kernel_rfl) (by kernel_rfl) (by kernel_rfl) ?_
      skip
      refine Rg.ev 2 (by rfl) (fun _ h => h) (Ev.loads 0 (show Oper.op _ = Op.load 40 (Operand.tmp 1) from rfl) (by rfl) (by rfl) (n := 12) (by kernel_rfl) (by rfl) (by rfl)) (by rfl) (some 67) (by rfl) (by kernel_rfl) (by kernel_rfl) (by kernel_rfl) (by kernel_rfl) ?_
      refine Rg.ev 3 (by rfl) (fun _ h => h) (Ev.move (show Oper.op _ = Op.move (Operand.tmp 6) from rfl) (by rfl)) (by rfl) (some 68) (by rfl) (by kernel_rfl) (by kernel_rfl) (by kernel_rfl) (by kernel_rfl) ?_
      refine Rg.ev 4 (by rfl) (fun _ h => h) (Ev.move (show Oper.op _ = Op.move (Operand.tmp 8) from rfl) (by rfl)) (by rfl) (some 69) (by rfl) (by kernel_rfl) (by kernel_rfl) (by kernel_rfl) (by kernel_rfl) ?_
      refine Rg.ev 5 (by rfl) (fun _ h => h) (Ev.indexT (show Oper.op _ = Op.index 9 (Operand.tmp 68) (Operand.tmp 69) from rfl) (by rfl) (by rfl) Tryd.underlying9 (by assumption)) (by rfl) (some 70) (by rfl) (by kernel_rfl) (by kernel_rfl) (by kernel_rfl) (by kernel_rfl) ?_
      refine Rg.does 6 (by rfl) (by kernel_rfl) (Does.read (show Oper.op _ = Op.call { callee := Callee.value (Operand.func 25), args := #[Operand.tmp 67, Operand.tmp 70], argTypes := #[40, 5] } from rfl) Tryd.func25 (by kernel_rfl) (by kernel_rfl) (dget_sl κ z hz) (by rfl) (by rfl) ⟨ReadsIn.rd 1 (by rfl), ReadsIn.rd 2 (by rfl), trivial⟩) (by rfl) (some 71) (by rfl) (by exact fun _ _ h => h) ?_
      rintro _ -
      skip
      refine Rg.ev 7 (by rfl) (fun _ h => h) (Ev.to (Ev.addS (show Oper.op _ = Op.binOp BinOp.add 9 (Operand.tmp 66) (Operand.tmp 71) 9 from rfl) (by rfl) (by rfl) (by rw [txt_size, txt_size, List.length_append]; show _ + 1 + _ ≤ _; omega)) (congrArg Value.string (txt_app _ _))) (by rfl) (some 72) (by rfl) (by kernel_rfl) (by kernel_rfl) (by kernel_rfl) (by kernel_rfl) ?_
      refine Rg.ev 8 (by rfl) (fun _ h => h) (Ev.assign (show Oper.op _ = Op.assign (Operand.tmp 72) from rfl) (by rfl)) (by rfl) (some 7) (by rfl) (by kernel_rfl) (by kernel_rfl) (by kernel_rfl) (by kernel_rfl) ?_
      refine Rg.done (by kernel_rfl) ?_ _
      refine Cd.region ?_
      refine Ls.ev (some 63) (Ev.move (show Oper.op _ = Op.move (Operand.tmp 8) from rfl) (by rfl)) (by rfl) (by rfl) ?_
      refine Ls.ev (some 64) (Ev.addN (b := 1) (show Oper.op _ = Op.binOp BinOp.add 3 (Operand.tmp 63) (Operand.const (Value.int IntKind.i64 1)) 3 from rfl) (by rfl) (by rfl) (by omega)) (by rfl) (by rfl) ?_
      refine Ls.ev (some 8) (Ev.assign (show Oper.op _ = Op.assign (Operand.tmp 64) from rfl) (by rfl)) (by rfl) (by rfl) ?_
      refine Ls.nil ?_
      refine Ent.inv (k + 1) ?_ ?_ ?_
      · (try dsimp only); exact ⟨hkl, by omega⟩
      · (repeat (first | exact trivial | refine ⟨by rfl, ?_⟩ | refine ⟨by simp only [List.length_append, List.length_cons, List.length_nil]; rfl, ?_⟩ | refine ⟨by push_cast; rfl, ?_⟩ | refine ⟨by exact congrArg (fun l => some (Value.string (txt l))) (text_next hκ), ?_⟩))
      · rfl
    skip
    have hkn : k = c.ws.length := by have := of_decide_eq_false h3; omega
    subst hkn
    rw [List.take_length]
    change Ent _ _ _ _ _
    generalize hT : textP c z.p = T at hstep hcut
    rw [show Lib.join (c.name :: c.ws.map (writeW z.p)) [32] = T from hT]
    refine Cd.exit ?_
    refine Cd.seq ?_
    refine Cd.region ?_
    refine Ls.ev (some 74) (Ev.move (show Oper.op _ = Op.move (Operand.tmp 7) from rfl) (by rfl)) (by rfl) (by rfl) ?_
    refine Ls.does (some 75) (Does.call [0, 1, 2] (show Oper.op _ = Op.call { callee := Callee.value (Operand.func 9), args := #[Operand.tmp 74], argTypes := #[9] } from rfl) Tryd.func9 (by kernel_rfl) (by kernel_rfl) (dline_sl T (by omega)) (by rfl) (by rfl) (by rfl)) (by rfl) (by rfl) ?_
    rintro z' hz'
    refine Ent.see 0 (by rfl) ?_
    refine Ent.see 1 (by rfl) ?_
    have hll := line_lists T
    rw [← hz'] at hll
    have hl1 : z'.cells.length + z'.keeps.length ≤ 1024 := hll
    refine Ls.ev (some 73) (Ev.move (show Oper.op _ = Op.move (Operand.tmp 75) from rfl) (by rfl)) (by rfl) (by rfl) ?_
    refine Ls.ev (some 76) (Ev.extract (show Oper.op _ = Op.extract (Operand.tmp 73) 0 from rfl) (by rfl) (by rfl)) (by rfl) (by rfl) ?_
    refine Ls.ev (some 77) (Ev.extract (show Oper.op _ = Op.extract (Operand.tmp 73) 1 from rfl) (by rfl) (by rfl)) (by rfl) (by rfl) ?_
    refine Ls.does (some 9) (Does.alloc (cs := [.int .i64 0, .int .i64 0, .int .i64 0, .int .i64 0, .int .i64 0, .int .i64 0, .int .i64 0, .int .i64 0, .int .i64 0, .int .i64 0, .slice none 0 0, .slice none 0 0]) (show Oper.op _ = Op.alloc 40 from rfl) (ZeroIs.mk (.agg #[.int .i64 0, .int .i64 0, .int .i64 0, .int .i64 0, .int .i64 0, .int .i64 0, .int .i64 0, .int .i64 0, .int .i64 0, .int .i64 0, .slice none 0 0, .slice none 0 0]) (by kernel_rfl) (by rfl))) (by rfl) (by rfl) ?_
    intro g3 _
    refine Ls.does none (Does.store 0 (show Oper.op _ = Op.store 40 (Operand.tmp 9) (Operand.tmp 76) from rfl) (by rfl) (by rfl) (by rfl) (by kernel_rfl) (by rfl) (by kernel_rfl) (by rfl)) (by rfl) (by rfl) ?_
    intro _ _
    refine Ls.ev (some 10) (Ev.assign (show Oper.op _ = Op.assign (Operand.tmp 77) from rfl) (by rfl)) (by rfl) (by rfl) ?_
    refine Ls.nil ?_
    refine Cd.seq ?_
    refine Ent.norm ([(1, .pointer (some ⟨g1, 0, none⟩)), (3, .int .i64 i), (7, .string (txt T)), (9, .pointer (some ⟨g3, 0, none⟩)), (10, .int .i64 (lineP T).2)]) ([blk g3 40 z'.enc, z'.rC, z'.rK, blk g1 40 z.enc, z.rC, z.rK]) (by repeat (first | exact trivial | refine ⟨by rfl, ?_⟩ | refine ⟨by simp only [List.length_append, List.length_cons, List.length_nil]; rfl, ?_⟩ | refine ⟨by push_cast; rfl, ?_⟩)) (by rfl) ?_
    refine Cd.cut (ι := Unit) (fun _ => [(1, .pointer (some ⟨g1, 0, none⟩)), (3, .int .i64 i), (7, .string (txt T)), (84, .bool (decide ((lineP T).2 = 0 ∧ z'.p = z.p)))]) (fun _ => [blk g3 40 z'.enc, z'.rC, z'.rK, blk g1 40 z.enc, z.rC, z.rK]) (fun _ => True) ?_ ?_
    · skip
      refine Cd.region ?_
      refine Ls.ev (some 78) (Ev.move (show Oper.op _ = Op.move (Operand.tmp 10) from rfl) (by rfl)) (by rfl) (by rfl) ?_
      refine Ls.ev (some 79) (Ev.eql (show Oper.op _ = Op.binOp BinOp.eql 3 (Operand.tmp 78) (Operand.const (Value.int IntKind.i64 0)) 3 from rfl) (by rfl) (by rfl)) (by rfl) (by rfl) ?_
      refine Ls.ev (some 80) (Ev.move (show Oper.op _ = Op.move (Operand.tmp 79) from rfl) (by rfl)) (by rfl) (by rfl) ?_
      refine Ent.split 80 (by rfl) (fun hT1 => ?_) (fun hT1 => ?_)
      · first | have hT1 := of_decide_eq_false hT1 | have hT1 := of_not_decide_false hT1 | skip
        refine Ls.pass (some 81) (by rfl) (by rfl) ?_
        refine Ls.pass (some 82) (by rfl) (by rfl) ?_
        refine Ls.pass (some 83) (by rfl) (by rfl) ?_
        refine Ls.ev (some 84) (Ev.pickF (show Oper.op _ = Op.pick (Operand.tmp 80) (Operand.tmp 83) (Operand.const (Value.bool false)) from rfl) (by rfl) (by rfl)) (by rfl) (by rfl) ?_
        refine Ls.nil ?_
        refine Ent.inv () ?_ ?_ ?_
        · exact trivial
        · (repeat (first | exact trivial | refine ⟨by rfl, ?_⟩ | refine ⟨by simp only [List.length_append, List.length_cons, List.length_nil]; rfl, ?_⟩ | refine ⟨by push_cast; rfl, ?_⟩ | refine ⟨by (show some (Value.bool _) = some (Value.bool _); congr 2; (first | (refine (decide_eq_false ?_).symm; simp_all; done) | (refine decide_eq_decide.2 ?_; simp_all; done))), ?_⟩))
        · rfl
      · first | have hT1 := of_decide_eq_true hT1 | have hT1 := of_not_decide_true hT1 | skip
        refine Ls.ev (some 81) (Ev.loads 0 (show Oper.op _ = Op.load 40 (Operand.tmp 9) from rfl) (by rfl) (by rfl) (n := 12) (by kernel_rfl) (by rfl) (by rfl)) (by rfl) (by rfl) ?_
        refine Ls.ev (some 82) (Ev.loads 3 (show Oper.op _ = Op.load 40 (Operand.tmp 1) from rfl) (by rfl) (by rfl) (n := 12) (by kernel_rfl) (by rfl) (by rfl)) (by rfl) (by rfl) ?_
        refine Ls.does (some 83) (Does.read (show Oper.op _ = Op.call { callee := Callee.value (Operand.func 10), args := #[Operand.tmp 81, Operand.tmp 82], argTypes := #[40, 40] } from rfl) Tryd.func10 (by kernel_rfl) (by kernel_rfl) (dsame_sl z' z (by omega) (by omega)) (by rfl) (by rfl) ⟨ReadsIn.rd 1 (by rfl), ReadsIn.rd 2 (by rfl), ReadsIn.rd 4 (by rfl), ReadsIn.rd 5 (by rfl), trivial⟩) (by rfl) (by rfl) ?_
        rintro _ -
        refine Ls.ev (some 84) (Ev.pickT (show Oper.op _ = Op.pick (Operand.tmp 80) (Operand.tmp 83) (Operand.const (Value.bool false)) from rfl) (by rfl) (by rfl)) (by rfl) (by rfl) ?_
        refine Ls.nil ?_
        refine Ent.inv () ?_ ?_ ?_
        · exact trivial
        · (repeat (first | exact trivial | refine ⟨by rfl, ?_⟩ | refine ⟨by simp only [List.length_append, List.length_cons, List.length_nil]; rfl, ?_⟩ | refine ⟨by push_cast; rfl, ?_⟩ | refine ⟨by (show some (Value.bool _) = some (Value.bool _); congr 2; (first | (refine (decide_eq_false ?_).symm; simp_all; done) | (refine decide_eq_decide.2 ?_; simp_all; done))), ?_⟩))
        · rfl
    skip
    rintro _ -
    rw [hz']
    refine Cd.cond _ (by rfl) (fun h4 => ?_) (fun h4 => ?_)
    · skip
      have h4 := of_decide_eq_true h4
      rw [if_pos ⟨h2, h4.1, h4.2⟩] at hstep
      rw [hstep]
      refine Cd.seq ?_
      refine Cd.region ?_
      refine Ls.ev (some 85) (Ev.move (show Oper.op _ = Op.move (Operand.tmp 7) from rfl) (by rfl)) (by rfl) (by rfl) ?_
      refine Ls.ev (some 2) (Ev.assign (show Oper.op _ = Op.assign (Operand.tmp 85) from rfl) (by rfl)) (by rfl) (by rfl) ?_
      refine Ls.nil ?_
      refine Cd.ret ?_
      refine Ent.ret (()) (trivial) (Res.tmp (by rfl) (by rfl)) ?_ [] (by rfl) ?_
      · rfl
      · rfl
    · skip
      have h4 := of_decide_eq_false h4
      rw [if_neg (fun h => h4 ⟨h.2.1, h.2.2⟩)] at hstep
      refine Cd.skip ?_
      refine Cd.region ?_
      refine Ls.ev (some 25) (Ev.move (show Oper.op _ = Op.move (Operand.tmp 3) from rfl) (by rfl)) (by rfl) (by rfl) ?_
      refine Ls.ev (some 26) (Ev.addN (b := 1) (show Oper.op _ = Op.binOp BinOp.add 3 (Operand.tmp 25) (Operand.const (Value.int IntKind.i64 1)) 3 from rfl) (by rfl) (by rfl) (by omega)) (by rfl) (by rfl) ?_
      refine Ls.ev (some 3) (Ev.assign (show Oper.op _ = Op.assign (Operand.tmp 26) from rfl) (by rfl)) (by rfl) (by rfl) ?_
      refine Ls.nil ?_
      refine Ent.pick [3, 4, 5] (by rfl) ?_
      refine Ent.inv (i + 1) ?_ ?_ ?_
      · (try dsimp only); exact ⟨⟨hlt, hstep⟩, by omega⟩
      · (repeat (first | exact trivial | refine ⟨by rfl, ?_⟩ | refine ⟨by simp only [List.length_append, List.length_cons, List.length_nil]; rfl, ?_⟩ | refine ⟨by push_cast; rfl, ?_⟩))
      · rfl
  · skip
    have hi23 : i = 23 := by have := of_decide_eq_false h1; omega
    subst hi23
    refine Cd.exit ?_
    refine Cd.seq ?_
    refine Cd.region ?_
    refine Ls.ev (some 2) (Ev.assign (show Oper.op _ = Op.assign (Operand.const (Value.string { data := #[] })) from rfl) (by rfl)) (by rfl) (by rfl) ?_
    refine Ls.nil ?_
    refine Cd.ret ?_
    refine Ent.ret (()) (trivial) (Res.tmp (by rfl) (by rfl)) ?_ [] (by rfl) ?_
    · rfl
    · rfl
end Go.Proofs.YtemcigoelcblbaaDoor
/-
  Arguments: lists of numbers and of texts, wherever they lie.
-/
namespace Go.Proofs.YtemcigoelcblbaaDoor
open Go.RowKit
section
variable {P : Program} {w : World}
theorem wf_bd {x : Int} (h : (Lit.int .i64 x).wf = true) : -9223372036854775808 ≤ x ∧ x ≤ 9223372036854775807 := by
  have h1 : IntKind.i64.min = -9223372036854775808 := by decide
  have h2 : IntKind.i64.max = 9223372036854775807 := by decide
  simpa only [Lit.wf, h1, h2, Bool.and_eq_true, decide_eq_true_eq] using h
theorem cel_slice1 {α : Type} [Inhabited α] {f : α → Value} {Q : α → Prop} {n : Nat} {t e : TypeId} {cs : List Value} (ht : P.underlying t = some (.slice e)) (hm : P.cellsOf e = 1) (hcel : ∀ (n : Nat) (cs : List Value), Cel P w n e cs → ∃ a, cs = [f a] ∧ Q a) (h : Cel P w n t cs) :
    ∃ A c l, cs = [.slice A (List.length l) c] ∧ Reads w w.heap.size 1 A l.length (l.map f) ∧ (∀ a ∈ l, Q a) ∧ l.length ≤ c ∧ c * P.bytesOf e ≤ reachBytes := by
  rcases cel_slice ht h with rfl | ⟨a, len, cap, rfl, hl, hmx, hb, hc⟩
  · exact ⟨none, 0, [], rfl, Reads.none_, by simp, Nat.le_refl _, by simp⟩
  · rw [hm] at hc
    have hrow : ∀ i, i < len → ∃ x : α, w.cell? (a.add i) = some (f x) ∧ Q x := by
      intro i hi
      obtain ⟨k, cs, h1, h2, h3⟩ := hc i (by omega)
      obtain ⟨x, rfl, hx⟩ := hcel k cs h3
      have := h2 0 (by omega)
      rw [add_of_add] at this
      exact ⟨x, by simpa using this, hx⟩
    obtain ⟨xs, hxl, hx⟩ := choose_rows hrow
    subst hxl
    refine ⟨some a, cap, xs, rfl, ⟨by simp, fun hn => ⟨a, rfl, ?_, fun j u hu => ?_⟩⟩, fun y hy => ?_, hl, hb⟩
    · obtain ⟨x, _, h1, _⟩ := hx 0 hn
      have := World.block_lt_of_cell? w _ h1
      rwa [block_of_add] at this
    · rw [List.getElem?_map] at hu
      obtain ⟨y, hy, rfl⟩ := Option.map_eq_some_iff.1 hu
      obtain ⟨x, h1, h2, _⟩ := hx j (List.getElem?_eq_some_iff.1 hy).1
      rw [hy] at h1
      injection h1 with h1
      rw [h1, h2]
    · obtain ⟨i, hi⟩ := List.mem_iff_getElem?.1 hy
      obtain ⟨x, h1, _, h2⟩ := hx i (List.getElem?_eq_some_iff.1 hi).1
      rw [hi] at h1
      injection h1 with h1
      rw [h1]
      exact h2
theorem cel_ints {n : Nat} {t e : TypeId} {cs : List Value} (ht : P.underlying t = some (.slice e)) (he : P.underlying e = some (.int .i64)) (hm : P.cellsOf e = 1) (hb : P.bytesOf e = 8) (h : Cel P w n t cs) :
    ∃ A c xs, cs = [.slice A (List.length xs) c] ∧ Reads w w.heap.size 1 A xs.length (ints xs) ∧ (∀ x ∈ xs, -9223372036854775808 ≤ x ∧ x ≤ 9223372036854775807) ∧ xs.length ≤ 17592186044415 := by
  obtain ⟨A, c, l, rfl, hr, hq, hc, hbb⟩ := cel_slice1 (f := Value.int .i64) (Q := fun x => -9223372036854775808 ≤ x ∧ x ≤ 9223372036854775807) ht hm (fun n cs h => by
    obtain ⟨m, rfl, hw⟩ := cel_int he h
    exact ⟨m, rfl, wf_bd hw⟩) h
  rw [hb] at hbb
  unfold reachBytes at hbb
  exact ⟨A, c, l, rfl, hr, hq, by omega⟩
theorem cel_strs {n : Nat} {t e : TypeId} {cs : List Value} (ht : P.underlying t = some (.slice e)) (he : P.underlying e = some .string) (hm : P.cellsOf e = 1) (hb : P.bytesOf e = 16) (h : Cel P w n t cs) :
    ∃ A c xs, cs = [.slice A (List.length xs) c] ∧ Reads w w.heap.size 1 A xs.length (strs xs) ∧ (∀ x ∈ xs, ByteArray.size x ≤ reachBytes) ∧ xs.length ≤ 8796093022207 := by
  obtain ⟨A, c, l, rfl, hr, hq, hc, hbb⟩ := cel_slice1 (f := Value.string) (Q := fun x => ByteArray.size x ≤ reachBytes) ht hm (fun n cs h => by
    obtain ⟨m, rfl, _, hw⟩ := cel_string he h
    exact ⟨m, rfl, hw⟩) h
  rw [hb] at hbb
  unfold reachBytes at hbb
  exact ⟨A, c, l, rfl, hr, hq, by omega⟩
theorem seg_ {cs v : List Value} {off s off' : Nat} (h : (cs.drop off).take s = v) (ho : off + s = off') : cs.drop off = v ++ cs.drop off' := by
  rw [← h, ← ho, ← List.drop_drop, List.take_append_drop]
/-- A slice of structs that is handed in, as a list. -/
theorem val_list {α : Type} [Inhabited α] {f : α → List Value} {Q : World → α → Prop} {t e : TypeId} {m : Nat} {v : Value} (ht : P.underlying t = some (.slice e)) (hm : P.cellsOf e = m) (hm0 : 0 < m) (hf : ∀ a, (f a).length = m)
    (hcel : ∀ (n : Nat) (cs : List Value), Cel P w n e cs → ∃ a, cs = f a ∧ Q w a) (h : Val P w t v) :
    ∃ A c l, v = .slice A (List.length l) c ∧ Reads w w.heap.size m A l.length (l.flatMap f) ∧ (∀ a ∈ l, Q w a) ∧ l.length ≤ c ∧ c * P.bytesOf e ≤ reachBytes := by
  obtain ⟨A, n, c, l, rfl, hr, hq, hnc, _, hb⟩ := val_flat ht hm hm0 hf hcel h
  have e1 : flat f l = l.flatMap f := by
    clear hr hq
    induction l with
    | nil => rfl
    | cons a l ih => simp [flat, List.flatMap_cons] at ih ⊢
  have hl : l.length = n := by
    have := hr.1
    rw [e1, flatMap_len hf] at this
    exact Nat.eq_of_mul_eq_mul_right hm0 this
  subst hl
  exact ⟨A, c, l, rfl, e1 ▸ hr, hq, hnc, hb⟩
theorem val_cel {t e : TypeId} {v : Value} (ht : P.underlying t = some (.slice e)) (h : Val P w t v) : ∃ n, Cel P w n t [v] := by
  simp only [Val, ht] at h
  exact h.2
theorem val_celS {t : TypeId} {fs : Array Field} {v : Value} (ht : P.underlying t = some (.struct fs)) (h : Val P w t v) : ∃ (cs : Array Value) (n : Nat), v = .agg cs ∧ Cel P w n t cs.toList := by
  simp only [Val, ht] at h
  exact h
theorem val_ints {t e : TypeId} {v : Value} (ht : P.underlying t = some (.slice e)) (he : P.underlying e = some (.int .i64)) (hm : P.cellsOf e = 1) (hb : P.bytesOf e = 8) (h : Val P w t v) :
    ∃ A c xs, v = .slice A (List.length xs) c ∧ Reads w w.heap.size 1 A xs.length (ints xs) ∧ (∀ x ∈ xs, -9223372036854775808 ≤ x ∧ x ≤ 9223372036854775807) ∧ xs.length ≤ 17592186044415 := by
  obtain ⟨n, h⟩ := val_cel ht h
  obtain ⟨A, c, xs, e1, h1⟩ := cel_ints ht he hm hb h
  exact ⟨A, c, xs, by simpa using e1, h1⟩
end
end Go.Proofs.YtemcigoelcblbaaDoor
/- a step that is handed in -/
namespace Go.Proofs.YtemcigoelcblbaaDoor
open Go.RowKit
structure Rt where
  start : Int
  cellsA : Option Addr
  cellsC : Nat
  cells : List Int
  deriving Inhabited
def Rt.enc (x : Rt) : List Value := [.int .i64 x.start, .slice x.cellsA x.cells.length x.cellsC]
theorem rt_len (x : Rt) : x.enc.length = 2 := rfl
def Rt.ok (W : World) (x : Rt) : Prop := (-9223372036854775808 ≤ x.start ∧ x.start ≤ 9223372036854775807) ∧ (Reads W W.heap.size 1 x.cellsA x.cells.length (ints x.cells) ∧ (∀ y ∈ x.cells, -9223372036854775808 ≤ y ∧ y ≤ 9223372036854775807) ∧ x.cells.length ≤ 17592186044415)
theorem cel_rt {w : World} (n : Nat) (cs : List Value) (h : Cel Tryd.prog w n 29 cs) : ∃ x : Rt, cs = x.enc ∧ x.ok w := by
  obtain ⟨hl, m, hf⟩ := cel_fields (k := 2) (rows := [(3, 0, 1), (27, 1, 1)]) Tryd.underlying29 (by kernel_rfl) (by kernel_rfl) h
  simp only [List.forall_mem_cons] at hf
  obtain ⟨h0, h1, _⟩ := hf
  obtain ⟨f0, e0, w0⟩ := cel_int Tryd.underlying3 h0
  obtain ⟨a1, c1, f1, e1, w1⟩ := cel_ints Tryd.underlying27 Tryd.underlying3 (by kernel_rfl) (by kernel_rfl) h1
  have t0 := seg_ (off' := 1) e0 rfl
  have t1 := seg_ (off' := 2) e1 rfl
  rw [List.drop_zero] at t0
  refine ⟨⟨f0, a1, c1, f1⟩, ?_, wf_bd w0, w1⟩
  rw [t0, t1, List.drop_of_length_le (by omega)]
  first | rfl | simp [Rt.enc]
structure Cl where
  verb : Int
  epoch : Int
  route : Rt
  deriving Inhabited
def Cl.enc (x : Cl) : List Value := [.int .i64 x.verb] ++ [.int .i64 x.epoch] ++ x.route.enc
theorem cl_len (x : Cl) : x.enc.length = 4 := rfl
def Cl.ok (W : World) (x : Cl) : Prop := (-9223372036854775808 ≤ x.verb ∧ x.verb ≤ 9223372036854775807) ∧ (-9223372036854775808 ≤ x.epoch ∧ x.epoch ≤ 9223372036854775807) ∧ x.route.ok W
theorem cel_cl {w : World} (n : Nat) (cs : List Value) (h : Cel Tryd.prog w n 31 cs) : ∃ x : Cl, cs = x.enc ∧ x.ok w := by
  obtain ⟨hl, m, hf⟩ := cel_fields (k := 4) (rows := [(26, 0, 1), (3, 1, 1), (29, 2, 2)]) Tryd.underlying31 (by kernel_rfl) (by kernel_rfl) h
  simp only [List.forall_mem_cons] at hf
  obtain ⟨h0, h1, h2, _⟩ := hf
  obtain ⟨f0, e0, w0⟩ := cel_int Tryd.underlying26 h0
  obtain ⟨f1, e1, w1⟩ := cel_int Tryd.underlying3 h1
  obtain ⟨f2, e2, w2⟩ := cel_rt _ _ h2
  have t0 := seg_ (off' := 1) e0 rfl
  have t1 := seg_ (off' := 2) e1 rfl
  have t2 := seg_ (off' := 4) e2 rfl
  rw [List.drop_zero] at t0
  refine ⟨⟨f0, f1, f2⟩, ?_, wf_bd w0, wf_bd w1, w2⟩
  rw [t0, t1, t2, List.drop_of_length_le (by omega)]
  first | rfl | simp [Cl.enc]
structure In where
  kind : Int
  a : Int
  b : Int
  call : Cl
  keepsA : Option Addr
  keepsC : Nat
  keeps : List Int
  deriving Inhabited
def In.enc (x : In) : List Value := [.int .i64 x.kind] ++ [.int .i64 x.a] ++ [.int .i64 x.b] ++ x.call.enc ++ [.slice x.keepsA x.keeps.length x.keepsC]
theorem in_len (x : In) : x.enc.length = 8 := rfl
def In.ok (W : World) (x : In) : Prop := (-9223372036854775808 ≤ x.kind ∧ x.kind ≤ 9223372036854775807) ∧ (-9223372036854775808 ≤ x.a ∧ x.a ≤ 9223372036854775807) ∧ (-9223372036854775808 ≤ x.b ∧ x.b ≤ 9223372036854775807) ∧ x.call.ok W ∧ (Reads W W.heap.size 1 x.keepsA x.keeps.length (ints x.keeps) ∧ (∀ y ∈ x.keeps, -9223372036854775808 ≤ y ∧ y ≤ 9223372036854775807) ∧ x.keeps.length ≤ 17592186044415)
theorem cel_in {w : World} (n : Nat) (cs : List Value) (h : Cel Tryd.prog w n 33 cs) : ∃ x : In, cs = x.enc ∧ x.ok w := by
  obtain ⟨hl, m, hf⟩ := cel_fields (k := 8) (rows := [(25, 0, 1), (3, 1, 1), (3, 2, 1), (31, 3, 4), (27, 7, 1)]) Tryd.underlying33 (by kernel_rfl) (by kernel_rfl) h
  simp only [List.forall_mem_cons] at hf
  obtain ⟨h0, h1, h2, h3, h4, _⟩ := hf
  obtain ⟨f0, e0, w0⟩ := cel_int Tryd.underlying25 h0
  obtain ⟨f1, e1, w1⟩ := cel_int Tryd.underlying3 h1
  obtain ⟨f2, e2, w2⟩ := cel_int Tryd.underlying3 h2
  obtain ⟨f3, e3, w3⟩ := cel_cl _ _ h3
  obtain ⟨a4, c4, f4, e4, w4⟩ := cel_ints Tryd.underlying27 Tryd.underlying3 (by kernel_rfl) (by kernel_rfl) h4
  have t0 := seg_ (off' := 1) e0 rfl
  have t1 := seg_ (off' := 2) e1 rfl
  have t2 := seg_ (off' := 3) e2 rfl
  have t3 := seg_ (off' := 7) e3 rfl
  have t4 := seg_ (off' := 8) e4 rfl
  rw [List.drop_zero] at t0
  refine ⟨⟨f0, f1, f2, f3, a4, c4, f4⟩, ?_, wf_bd w0, wf_bd w1, wf_bd w2, w3, w4⟩
  rw [t0, t1, t2, t3, t4, List.drop_of_length_le (by omega)]
  first | rfl | simp [In.enc]
structure Stp where
  kind : Int
  a : Int
  b : Int
  c : Int
  inn : In
  deriving Inhabited
def Stp.enc (x : Stp) : List Value := [.int .i64 x.kind] ++ [.int .i64 x.a] ++ [.int .i64 x.b] ++ [.int .i64 x.c] ++ x.inn.enc
theorem stp_len (x : Stp) : x.enc.length = 12 := rfl
def Stp.ok (W : World) (x : Stp) : Prop := (-9223372036854775808 ≤ x.kind ∧ x.kind ≤ 9223372036854775807) ∧ (-9223372036854775808 ≤ x.a ∧ x.a ≤ 9223372036854775807) ∧ (-9223372036854775808 ≤ x.b ∧ x.b ≤ 9223372036854775807) ∧ (-9223372036854775808 ≤ x.c ∧ x.c ≤ 9223372036854775807) ∧ x.inn.ok W
theorem cel_stp {w : World} (n : Nat) (cs : List Value) (h : Cel Tryd.prog w n 35 cs) : ∃ x : Stp, cs = x.enc ∧ x.ok w := by
  obtain ⟨hl, m, hf⟩ := cel_fields (k := 12) (rows := [(24, 0, 1), (3, 1, 1), (3, 2, 1), (3, 3, 1), (33, 4, 8)]) Tryd.underlying35 (by kernel_rfl) (by kernel_rfl) h
  simp only [List.forall_mem_cons] at hf
  obtain ⟨h0, h1, h2, h3, h4, _⟩ := hf
  obtain ⟨f0, e0, w0⟩ := cel_int Tryd.underlying24 h0
  obtain ⟨f1, e1, w1⟩ := cel_int Tryd.underlying3 h1
  obtain ⟨f2, e2, w2⟩ := cel_int Tryd.underlying3 h2
  obtain ⟨f3, e3, w3⟩ := cel_int Tryd.underlying3 h3
  obtain ⟨f4, e4, w4⟩ := cel_in _ _ h4
  have t0 := seg_ (off' := 1) e0 rfl
  have t1 := seg_ (off' := 2) e1 rfl
  have t2 := seg_ (off' := 3) e2 rfl
  have t3 := seg_ (off' := 4) e3 rfl
  have t4 := seg_ (off' := 12) e4 rfl
  rw [List.drop_zero] at t0
  refine ⟨⟨f0, f1, f2, f3, f4⟩, ?_, wf_bd w0, wf_bd w1, wf_bd w2, wf_bd w3, w4⟩
  rw [t0, t1, t2, t3, t4, List.drop_of_length_le (by omega)]
  first | rfl | simp [Stp.enc]
/-- What the step reads of the arguments. -/
structure StS.At (W : World) (z : StS) : Prop where
  rC : Reads W W.heap.size 1 z.C z.cells.length (ints z.cells)
  rK : Reads W W.heap.size 1 z.K z.keeps.length (ints z.keeps)
set_option maxRecDepth 20000 in
theorem step_arg {W : World} {v : Value} (h : Val Tryd.prog W 35 v) (hs : ∀ n, Sml Tryd.prog W 1048576 n 35 v.cells.toList) : ∃ z : StS, v = .agg z.enc.toArray ∧ z.Ok ∧ z.At W := by
  obtain ⟨cs, n, rfl, hc⟩ := val_celS Tryd.underlying35 h
  obtain ⟨⟨k, a, b, c, ⟨ik, x, y, ⟨vb, ep, ⟨st, C, cc, cl⟩⟩, K, kc, kl⟩⟩, e, ⟨_, ha, hb, hcc, _, hx, hy, ⟨_, hep, hst, hC, hCi, _⟩, hK, hKi, _⟩⟩ := cel_stp _ _ hc
  have h4 := (((((hs 5).field (off := 4) (m := 8) Tryd.underlying35 (u := 33) (by kernel_rfl) (by kernel_rfl))).field (off := 7) (m := 1) Tryd.underlying33 (u := 27) (by kernel_rfl) (by kernel_rfl)))
  have h5 := ((((((hs 5).field (off := 4) (m := 8) Tryd.underlying35 (u := 33) (by kernel_rfl) (by kernel_rfl))).field (off := 3) (m := 4) Tryd.underlying33 (u := 31) (by kernel_rfl) (by kernel_rfl))).field (off := 2) (m := 2) Tryd.underlying31 (u := 29) (by kernel_rfl) (by kernel_rfl)).field (off := 1) (m := 1) Tryd.underlying29 (u := 27) (by kernel_rfl) (by kernel_rfl)
  rw [show (Value.agg cs).cells.toList = cs.toList from rfl, e] at h4 h5
  have k4 := Sml.slice (A := K) (l := kl.length) (c := kc) h4 Tryd.underlying27
  have k5 := Sml.slice (A := C) (l := cl.length) (c := cc) h5 Tryd.underlying27
  have e1 : cs = (StS.enc ⟨k, a, b, c, ik, x, y, vb, ep, st, C, cc, cl, K, kc, kl⟩).toArray := Array.ext' e
  refine ⟨⟨k, a, b, c, ik, x, y, vb, ep, st, C, cc, cl, K, kc, kl⟩, by rw [e1], ⟨fun κ => ?_, fun κ => ?_, fun κ => ?_⟩, hC, hK⟩
  · cases κ
    · exact ha
    · exact hb
    · exact hcc
    · exact hx
    · exact hy
    · exact hep
    · exact hst
    · exact show in64 0 by decide
    · exact show in64 0 by decide
  · cases κ <;> first | exact Nat.zero_le _ | exact k5.1 | exact k4.1
  · cases κ <;> first | (intro n hn; cases hn; done) | exact hCi | exact hKi
end Go.Proofs.YtemcigoelcblbaaDoor
/- lists of its own -/
namespace Go.Proofs.YtemcigoelcblbaaDoor
open Go.RowKit
set_option maxRecDepth 20000 in
theorem own_sl (z : StS) (hz : z.Ok) : Fn Tryd.prog 13 #[.agg z.enc.toArray] [z.rC, z.rK] StS (fun y => .agg y.enc.toArray) (fun y => [y.wC, y.wK]) (fun y => y.p = z.p) := by
  have hkl := hz.len .k
  have hcl := hz.len .r
  change z.keeps.length ≤ _ at hkl
  change z.cells.length ≤ _ at hcl
  obtain ⟨z1, z2, z3, z4, z5, z6, z7, z8, z9, z10, zC, zcc, zcl, zK, zkc, zkl⟩ := z
  dsimp only [StS.enc, StS.p, StS.rC, StS.rK] at hkl hcl ⊢
  refine Fn.enter Tryd.func13 rfl Tryd.ntmps13 (by rfl) ?_
  intro w0
  refine Cd.seq ?_
  refine Cd.region ?_
  refine Ls.does (some 1) (Does.box (show Oper.op _ = Op.box 35 (Operand.tmp 0) from rfl) (by rfl)) (by rfl) (by rfl) ?_
  intro g1 _
  refine Ls.does (some 2) (Does.alloc (cs := [.int .i64 0, .int .i64 0, .int .i64 0, .int .i64 0, .int .i64 0, .int .i64 0, .int .i64 0, .int .i64 0, .int .i64 0, .int .i64 0, .slice none 0 0, .slice none 0 0]) (show Oper.op _ = Op.alloc 35 from rfl) (ZeroIs.mk (.agg #[.int .i64 0, .int .i64 0, .int .i64 0, .int .i64 0, .int .i64 0, .int .i64 0, .int .i64 0, .int .i64 0, .int .i64 0, .int .i64 0, .slice none 0 0, .slice none 0 0]) (by kernel_rfl) (by rfl))) (by rfl) (by rfl) ?_
  intro g2 _
  refine Ls.nil ?_
  refine Cd.seq ?_
  refine Cd.region ?_
  refine Ls.does (some 3) (Does.lit0 (sz := 1) (show Oper.op _ = Op.buildSlice 27 0 #[] from rfl) Tryd.underlying27 (by kernel_rfl)) (by rfl) (by rfl) ?_
  intro g3 _
  refine Ls.ev (some 4) (Ev.fieldAddr (k := 4) (show Oper.op _ = Op.fieldAddr 35 (Operand.tmp 1) 4 from rfl) (by rfl) (by kernel_rfl) (by rfl)) (by rfl) (by rfl) ?_
  refine Ls.ev (some 5) (Ev.fieldAddr (k := 7) (show Oper.op _ = Op.fieldAddr 33 (Operand.tmp 4) 4 from rfl) (by rfl) (by kernel_rfl) (by rfl)) (by rfl) (by rfl) ?_
  refine Ls.ev (some 6) (Ev.load 2 (show Oper.op _ = Op.load 27 (Operand.tmp 5) from rfl) (by rfl) (by rfl) (by kernel_rfl) (by rfl)) (by rfl) (by rfl) ?_
  refine Ls.does (some 7) (Does.app0 (news := ints zkl) 0 (show Oper.op _ = Op.call { callee := Callee.builtin Builtin.append, args := #[Operand.tmp 3, Operand.tmp 6], argTypes := #[27, 27] } from rfl) (by rfl) (by rfl) (by rfl) (ReadsIn.rd 4 (by rfl)) elem_int (one_ints _) (by omega)) (by rfl) (by rfl) ?_
  rintro ⟨K, kc⟩ -
  refine Ls.ev (some 8) (Ev.fieldAddr (k := 4) (show Oper.op _ = Op.fieldAddr 35 (Operand.tmp 1) 4 from rfl) (by rfl) (by kernel_rfl) (by rfl)) (by rfl) (by rfl) ?_
  refine Ls.ev (some 9) (Ev.fieldAddr (k := 7) (show Oper.op _ = Op.fieldAddr 33 (Operand.tmp 8) 4 from rfl) (by rfl) (by kernel_rfl) (by rfl)) (by rfl) (by rfl) ?_
  refine Ls.does none (Does.store 2 (show Oper.op _ = Op.store 27 (Operand.tmp 9) (Operand.tmp 7) from rfl) (by rfl) (by rfl) (by rfl) (by kernel_rfl) (by rfl) (by kernel_rfl) (by rfl)) (by rfl) (by rfl) ?_
  intro _ _
  refine Ls.nil ?_
  refine Cd.seq ?_
  refine Cd.region ?_
  refine Ls.does (some 10) (Does.lit0 (sz := 1) (show Oper.op _ = Op.buildSlice 27 0 #[] from rfl) Tryd.underlying27 (by kernel_rfl)) (by rfl) (by rfl) ?_
  intro g4 _
  refine Ls.ev (some 11) (Ev.fieldAddr (k := 4) (show Oper.op _ = Op.fieldAddr 35 (Operand.tmp 1) 4 from rfl) (by rfl) (by kernel_rfl) (by rfl)) (by rfl) (by rfl) ?_
  refine Ls.ev (some 12) (Ev.fieldAddr (k := 3) (show Oper.op _ = Op.fieldAddr 33 (Operand.tmp 11) 3 from rfl) (by rfl) (by kernel_rfl) (by rfl)) (by rfl) (by rfl) ?_
  refine Ls.ev (some 13) (Ev.fieldAddr (k := 2) (show Oper.op _ = Op.fieldAddr 31 (Operand.tmp 12) 2 from rfl) (by rfl) (by kernel_rfl) (by rfl)) (by rfl) (by rfl) ?_
  refine Ls.ev (some 14) (Ev.fieldAddr (k := 1) (show Oper.op _ = Op.fieldAddr 29 (Operand.tmp 13) 1 from rfl) (by rfl) (by kernel_rfl) (by rfl)) (by rfl) (by rfl) ?_
  refine Ls.ev (some 15) (Ev.load 3 (show Oper.op _ = Op.load 27 (Operand.tmp 14) from rfl) (by rfl) (by rfl) (by kernel_rfl) (by rfl)) (by rfl) (by rfl) ?_
  refine Ls.does (some 16) (Does.app0 (news := ints zcl) 0 (show Oper.op _ = Op.call { callee := Callee.builtin Builtin.append, args := #[Operand.tmp 10, Operand.tmp 15], argTypes := #[27, 27] } from rfl) (by rfl) (by rfl) (by rfl) (ReadsIn.rd 4 (by rfl)) elem_int (one_ints _) (by omega)) (by rfl) (by rfl) ?_
  rintro ⟨C, cc⟩ -
  refine Ls.ev (some 17) (Ev.fieldAddr (k := 4) (show Oper.op _ = Op.fieldAddr 35 (Operand.tmp 1) 4 from rfl) (by rfl) (by kernel_rfl) (by rfl)) (by rfl) (by rfl) ?_
  refine Ls.ev (some 18) (Ev.fieldAddr (k := 3) (show Oper.op _ = Op.fieldAddr 33 (Operand.tmp 17) 3 from rfl) (by rfl) (by kernel_rfl) (by rfl)) (by rfl) (by rfl) ?_
  refine Ls.ev (some 19) (Ev.fieldAddr (k := 2) (show Oper.op _ = Op.fieldAddr 31 (Operand.tmp 18) 2 from rfl) (by rfl) (by kernel_rfl) (by rfl)) (by rfl) (by rfl) ?_
  refine Ls.ev (some 20) (Ev.fieldAddr (k := 1) (show Oper.op _ = Op.fieldAddr 29 (Operand.tmp 19) 1 from rfl) (by rfl) (by kernel_rfl) (by rfl)) (by rfl) (by rfl) ?_
  refine Ls.does none (Does.store 3 (show Oper.op _ = Op.store 27 (Operand.tmp 20) (Operand.tmp 16) from rfl) (by rfl) (by rfl) (by rfl) (by kernel_rfl) (by rfl) (by kernel_rfl) (by rfl)) (by rfl) (by rfl) ?_
  intro _ _
  refine Ls.nil ?_
  refine Cd.seq ?_
  refine Cd.region ?_
  refine Ls.ev (some 21) (Ev.loads 3 (show Oper.op _ = Op.load 35 (Operand.tmp 1) from rfl) (by rfl) (by rfl) (n := 12) (by kernel_rfl) (by rfl) (by rfl)) (by rfl) (by rfl) ?_
  refine Ls.does none (Does.store 2 (show Oper.op _ = Op.store 35 (Operand.tmp 2) (Operand.tmp 21) from rfl) (by rfl) (by rfl) (by rfl) (by kernel_rfl) (by rfl) (by kernel_rfl) (by rfl)) (by rfl) (by rfl) ?_
  intro _ _
  refine Ls.nil ?_
  refine Cd.ret ?_
  refine Ent.ret (⟨z1, z2, z3, z4, z5, z6, z7, z8, z9, z10, C, cc, zcl, K, kc, zkl⟩) (rfl) (Res.cell 2 (by rfl) (by rfl) (by rfl) (n := 12) (by kernel_rfl) (by rfl) (by rfl)) ?_ [0, 1] (by rfl) ?_
  · rfl
  · rfl
end Go.Proofs.YtemcigoelcblbaaDoor
/- the walk of ScriptPrints -/
namespace Go.Proofs.YtemcigoelcblbaaDoor
open Go.RowKit
theorem StS.Ok.of_p {z y : StS} (h : y.p = z.p) (hz : z.Ok) : y.Ok := ⟨fun κ => by rw [h]; exact hz.num κ, fun κ => by rw [h]; exact hz.len κ, fun κ n hn => hz.lst κ n (by rw [← h]; exact hn)⟩
set_option maxRecDepth 20000 in
theorem prints_sl (W : World) (z : StS) (hz : z.Ok) (ha : z.At W) : Fn Tryd.prog 4 #[.agg z.enc.toArray] [argc W, laidC] Unit (fun _ => .bool true) (fun _ => []) (fun _ => True) := by
  refine Fn.enter Tryd.func4 rfl Tryd.ntmps4 (by rfl) ?_
  intro w0
  refine Ent.arg 0 (by rfl) ha.rC ?_
  refine Ent.arg 1 (by rfl) ha.rK ?_
  refine Cd.seq ?_
  refine Cd.region ?_
  refine Ls.does (some 1) (Does.box (show Oper.op _ = Op.box 35 (Operand.tmp 0) from rfl) (by rfl)) (by rfl) (by rfl) ?_
  intro g1 _
  refine Ls.ev (some 2) (Ev.assign (show Oper.op _ = Op.assign (Operand.const (Value.bool false)) from rfl) (by rfl)) (by rfl) (by rfl) ?_
  refine Ls.nil ?_
  refine Cd.seq ?_
  refine Cd.draw [] (by kernel_rfl) ?_
  refine Rg.does 0 (by rfl) (by kernel_rfl) (Does.read (show Oper.op _ = Op.call { callee := Callee.value (Operand.func 6), args := #[], argTypes := #[] } from rfl) Tryd.func6 (by kernel_rfl) (by kernel_rfl) (awake_sl) (by rfl) (by rfl) ⟨anyIn 4 (by rfl), trivial⟩) (by rfl) (some 3) (by rfl) (by exact fun _ _ h => h) ?_
  rintro _ -
  refine Rg.ev 1 (by rfl) (fun _ h => h) (Ev.move (show Oper.op _ = Op.move (Operand.tmp 3) from rfl) (by rfl)) (by rfl) (some 4) (by rfl) (by kernel_rfl) (by kernel_rfl) (by kernel_rfl) (by kernel_rfl) ?_
  refine Rg.ev 2 (by rfl) (fun _ h => h) (Ev.loads 0 (show Oper.op _ = Op.load 35 (Operand.tmp 1) from rfl) (by rfl) (by rfl) (n := 12) (by kernel_rfl) (by rfl) (by rfl)) (by rfl) (some 5) (by rfl) (by kernel_rfl) (by kernel_rfl) (by kernel_rfl) (by kernel_rfl) ?_
  refine Rg.ev 5 (by rfl) (fun _ h => h) (Ev.loads 0 (show Oper.op _ = Op.load 35 (Operand.tmp 1) from rfl) (by rfl) (by rfl) (n := 12) (by kernel_rfl) (by rfl) (by rfl)) (by rfl) (some 8) (by rfl) (by kernel_rfl) (by kernel_rfl) (by kernel_rfl) (by kernel_rfl) ?_
  refine Rg.does 3 (by rfl) (by kernel_rfl) (Does.call [2, 1, 0, 1, 2, 3, 4] (show Oper.op _ = Op.call { callee := Callee.value (Operand.func 13), args := #[Operand.tmp 5], argTypes := #[35] } from rfl) Tryd.func13 (by kernel_rfl) (by kernel_rfl) (own_sl z hz) (by rfl) (by rfl) (by rfl)) (by rfl) (some 6) (by rfl) (by exact fun _ _ h => h.tail_.tail_) ?_
  rintro y hy
  skip
  refine Rg.does 4 (by rfl) (by kernel_rfl) (Does.read (show Oper.op _ = Op.call { callee := Callee.value (Operand.func 12), args := #[Operand.tmp 6], argTypes := #[35] } from rfl) Tryd.func12 (by kernel_rfl) (by kernel_rfl) (print_sl y (hz.of_p hy)) (by rfl) (by rfl) ⟨ReadsIn.row 0 (by rfl), ReadsIn.row 1 (by rfl), anyIn 6 (by rfl), trivial⟩) (by rfl) (some 7) (by rfl) (by exact fun _ _ h => h) ?_
  rintro _ -
  skip
  refine Rg.does 6 (by rfl) (by kernel_rfl) (Does.read (show Oper.op _ = Op.call { callee := Callee.value (Operand.func 11), args := #[Operand.tmp 8], argTypes := #[35] } from rfl) Tryd.func11 (by kernel_rfl) (by kernel_rfl) (ref_sl z) (by rfl) (by rfl) trivial) (by rfl) (some 9) (by rfl) (by exact fun _ _ h => h) ?_
  rintro _ -
  skip
  refine Rg.does 7 (by rfl) (by kernel_rfl) (Does.read (show Oper.op _ = Op.call { callee := Callee.value (Operand.func 14), args := #[Operand.tmp 9], argTypes := #[40] } from rfl) Tryd.func14 (by kernel_rfl) (by kernel_rfl) (dprint_sl z hz) (by rfl) (by rfl) ⟨ReadsIn.rd 4 (by rfl), ReadsIn.rd 3 (by rfl), trivial⟩) (by rfl) (some 10) (by rfl) (by exact fun _ _ h => h) ?_
  rintro _ -
  rw [hy]
  refine Rg.ev 8 (by rfl) (fun _ h => h) (Ev.eqlS (show Oper.op _ = Op.binOp BinOp.eql 9 (Operand.tmp 7) (Operand.tmp 10) 9 from rfl) (by rfl) (by rfl)) (by rfl) (some 11) (by rfl) (by kernel_rfl) (by kernel_rfl) (by kernel_rfl) (by kernel_rfl) ?_
  refine Rg.ev 9 (by rfl) (fun _ h => h) (Ev.pickT (show Oper.op _ = Op.pick (Operand.tmp 4) (Operand.tmp 11) (Operand.const (Value.bool false)) from rfl) (by rfl) (by rfl)) (by rfl) (some 12) (by rfl) (by kernel_rfl) (by kernel_rfl) (by kernel_rfl) (by kernel_rfl) ?_
  refine Rg.ev 10 (by rfl) (fun _ h => h) (Ev.assign (show Oper.op _ = Op.assign (Operand.tmp 12) from rfl) (by rfl)) (by rfl) (some 2) (by rfl) (by kernel_rfl) (by kernel_rfl) (by kernel_rfl) (by kernel_rfl) ?_
  refine Rg.done (by kernel_rfl) ?_ _
  refine Cd.ret ?_
  refine Ent.ret (()) (trivial) (Res.tmp (by rfl) (by rfl)) ?_ [] (by rfl) ?_
  · rw [decide_eq_true rfl]
  · rfl
end Go.Proofs.YtemcigoelcblbaaDoor
/- what is written is read back; what is read is written no longer -/
namespace Go.Proofs.YtemcigoelcblbaaDoor
open Go.Lib
theorem join_cons2 (s : UInt8) (a b : List UInt8) (l : List (List UInt8)) : join (a :: b :: l) [s] = a ++ s :: join (b :: l) [s] := by
  simp [join, List.intercalate, List.intersperse]
theorem join_one (s : UInt8) (a : List UInt8) : join [a] [s] = a := by simp [join, List.intercalate, List.intersperse]
theorem join_split (c : UInt8) : ∀ t : List UInt8, join (splitP c t) [c] = t
  | [] => join_one c []
  | x :: r => by
    have ih := join_split c r
    unfold splitP
    by_cases h : x = c
    · rw [if_pos h]
      cases hs : splitP c r with
      | nil => exact absurd hs (splitP_ne c r)
      | cons a l =>
        rw [hs] at ih
        rw [join_cons2, ih, h]
        rfl
    · rw [if_neg h]
      cases hs : splitP c r with
      | nil => exact absurd hs (splitP_ne c r)
      | cons a l =>
        rw [hs] at ih
        dsimp only
        cases l with
        | nil =>
          rw [join_one] at ih ⊢
          rw [ih]
        | cons b l =>
          rw [join_cons2] at ih ⊢
          rw [← ih]
          rfl
theorem split_no (c : UInt8) : ∀ t : List UInt8, ∀ w ∈ splitP c t, c ∉ w
  | [], w, hw => by
    obtain rfl : w = [] := by simpa [splitP] using hw
    exact List.not_mem_nil
  | x :: r, w, hw => by
    have ih := split_no c r
    unfold splitP at hw
    by_cases h : x = c
    · rw [if_pos h] at hw
      rcases List.mem_cons.1 hw with rfl | hw
      · exact List.not_mem_nil
      · exact ih w hw
    · rw [if_neg h] at hw
      cases hs : splitP c r with
      | nil => exact absurd hs (splitP_ne c r)
      | cons a l =>
        rw [hs] at hw ih
        rcases List.mem_cons.1 hw with rfl | hw
        · intro hm
          rcases List.mem_cons.1 hm with e | hm
          · exact h e.symm
          · exact ih a List.mem_cons_self hm
        · exact ih w (List.mem_cons_of_mem _ hw)
theorem split_word {c : UInt8} : ∀ {w : List UInt8}, c ∉ w → splitP c w = [w]
  | [], _ => rfl
  | x :: r, h => by
    have h1 : ¬ x = c := fun e => h (by rw [e]; exact List.mem_cons_self)
    unfold splitP
    rw [if_neg h1, split_word (fun hm => h (List.mem_cons_of_mem _ hm))]
theorem split_front {c : UInt8} (t : List UInt8) : ∀ {w : List UInt8}, c ∉ w → splitP c (w ++ c :: t) = w :: splitP c t
  | [], _ => by
    show splitP c (c :: t) = _
    rw [splitP]
    exact if_pos rfl
  | x :: r, h => by
    have h1 : ¬ x = c := fun e => h (by rw [e]; exact List.mem_cons_self)
    show splitP c (x :: (r ++ c :: t)) = _
    rw [splitP, if_neg h1, split_front t (fun hm => h (List.mem_cons_of_mem _ hm))]
theorem split_join {c : UInt8} : ∀ {ws : List (List UInt8)}, ws ≠ [] → (∀ w ∈ ws, c ∉ w) → splitP c (join ws [c]) = ws
  | [], h, _ => absurd rfl h
  | [w], _, h => by rw [join_one, split_word (h w List.mem_cons_self)]
  | w :: v :: l, _, h => by rw [join_cons2, split_front _ (h w List.mem_cons_self), split_join (by simp) fun u hu => h u (List.mem_cons_of_mem _ hu)]
/-- The words of words. -/
theorem words_join {ws : List (List UInt8)} (hn : ws ≠ []) (h : ∀ w ∈ ws, 32 ∉ w ∧ w ≠ []) : wordsP (join ws [32]) = ws := by
  unfold wordsP
  rw [split_join hn fun w hw => (h w hw).1]
  exact List.filter_eq_self.2 fun w hw => decide_eq_true (h w hw).2
theorem words_no {t w : List UInt8} (h : w ∈ wordsP t) : 32 ∉ w ∧ w ≠ [] := by
  unfold wordsP at h
  have h2 := List.mem_filter.1 h
  exact ⟨split_no 32 t w h2.1, of_decide_eq_true h2.2⟩
theorem join_length (c : UInt8) : ∀ {l : List (List UInt8)}, l ≠ [] → (join l [c]).length + 1 = sumL l + l.length
  | [], h => absurd rfl h
  | [w], _ => by rw [join_one, sumL_cons]; simp [sumL]
  | w :: v :: l, _ => by
    have := join_length c (l := v :: l) (by simp)
    rw [join_cons2, sumL_cons, List.length_append, List.length_cons, List.length_cons]
    omega
theorem words_short {t : List UInt8} (h : wordsP t ≠ []) : (join (wordsP t) [32]).length ≤ t.length := by
  have h1 := join_length 32 h
  have h2 := splitP_sum 32 t
  have h3 := filter_sum (fun w => decide (w ≠ [])) (splitP 32 t)
  have h4 := List.length_filter_le (fun w => decide (w ≠ [])) (splitP 32 t)
  unfold wordsP at h1 ⊢
  omega
theorem nums_back : ∀ {ws : List (List UInt8)} {l : List Int}, numsP ws = some l → l.map itoa = ws
  | [], l, h => by
    obtain rfl := Option.some.inj h
    rfl
  | w :: ws, l, h => by
    rw [numsP] at h
    obtain ⟨n, hn, h2⟩ := Option.bind_eq_some_iff.1 h
    obtain ⟨b, hb, rfl⟩ := Option.map_eq_some_iff.1 h2
    rw [List.map_cons, nums_back hb, (numP_itoa hn).1]
theorem list_back {w : List UInt8} {l : List Int} (h : listP w = some l) : listL l = w := by
  unfold listP at h
  split at h
  · rename_i e
    obtain rfl := Option.some.inj h
    exact e.symm
  · have h1 := nums_back h
    have hl : l ≠ [] := fun e => splitP_ne 44 w (by rw [← h1, e]; rfl)
    unfold listL
    rw [if_neg hl, h1, join_split]
theorem read_write {z z' : StP} {κ : Wk} {w : List UInt8} (h : readW z κ w = some z') : writeW z' κ = w := by
  unfold readW at h
  unfold writeW
  split at h
  · rename_i hk
    obtain ⟨n, hn, rfl⟩ := Option.map_eq_some_iff.1 h
    rw [if_pos hk, show (z.putN n κ).getN κ = n by cases κ <;> first | rfl | cases hk]
    exact (numP_itoa hn).1
  · rename_i hk
    obtain ⟨l, hl, rfl⟩ := Option.map_eq_some_iff.1 h
    rw [if_neg hk, show (z.putL l κ).getL κ = l by cases κ <;> first | rfl | exact absurd rfl hk]
    exact list_back hl
theorem write_other {z z' : StP} {κ κ' : Wk} {w : List UInt8} (h : readW z κ w = some z') (hk : κ' ≠ κ) : writeW z' κ' = writeW z κ' := by
  unfold readW at h
  split at h
  · obtain ⟨n, _, rfl⟩ := Option.map_eq_some_iff.1 h
    cases κ <;> cases κ' <;> first | rfl | exact absurd rfl hk
  · obtain ⟨l, _, rfl⟩ := Option.map_eq_some_iff.1 h
    cases κ <;> cases κ' <;> first | rfl | exact absurd rfl hk
theorem reads_other : ∀ {ks : List Wk} {ws : List (List UInt8)} {z y : StP} {κ : Wk}, readsW z ks ws = some y → κ ∉ ks → writeW y κ = writeW z κ
  | [], ws, z, y, κ, h, _ => by
    obtain rfl : z = y := by cases ws <;> exact Option.some.inj h
    rfl
  | j :: ks, [], z, y, κ, h, _ => by
    obtain rfl := Option.some.inj h
    rfl
  | j :: ks, w :: ws, z, y, κ, h, hk => by
    rw [readsW] at h
    obtain ⟨z', h1, h2⟩ := Option.bind_eq_some_iff.1 h
    rw [reads_other h2 fun hm => hk (List.mem_cons_of_mem _ hm), write_other h1 fun e => hk (by rw [e]; exact List.mem_cons_self)]
theorem reads_write : ∀ {ks : List Wk} {ws : List (List UInt8)} {z y : StP}, readsW z ks ws = some y → ks.Nodup → ws.length = ks.length → ks.map (writeW y) = ws
  | [], ws, z, y, _, _, hl => (List.eq_nil_of_length_eq_zero hl).symm
  | j :: ks, [], z, y, _, _, hl => by cases hl
  | j :: ks, w :: ws, z, y, h, hn, hl => by
    rw [readsW] at h
    obtain ⟨z', h1, h2⟩ := Option.bind_eq_some_iff.1 h
    have hn2 := List.nodup_cons.1 hn
    rw [List.map_cons, reads_write h2 hn2.2 (Nat.succ.inj hl), reads_other h2 hn2.1, read_write h1]
theorem read_key {z z' : StP} {κ : Wk} {w : List UInt8} (h : readW z κ w = some z') : z'.kind = z.kind ∧ z'.ik = z.ik ∧ z'.verb = z.verb := by
  unfold readW at h
  split at h
  · obtain ⟨n, _, rfl⟩ := Option.map_eq_some_iff.1 h
    cases κ <;> exact ⟨rfl, rfl, rfl⟩
  · obtain ⟨l, _, rfl⟩ := Option.map_eq_some_iff.1 h
    cases κ <;> exact ⟨rfl, rfl, rfl⟩
theorem reads_key : ∀ {ks : List Wk} {ws : List (List UInt8)} {z y : StP}, readsW z ks ws = some y → y.kind = z.kind ∧ y.ik = z.ik ∧ y.verb = z.verb
  | [], ws, z, y, h => by
    obtain rfl : z = y := by cases ws <;> exact Option.some.inj h
    exact ⟨rfl, rfl, rfl⟩
  | j :: ks, [], z, y, h => by
    obtain rfl := Option.some.inj h
    exact ⟨rfl, rfl, rfl⟩
  | j :: ks, w :: ws, z, y, h => by
    rw [readsW] at h
    obtain ⟨z', h1, h2⟩ := Option.bind_eq_some_iff.1 h
    obtain ⟨a1, a2, a3⟩ := reads_key h2
    obtain ⟨b1, b2, b3⟩ := read_key h1
    exact ⟨a1.trans b1, a2.trans b2, a3.trans b3⟩
/-- A line that is read: its command and its words. -/
theorem line_cmd {t : List UInt8} (h : (lineP t).2 = 0) : t.length ≤ 1024 ∧ ∃ c ∈ cmdsP, ∃ r, wordsP t = c.name :: r ∧ r.length = c.ws.length ∧ readsW c.step c.ws r = some (lineP t).1 := by
  unfold lineP at h ⊢
  split at h
  · cases h
  rename_i hl
  rw [if_neg hl]
  refine ⟨by omega, ?_⟩
  unfold lineW at h ⊢
  cases hw : wordsP t with
  | nil => rw [hw] at h; cases h
  | cons nm r =>
    rw [hw] at h
    dsimp only at h ⊢
    cases hf : findP cmdsP nm with
    | none => rw [hf] at h; cases h
    | some c =>
      rw [hf] at h
      dsimp only at h ⊢
      obtain ⟨hc, hcn⟩ := (find_iff cmdsP nm c (by decide +kernel)).1 hf
      unfold cmdP at h ⊢
      split at h
      · cases h
      rename_i hrl
      rw [if_neg hrl]
      cases hr : readsW c.step c.ws r with
      | none => rw [hr] at h; cases h
      | some z => exact ⟨c, hc, r, by rw [hcn], Decidable.not_not.1 hrl, hr⟩
theorem line_err {t : List UInt8} (h : (lineP t).2 ≠ 0) : (lineP t).1 = noSt := by
  unfold lineP at h ⊢
  split
  · rfl
  rename_i hl
  rw [if_neg hl] at h
  unfold lineW at h ⊢
  split
  · rfl
  · rename_i nm r hw
    split
    · rfl
    · rename_i c hf
      rw [hw] at h
      dsimp only at h
      rw [hf] at h
      dsimp only at h
      unfold cmdP at h ⊢
      split
      · rfl
      · rename_i hrl
        rw [if_neg hrl] at h
        split
        · rfl
        · rename_i z hz
          rw [hz] at h
          exact absurd rfl h
theorem print_back {z : StP} (h : printP z ≠ []) : lineP (printP z) = (z, 0) := by
  unfold printP at h ⊢
  rw [printF_find] at h ⊢
  cases hf : cmdsP.find? fun c => decide (goodB z c) with
  | none => rw [hf] at h; exact absurd rfl h
  | some c =>
    have h1 := of_decide_eq_true (p := goodB z c) (by simpa using List.find?_some hf)
    exact Prod.ext h1.2.2 h1.2.1
/-- What is read is written, no longer, and is read back. -/
theorem line_back {t : List UInt8} (h : (lineP t).2 = 0) : printP (lineP t).1 ≠ [] ∧ (printP (lineP t).1).length ≤ t.length ∧ lineP (printP (lineP t).1) = ((lineP t).1, 0) := by
  obtain ⟨htl, c, hc, r, hw, hrl, hr⟩ := line_cmd h
  generalize (lineP t).1 = y at hr
  have hkey := reads_key hr
  have htx : textP c y = join (wordsP t) [32] := by
    unfold textP
    rw [reads_write hr (cmds_ok c hc).1 hrl, hw]
  have hne : wordsP t ≠ [] := by rw [hw]; simp
  have hsh := words_short hne
  rw [← htx] at hsh
  have hws : wordsP (textP c y) = c.name :: r := by
    rw [htx, words_join hne fun w hm => words_no hm, hw]
  have hl : lineP (textP c y) = (y, 0) := by
    unfold lineP
    rw [if_neg (by omega), hws]
    unfold lineW
    dsimp only
    rw [(find_iff cmdsP c.name c (by decide +kernel)).2 ⟨hc, rfl⟩]
    dsimp only
    unfold cmdP
    rw [if_neg (fun e => e hrl), hr]
  have hg : goodB y c := ⟨⟨hkey.1.symm, hkey.2.1.symm, hkey.2.2.symm⟩, by rw [hl], by rw [hl]⟩
  have hp : printP y = textP c y := by
    unfold printP
    rw [printF_find, (find_some_iff (fun c hc d hd h1 h2 => ?_) c).2 ⟨hc, decide_eq_true hg⟩]
    obtain ⟨⟨a1, a2, a3⟩, _⟩ := of_decide_eq_true h1
    obtain ⟨⟨b1, b2, b3⟩, _⟩ := of_decide_eq_true h2
    exact key_uniq c hc d hd ⟨a1.trans b1.symm, a2.trans b2.symm, a3.trans b3.symm⟩
  rw [hp]
  refine ⟨fun e => ?_, hsh, hl⟩
  rw [e] at hws
  cases hws
theorem nums_in : ∀ {ws : List (List UInt8)} {l : List Int}, numsP ws = some l → ∀ n ∈ l, in64 n
  | [], l, h, n, hn => by
    obtain rfl := Option.some.inj h
    cases hn
  | w :: ws, l, h, n, hn => by
    rw [numsP] at h
    obtain ⟨m, hm, h2⟩ := Option.bind_eq_some_iff.1 h
    obtain ⟨b, hb, rfl⟩ := Option.map_eq_some_iff.1 h2
    rcases List.mem_cons.1 hn with rfl | hn
    · exact (numP_itoa hm).2
    · exact nums_in hb n hn
/-- Numbers that a machine holds. -/
def StP.In (z : StP) : Prop := (∀ κ, in64 (z.getN κ)) ∧ ∀ κ, ∀ n ∈ z.getL κ, in64 n
theorem read_in {z z' : StP} {κ : Wk} {w : List UInt8} (h : readW z κ w = some z') (hz : z.In) : z'.In := by
  unfold readW at h
  split at h
  · obtain ⟨n, hn, rfl⟩ := Option.map_eq_some_iff.1 h
    have hb := (numP_itoa hn).2
    refine ⟨fun κ' => ?_, fun κ' => ?_⟩
    · have := hz.1 κ'
      cases κ <;> cases κ' <;> first | exact hb | exact this
    · have := hz.2 κ'
      cases κ <;> cases κ' <;> exact this
  · obtain ⟨l, hl, rfl⟩ := Option.map_eq_some_iff.1 h
    have hb : ∀ n ∈ l, in64 n := by
      unfold listP at hl
      split at hl
      · obtain rfl := Option.some.inj hl
        intro n hn
        cases hn
      · exact nums_in hl
    refine ⟨fun κ' => ?_, fun κ' => ?_⟩
    · have := hz.1 κ'
      cases κ <;> cases κ' <;> exact this
    · have := hz.2 κ'
      cases κ <;> cases κ' <;> first | exact hb | exact this
theorem reads_in : ∀ {ks : List Wk} {ws : List (List UInt8)} {z y : StP}, readsW z ks ws = some y → z.In → y.In
  | [], ws, z, y, h, hz => by
    obtain rfl : z = y := by cases ws <;> exact Option.some.inj h
    exact hz
  | j :: ks, [], z, y, h, hz => by
    obtain rfl := Option.some.inj h
    exact hz
  | j :: ks, w :: ws, z, y, h, hz => by
    rw [readsW] at h
    obtain ⟨z', h1, h2⟩ := Option.bind_eq_some_iff.1 h
    exact reads_in h2 (read_in h1 hz)
theorem step_in (c : CmdP) : c.step.In := ⟨fun κ => by cases κ <;> exact show in64 0 by decide, fun κ n hn => by cases κ <;> cases hn⟩
theorem line_in (t : List UInt8) : (lineP t).1.In := by
  by_cases h : (lineP t).2 = 0
  · obtain ⟨_, c, _, r, _, _, hr⟩ := line_cmd h
    exact reads_in hr (step_in c)
  · rw [line_err h]
    exact ⟨fun κ => by cases κ <;> exact show in64 0 by decide, fun κ n hn => by cases κ <;> cases hn⟩
theorem line_ok {t : List UInt8} {z : StS} (h : z.p = (lineP t).1) : z.Ok := by
  have h1 := line_in t
  have h2 := line_lists t
  rw [← h] at h1 h2
  change z.cells.length + z.keeps.length ≤ 1024 at h2
  refine ⟨h1.1, fun κ => ?_, h1.2⟩
  cases κ <;> first | exact Nat.zero_le _ | exact show z.cells.length ≤ 1048576 by omega | exact show z.keeps.length ≤ 1048576 by omega
end Go.Proofs.YtemcigoelcblbaaDoor
/- the walk of ScriptBack -/
namespace Go.Proofs.YtemcigoelcblbaaDoor
open Go.RowKit
theorem print_len {z : StS} (hz : z.Ok) : (printP z.p).length ≤ 140737488355328 := by
  unfold printP
  rw [printF_find]
  cases hf : cmdsP.find? fun c => decide (goodB z.p c) with
  | none => exact Nat.zero_le _
  | some c => exact text_len hz (List.mem_of_find?_eq_some hf)
set_option maxRecDepth 20000 in
set_option maxHeartbeats 2000000 in
theorem back_sl (W : World) (z : StS) (hz : z.Ok) (ha : z.At W) (t : List UInt8) (ht : t.length ≤ 4611686018427387904) : Fn Tryd.prog 5 #[.agg z.enc.toArray, .string (txt t)] [argc W, laidC] Unit (fun _ => .bool true) (fun _ => []) (fun _ => True) := by
  have hkl := hz.len .k
  have hcl := hz.len .r
  change z.keeps.length ≤ _ at hkl
  change z.cells.length ≤ _ at hcl
  refine Fn.enter Tryd.func5 rfl Tryd.ntmps5 (by rfl) ?_
  intro w0
  refine Ent.arg 0 (by rfl) ha.rC ?_
  refine Ent.arg 1 (by rfl) ha.rK ?_
  refine Cd.seq ?_
  refine Cd.region ?_
  refine Ls.does (some 2) (Does.box (show Oper.op _ = Op.box 35 (Operand.tmp 0) from rfl) (by rfl)) (by rfl) (by rfl) ?_
  intro g1 _
  refine Ls.ev (some 4) (Ev.assign (show Oper.op _ = Op.assign (Operand.const (Value.bool false)) from rfl) (by rfl)) (by rfl) (by rfl) ?_
  refine Ls.nil ?_
  refine Cd.seq ?_
  refine Cd.seq ?_
  refine Cd.region ?_
  refine Ls.does (some 13) (Does.read (show Oper.op _ = Op.call { callee := Callee.value (Operand.func 6), args := #[], argTypes := #[] } from rfl) Tryd.func6 (by kernel_rfl) (by kernel_rfl) (awake_sl) (by rfl) (by rfl) ⟨anyIn 4 (by rfl), trivial⟩) (by rfl) (by rfl) ?_
  rintro _ -
  refine Ls.ev (some 14) (Ev.not (show Oper.op _ = Op.unOp UnOp.not 4 (Operand.tmp 13) from rfl) (by rfl)) (by rfl) (by rfl) ?_
  refine Ls.nil ?_
  refine Cd.cond_false (by rfl) (rfl) ?_
  refine Cd.skip ?_
  refine Cd.seq ?_
  refine Cd.seq ?_
  refine Cd.region ?_
  refine Ls.ev (some 15) (Ev.loads 0 (show Oper.op _ = Op.load 35 (Operand.tmp 2) from rfl) (by rfl) (by rfl) (n := 12) (by kernel_rfl) (by rfl) (by rfl)) (by rfl) (by rfl) ?_
  refine Ls.does (some 16) (Does.call [2, 1, 0, 1, 2, 3, 4] (show Oper.op _ = Op.call { callee := Callee.value (Operand.func 13), args := #[Operand.tmp 15], argTypes := #[35] } from rfl) Tryd.func13 (by kernel_rfl) (by kernel_rfl) (own_sl z hz) (by rfl) (by rfl) (by rfl)) (by rfl) (by rfl) ?_
  rintro y hy
  skip
  refine Ls.does (some 17) (Does.read (show Oper.op _ = Op.call { callee := Callee.value (Operand.func 12), args := #[Operand.tmp 16], argTypes := #[35] } from rfl) Tryd.func12 (by kernel_rfl) (by kernel_rfl) (print_sl y (hz.of_p hy)) (by rfl) (by rfl) ⟨ReadsIn.row 0 (by rfl), ReadsIn.row 1 (by rfl), anyIn 6 (by rfl), trivial⟩) (by rfl) (by rfl) ?_
  rintro _ -
  rw [hy]
  refine Ls.ev (some 5) (Ev.assign (show Oper.op _ = Op.assign (Operand.tmp 17) from rfl) (by rfl)) (by rfl) (by rfl) ?_
  refine Ls.nil ?_
  refine Cd.seq ?_
  refine Ent.pick [2, 3, 4, 6] (by rfl) ?_
  have hLl := print_len hz
  generalize hL : printP z.p = L at hLl
  refine Ent.norm ([(1, .string (txt t)), (2, .pointer (some ⟨g1, 0, none⟩)), (5, .string (txt L))]) ([blk g1 35 z.enc, z.rK, z.rC, laidC]) (by repeat (first | exact trivial | refine ⟨by rfl, ?_⟩ | refine ⟨by simp only [List.length_append, List.length_cons, List.length_nil]; rfl, ?_⟩ | refine ⟨by push_cast; rfl, ?_⟩)) (by rfl) ?_
  refine Cd.region ?_
  refine Ls.ev (some 18) (Ev.move (show Oper.op _ = Op.move (Operand.tmp 5) from rfl) (by rfl)) (by rfl) (by rfl) ?_
  refine Ls.ev (some 19) (Ev.neqS (show Oper.op _ = Op.binOp BinOp.neq 9 (Operand.tmp 18) (Operand.const (Value.string { data := #[] })) 9 from rfl) (by rfl) (by rfl)) (by rfl) (by rfl) ?_
  refine Ls.nil ?_
  refine Cd.cut (ι := Unit) (fun _ => [(1, .string (txt t))]) (fun _ => [laidC]) (fun _ => True) ?_ ?_
  · skip
    refine Cd.cond _ (by rfl) (fun h1 => ?_) (fun h1 => ?_)
    · skip
      have h1 : printP z.p ≠ [] := fun e => (of_decide_eq_true h1) (by rw [← hL, e]; rfl)
      have hb := print_back h1
      rw [hL] at hb
      refine Cd.seq ?_
      refine Cd.region ?_
      refine Ls.ev (some 21) (Ev.move (show Oper.op _ = Op.move (Operand.tmp 5) from rfl) (by rfl)) (by rfl) (by rfl) ?_
      refine Ls.does (some 22) (Does.call [3, 0, 1, 2, 3] (show Oper.op _ = Op.call { callee := Callee.value (Operand.func 8), args := #[Operand.tmp 21], argTypes := #[9] } from rfl) Tryd.func8 (by kernel_rfl) (by kernel_rfl) (line_sl L (by omega)) (by rfl) (by rfl) (by rfl)) (by rfl) (by rfl) ?_
      rw [hb]
      rintro x hx
      dsimp only at hx
      have hx1 : x.keeps.length = z.keeps.length := by show x.p.keeps.length = z.p.keeps.length; rw [hx]
      have hx2 : x.cells.length = z.cells.length := by show x.p.cells.length = z.p.cells.length; rw [hx]
      have hds := dsame_sl x z (by omega) (by omega)
      rw [decide_eq_true hx] at hds
      refine Ent.see 0 (by rfl) ?_
      refine Ent.see 1 (by rfl) ?_
      refine Ls.ev (some 20) (Ev.move (show Oper.op _ = Op.move (Operand.tmp 22) from rfl) (by rfl)) (by rfl) (by rfl) ?_
      refine Ls.ev (some 23) (Ev.extract (show Oper.op _ = Op.extract (Operand.tmp 20) 0 from rfl) (by rfl) (by rfl)) (by rfl) (by rfl) ?_
      refine Ls.ev (some 24) (Ev.extract (show Oper.op _ = Op.extract (Operand.tmp 20) 1 from rfl) (by rfl) (by rfl)) (by rfl) (by rfl) ?_
      refine Ls.does (some 6) (Does.alloc (cs := [.int .i64 0, .int .i64 0, .int .i64 0, .int .i64 0, .int .i64 0, .int .i64 0, .int .i64 0, .int .i64 0, .int .i64 0, .int .i64 0, .slice none 0 0, .slice none 0 0]) (show Oper.op _ = Op.alloc 35 from rfl) (ZeroIs.mk (.agg #[.int .i64 0, .int .i64 0, .int .i64 0, .int .i64 0, .int .i64 0, .int .i64 0, .int .i64 0, .int .i64 0, .int .i64 0, .int .i64 0, .slice none 0 0, .slice none 0 0]) (by kernel_rfl) (by rfl))) (by rfl) (by rfl) ?_
      intro g2 _
      refine Ls.does none (Does.store 0 (show Oper.op _ = Op.store 35 (Operand.tmp 6) (Operand.tmp 23) from rfl) (by rfl) (by rfl) (by rfl) (by kernel_rfl) (by rfl) (by kernel_rfl) (by rfl)) (by rfl) (by rfl) ?_
      intro _ _
      refine Ls.ev (some 7) (Ev.assign (show Oper.op _ = Op.assign (Operand.tmp 24) from rfl) (by rfl)) (by rfl) (by rfl) ?_
      refine Ls.nil ?_
      refine Cd.seq ?_
      refine Cd.draw [] (by kernel_rfl) ?_
      refine Rg.ev 0 (by rfl) (fun _ h => h) (Ev.move (show Oper.op _ = Op.move (Operand.tmp 7) from rfl) (by rfl)) (by rfl) (some 25) (by rfl) (by kernel_rfl) (by kernel_rfl) (by kernel_rfl) (by kernel_rfl) ?_
      refine Rg.ev 1 (by rfl) (fun _ h => h) (Ev.neq (show Oper.op _ = Op.binOp BinOp.neq 36 (Operand.tmp 25) (Operand.const (Value.int IntKind.i64 0)) 36 from rfl) (by rfl) (by rfl)) (by rfl) (some 26) (by rfl) (by kernel_rfl) (by kernel_rfl) (by kernel_rfl) (by kernel_rfl) ?_
      refine Rg.ev 2 (by rfl) (fun _ h => h) (Ev.move (show Oper.op _ = Op.move (Operand.tmp 26) from rfl) (by rfl)) (by rfl) (some 27) (by rfl) (by kernel_rfl) (by kernel_rfl) (by kernel_rfl) (by kernel_rfl) ?_
      refine Ent.known 27 false (by rfl) (by exact (decide_eq_false (fun h => h rfl))) ?_
      refine Rg.ev 3 (by rfl) (fun _ h => h) (Ev.loads 0 (show Oper.op _ = Op.load 35 (Operand.tmp 6) from rfl) (by rfl) (by rfl) (n := 12) (by kernel_rfl) (by rfl) (by rfl)) (by rfl) (some 28) (by rfl) (by kernel_rfl) (by kernel_rfl) (by kernel_rfl) (by kernel_rfl) ?_
      refine Rg.ev 5 (by rfl) (fun _ h => h) (Ev.loads 3 (show Oper.op _ = Op.load 35 (Operand.tmp 2) from rfl) (by rfl) (by rfl) (n := 12) (by kernel_rfl) (by rfl) (by rfl)) (by rfl) (some 30) (by rfl) (by kernel_rfl) (by kernel_rfl) (by kernel_rfl) (by kernel_rfl) ?_
      skip
      refine Rg.does 4 (by rfl) (by kernel_rfl) (Does.read (show Oper.op _ = Op.call { callee := Callee.value (Operand.func 11), args := #[Operand.tmp 28], argTypes := #[35] } from rfl) Tryd.func11 (by kernel_rfl) (by kernel_rfl) (ref_sl x) (by rfl) (by rfl) trivial) (by rfl) (some 29) (by rfl) (by exact fun _ _ h => h) ?_
      rintro _ -
      skip
      refine Rg.does 6 (by rfl) (by kernel_rfl) (Does.read (show Oper.op _ = Op.call { callee := Callee.value (Operand.func 11), args := #[Operand.tmp 30], argTypes := #[35] } from rfl) Tryd.func11 (by kernel_rfl) (by kernel_rfl) (ref_sl z) (by rfl) (by rfl) trivial) (by rfl) (some 31) (by rfl) (by exact fun _ _ h => h) ?_
      rintro _ -
      skip
      refine Rg.does 7 (by rfl) (by kernel_rfl) (Does.read (show Oper.op _ = Op.call { callee := Callee.value (Operand.func 10), args := #[Operand.tmp 29, Operand.tmp 31], argTypes := #[40, 40] } from rfl) Tryd.func10 (by kernel_rfl) (by kernel_rfl) (hds) (by rfl) (by rfl) ⟨ReadsIn.rd 1 (by rfl), ReadsIn.rd 2 (by rfl), ReadsIn.rd 5 (by rfl), ReadsIn.rd 4 (by rfl), trivial⟩) (by rfl) (some 32) (by rfl) (by exact fun _ _ h => h) ?_
      rintro _ -
      refine Rg.ev 8 (by rfl) (fun _ h => h) (Ev.not (show Oper.op _ = Op.unOp UnOp.not 4 (Operand.tmp 32) from rfl) (by rfl)) (by rfl) (some 33) (by rfl) (by kernel_rfl) (by kernel_rfl) (by kernel_rfl) (by kernel_rfl) ?_
      refine Rg.ev 9 (by rfl) (fun _ h => h) (Ev.pickF (show Oper.op _ = Op.pick (Operand.tmp 27) (Operand.const (Value.bool true)) (Operand.tmp 33) from rfl) (by rfl) (by rfl)) (by rfl) (some 34) (by rfl) (by kernel_rfl) (by kernel_rfl) (by kernel_rfl) (by kernel_rfl) ?_
      refine Rg.done (by kernel_rfl) ?_ _
      refine Cd.cond_false (by rfl) (rfl) ?_
      refine Cd.skip ?_
      refine Ent.pick [6] (by rfl) ?_
      refine Ent.inv (()) ?_ ?_ ?_
      · (try dsimp only); skip
      · (repeat (first | exact trivial | refine ⟨by rfl, ?_⟩ | refine ⟨by simp only [List.length_append, List.length_cons, List.length_nil]; rfl, ?_⟩ | refine ⟨by push_cast; rfl, ?_⟩))
      · rfl
    · skip
      refine Cd.skip ?_
      refine Ent.pick [3] (by rfl) ?_
      refine Ent.inv (()) ?_ ?_ ?_
      · (try dsimp only); skip
      · (repeat (first | exact trivial | refine ⟨by rfl, ?_⟩ | refine ⟨by simp only [List.length_append, List.length_cons, List.length_nil]; rfl, ?_⟩ | refine ⟨by push_cast; rfl, ?_⟩))
      · rfl
  skip
  rintro _ -
  refine Cd.seq ?_
  refine Cd.region ?_
  refine Ls.ev (some 35) (Ev.move (show Oper.op _ = Op.move (Operand.tmp 1) from rfl) (by rfl)) (by rfl) (by rfl) ?_
  refine Ls.does (some 36) (Does.read (show Oper.op _ = Op.call { callee := Callee.value (Operand.func 7), args := #[Operand.tmp 35], argTypes := #[9] } from rfl) Tryd.func7 (by kernel_rfl) (by kernel_rfl) (cut_sl t ht) (by rfl) (by rfl) trivial) (by rfl) (by rfl) ?_
  rintro _ -
  generalize hT : t.take 3000 = T
  have hTl : T.length ≤ 3000 := by rw [← hT, List.length_take]; omega
  refine Ls.ev (some 1) (Ev.assign (show Oper.op _ = Op.assign (Operand.tmp 36) from rfl) (by rfl)) (by rfl) (by rfl) ?_
  refine Ls.nil ?_
  refine Cd.seq ?_
  refine Cd.region ?_
  refine Ls.ev (some 38) (Ev.move (show Oper.op _ = Op.move (Operand.tmp 1) from rfl) (by rfl)) (by rfl) (by rfl) ?_
  refine Ls.does (some 39) (Does.call [0, 0] (show Oper.op _ = Op.call { callee := Callee.value (Operand.func 8), args := #[Operand.tmp 38], argTypes := #[9] } from rfl) Tryd.func8 (by kernel_rfl) (by kernel_rfl) (line_sl T (by omega)) (by rfl) (by rfl) (by rfl)) (by rfl) (by rfl) ?_
  rintro q hq
  have hqo := line_ok hq
  refine Ent.see 0 (by rfl) ?_
  refine Ent.see 1 (by rfl) ?_
  refine Ls.ev (some 37) (Ev.move (show Oper.op _ = Op.move (Operand.tmp 39) from rfl) (by rfl)) (by rfl) (by rfl) ?_
  refine Ls.ev (some 40) (Ev.extract (show Oper.op _ = Op.extract (Operand.tmp 37) 0 from rfl) (by rfl) (by rfl)) (by rfl) (by rfl) ?_
  refine Ls.ev (some 41) (Ev.extract (show Oper.op _ = Op.extract (Operand.tmp 37) 1 from rfl) (by rfl) (by rfl)) (by rfl) (by rfl) ?_
  refine Ls.does (some 8) (Does.alloc (cs := [.int .i64 0, .int .i64 0, .int .i64 0, .int .i64 0, .int .i64 0, .int .i64 0, .int .i64 0, .int .i64 0, .int .i64 0, .int .i64 0, .slice none 0 0, .slice none 0 0]) (show Oper.op _ = Op.alloc 35 from rfl) (ZeroIs.mk (.agg #[.int .i64 0, .int .i64 0, .int .i64 0, .int .i64 0, .int .i64 0, .int .i64 0, .int .i64 0, .int .i64 0, .int .i64 0, .int .i64 0, .slice none 0 0, .slice none 0 0]) (by kernel_rfl) (by rfl))) (by rfl) (by rfl) ?_
  intro g2 _
  refine Ls.does none (Does.store 0 (show Oper.op _ = Op.store 35 (Operand.tmp 8) (Operand.tmp 40) from rfl) (by rfl) (by rfl) (by rfl) (by kernel_rfl) (by rfl) (by kernel_rfl) (by rfl)) (by rfl) (by rfl) ?_
  intro _ _
  refine Ls.ev (some 9) (Ev.assign (show Oper.op _ = Op.assign (Operand.tmp 41) from rfl) (by rfl)) (by rfl) (by rfl) ?_
  refine Ls.nil ?_
  refine Cd.seq ?_
  refine Cd.seq ?_
  refine Cd.region ?_
  refine Ls.ev (some 42) (Ev.move (show Oper.op _ = Op.move (Operand.tmp 9) from rfl) (by rfl)) (by rfl) (by rfl) ?_
  refine Ls.ev (some 43) (Ev.neq (show Oper.op _ = Op.binOp BinOp.neq 36 (Operand.tmp 42) (Operand.const (Value.int IntKind.i64 0)) 36 from rfl) (by rfl) (by rfl)) (by rfl) (by rfl) ?_
  refine Ls.nil ?_
  refine Cd.cond _ (by rfl) (fun h2 => ?_) (fun h2 => ?_)
  · skip
    have h2 := of_decide_eq_true h2
    have hq0 : q.p = noStS.p := hq.trans (line_err h2)
    have hds := dsame_sl q noStS (by have := hqo.len .k; change q.keeps.length ≤ _ at this; omega) (by have := hqo.len .r; change q.cells.length ≤ _ at this; omega)
    rw [decide_eq_true hq0] at hds
    refine Ent.nil 3 1 ?_
    refine Ent.see 0 (by rfl) ?_
    refine Cd.seq ?_
    refine Cd.region ?_
    refine Ls.ev (some 44) (Ev.loads 1 (show Oper.op _ = Op.load 35 (Operand.tmp 8) from rfl) (by rfl) (by rfl) (n := 12) (by kernel_rfl) (by rfl) (by rfl)) (by rfl) (by rfl) ?_
    refine Ls.does (some 45) (Does.read (show Oper.op _ = Op.call { callee := Callee.value (Operand.func 11), args := #[Operand.tmp 44], argTypes := #[35] } from rfl) Tryd.func11 (by kernel_rfl) (by kernel_rfl) (ref_sl q) (by rfl) (by rfl) trivial) (by rfl) (by rfl) ?_
    rintro _ -
    refine Ls.ev (some 46) (Ev.buildP (pl := [(0, 1), (1, 1), (2, 1), (3, 1), (4, 8)]) (zs := [.int .i64 0, .int .i64 0, .int .i64 0, .int .i64 0, .int .i64 0, .int .i64 0, .int .i64 0, .int .i64 0, .int .i64 0, .int .i64 0, .slice none 0 0, .slice none 0 0]) (show Oper.op _ = Op.build 40 #[] from rfl) (by rfl) (by kernel_rfl) (by rfl)) (by rfl) (by rfl) ?_
    refine Ls.does (some 47) (Does.read (show Oper.op _ = Op.call { callee := Callee.value (Operand.func 10), args := #[Operand.tmp 45, Operand.tmp 46], argTypes := #[40, 40] } from rfl) Tryd.func10 (by kernel_rfl) (by kernel_rfl) (hds) (by rfl) (by rfl) ⟨ReadsIn.rd 2 (by rfl), ReadsIn.rd 3 (by rfl), ReadsIn.rd 0 (by rfl), ReadsIn.rd 0 (by rfl), trivial⟩) (by rfl) (by rfl) ?_
    rintro _ -
    refine Ls.ev (some 4) (Ev.assign (show Oper.op _ = Op.assign (Operand.tmp 47) from rfl) (by rfl)) (by rfl) (by rfl) ?_
    refine Ls.nil ?_
    refine Cd.ret ?_
    refine Ent.ret (()) (trivial) (Res.tmp (by rfl) (by rfl)) ?_ [] (by rfl) ?_
    · rfl
    · rfl
  · skip
    have h2 : (lineP T).2 = 0 := Decidable.not_not.1 (of_decide_eq_false h2)
    obtain ⟨hb1, hb2, hb3⟩ := line_back h2
    rw [← hq] at hb1 hb2 hb3
    refine Cd.skip ?_
    refine Cd.seq ?_
    refine Cd.region ?_
    refine Ls.ev (some 48) (Ev.loads 0 (show Oper.op _ = Op.load 35 (Operand.tmp 8) from rfl) (by rfl) (by rfl) (n := 12) (by kernel_rfl) (by rfl) (by rfl)) (by rfl) (by rfl) ?_
    refine Ls.does (some 49) (Does.call [1, 2, 0, 1, 2, 3] (show Oper.op _ = Op.call { callee := Callee.value (Operand.func 13), args := #[Operand.tmp 48], argTypes := #[35] } from rfl) Tryd.func13 (by kernel_rfl) (by kernel_rfl) (own_sl q hqo) (by rfl) (by rfl) (by rfl)) (by rfl) (by rfl) ?_
    rintro u hu
    skip
    refine Ls.does (some 50) (Does.read (show Oper.op _ = Op.call { callee := Callee.value (Operand.func 12), args := #[Operand.tmp 49], argTypes := #[35] } from rfl) Tryd.func12 (by kernel_rfl) (by kernel_rfl) (print_sl u (hqo.of_p hu)) (by rfl) (by rfl) ⟨ReadsIn.row 0 (by rfl), ReadsIn.row 1 (by rfl), anyIn 5 (by rfl), trivial⟩) (by rfl) (by rfl) ?_
    rintro _ -
    rw [hu]
    generalize hM : printP q.p = M at hb1 hb2 hb3
    refine Ls.ev (some 10) (Ev.assign (show Oper.op _ = Op.assign (Operand.tmp 50) from rfl) (by rfl)) (by rfl) (by rfl) ?_
    refine Ls.nil ?_
    refine Cd.seq ?_
    refine Cd.region ?_
    refine Ls.ev (some 52) (Ev.move (show Oper.op _ = Op.move (Operand.tmp 10) from rfl) (by rfl)) (by rfl) (by rfl) ?_
    refine Ent.pick [2, 3, 4, 5] (by rfl) ?_
    refine Ls.does (some 53) (Does.call [3, 0, 1, 2] (show Oper.op _ = Op.call { callee := Callee.value (Operand.func 8), args := #[Operand.tmp 52], argTypes := #[9] } from rfl) Tryd.func8 (by kernel_rfl) (by kernel_rfl) (line_sl M (by omega)) (by rfl) (by rfl) (by rfl)) (by rfl) (by rfl) ?_
    rw [hb3]
    rintro v hv
    dsimp only at hv
    have hvo := hqo.of_p hv
    have hds := dsame_sl v q (by have := hvo.len .k; change v.keeps.length ≤ _ at this; omega) (by have := hvo.len .r; change v.cells.length ≤ _ at this; omega)
    rw [decide_eq_true hv] at hds
    refine Ent.see 0 (by rfl) ?_
    refine Ent.see 1 (by rfl) ?_
    refine Ls.ev (some 51) (Ev.move (show Oper.op _ = Op.move (Operand.tmp 53) from rfl) (by rfl)) (by rfl) (by rfl) ?_
    refine Ls.ev (some 54) (Ev.extract (show Oper.op _ = Op.extract (Operand.tmp 51) 0 from rfl) (by rfl) (by rfl)) (by rfl) (by rfl) ?_
    refine Ls.ev (some 55) (Ev.extract (show Oper.op _ = Op.extract (Operand.tmp 51) 1 from rfl) (by rfl) (by rfl)) (by rfl) (by rfl) ?_
    refine Ls.does (some 11) (Does.alloc (cs := [.int .i64 0, .int .i64 0, .int .i64 0, .int .i64 0, .int .i64 0, .int .i64 0, .int .i64 0, .int .i64 0, .int .i64 0, .int .i64 0, .slice none 0 0, .slice none 0 0]) (show Oper.op _ = Op.alloc 35 from rfl) (ZeroIs.mk (.agg #[.int .i64 0, .int .i64 0, .int .i64 0, .int .i64 0, .int .i64 0, .int .i64 0, .int .i64 0, .int .i64 0, .int .i64 0, .int .i64 0, .slice none 0 0, .slice none 0 0]) (by kernel_rfl) (by rfl))) (by rfl) (by rfl) ?_
    intro g3 _
    refine Ls.does none (Does.store 0 (show Oper.op _ = Op.store 35 (Operand.tmp 11) (Operand.tmp 54) from rfl) (by rfl) (by rfl) (by rfl) (by kernel_rfl) (by rfl) (by kernel_rfl) (by rfl)) (by rfl) (by rfl) ?_
    intro _ _
    refine Ls.ev (some 12) (Ev.assign (show Oper.op _ = Op.assign (Operand.tmp 55) from rfl) (by rfl)) (by rfl) (by rfl) ?_
    refine Ls.nil ?_
    refine Cd.seq ?_
    refine Cd.draw [] (by kernel_rfl) ?_
    refine Rg.ev 0 (by rfl) (fun _ h => h) (Ev.move (show Oper.op _ = Op.move (Operand.tmp 10) from rfl) (by rfl)) (by rfl) (some 56) (by rfl) (by kernel_rfl) (by kernel_rfl) (by kernel_rfl) (by kernel_rfl) ?_
    refine Rg.ev 1 (by rfl) (fun _ h => h) (Ev.neqS (show Oper.op _ = Op.binOp BinOp.neq 9 (Operand.tmp 56) (Operand.const (Value.string { data := #[] })) 9 from rfl) (by rfl) (by rfl)) (by rfl) (some 57) (by rfl) (by kernel_rfl) (by kernel_rfl) (by kernel_rfl) (by kernel_rfl) ?_
    refine Rg.ev 2 (by rfl) (fun _ h => h) (Ev.move (show Oper.op _ = Op.move (Operand.tmp 57) from rfl) (by rfl)) (by rfl) (some 58) (by rfl) (by kernel_rfl) (by kernel_rfl) (by kernel_rfl) (by kernel_rfl) ?_
    refine Ent.known 58 true (by rfl) (by exact (decide_eq_true (fun e => hb1 ((txt_eq_iff (b := [])).1 e)))) ?_
    refine Rg.ev 3 (by rfl) (fun _ h => h) (Ev.move (show Oper.op _ = Op.move (Operand.tmp 10) from rfl) (by rfl)) (by rfl) (some 59) (by rfl) (by kernel_rfl) (by kernel_rfl) (by kernel_rfl) (by kernel_rfl) ?_
    refine Rg.ev 4 (by rfl) (fun _ h => h) (Ev.lenS (show Oper.op _ = Op.call { callee := Callee.builtin Builtin.len, args := #[Operand.tmp 59], argTypes := #[9] } from rfl) (by rfl) Tryd.underlying9) (by rfl) (some 60) (by rfl) (by kernel_rfl) (by kernel_rfl) (by kernel_rfl) (by kernel_rfl) ?_
    refine Rg.ev 5 (by rfl) (fun _ h => h) (Ev.move (show Oper.op _ = Op.move (Operand.tmp 1) from rfl) (by rfl)) (by rfl) (some 61) (by rfl) (by kernel_rfl) (by kernel_rfl) (by kernel_rfl) (by kernel_rfl) ?_
    refine Rg.ev 6 (by rfl) (fun _ h => h) (Ev.lenS (show Oper.op _ = Op.call { callee := Callee.builtin Builtin.len, args := #[Operand.tmp 61], argTypes := #[9] } from rfl) (by rfl) Tryd.underlying9) (by rfl) (some 62) (by rfl) (by kernel_rfl) (by kernel_rfl) (by kernel_rfl) (by kernel_rfl) ?_
    refine Rg.ev 7 (by rfl) (fun _ h => h) (Ev.leq (show Oper.op _ = Op.binOp BinOp.leq 3 (Operand.tmp 60) (Operand.tmp 62) 3 from rfl) (by rfl) (by rfl)) (by rfl) (some 63) (by rfl) (by kernel_rfl) (by kernel_rfl) (by kernel_rfl) (by kernel_rfl) ?_
    refine Rg.ev 8 (by rfl) (fun _ h => h) (Ev.pickT (show Oper.op _ = Op.pick (Operand.tmp 58) (Operand.tmp 63) (Operand.const (Value.bool false)) from rfl) (by rfl) (by rfl)) (by rfl) (some 64) (by rfl) (by kernel_rfl) (by kernel_rfl) (by kernel_rfl) (by kernel_rfl) ?_
    refine Rg.ev 9 (by rfl) (fun _ h => h) (Ev.move (show Oper.op _ = Op.move (Operand.tmp 64) from rfl) (by rfl)) (by rfl) (some 65) (by rfl) (by kernel_rfl) (by kernel_rfl) (by kernel_rfl) (by kernel_rfl) ?_
    skip
    refine Ent.known 65 true (by rfl) (by exact (decide_eq_true (show ((M.length : Nat) : Int) ≤ ((T.length : Nat) : Int) by omega))) ?_
    refine Rg.ev 10 (by rfl) (fun _ h => h) (Ev.move (show Oper.op _ = Op.move (Operand.tmp 12) from rfl) (by rfl)) (by rfl) (some 66) (by rfl) (by kernel_rfl) (by kernel_rfl) (by kernel_rfl) (by kernel_rfl) ?_
    refine Rg.ev 11 (by rfl) (fun _ h => h) (Ev.eql (show Oper.op _ = Op.binOp BinOp.eql 36 (Operand.tmp 66) (Operand.const (Value.int IntKind.i64 0)) 36 from rfl) (by rfl) (by rfl)) (by rfl) (some 67) (by rfl) (by kernel_rfl) (by kernel_rfl) (by kernel_rfl) (by kernel_rfl) ?_
    refine Rg.ev 12 (by rfl) (fun _ h => h) (Ev.pickT (show Oper.op _ = Op.pick (Operand.tmp 65) (Operand.tmp 67) (Operand.const (Value.bool false)) from rfl) (by rfl) (by rfl)) (by rfl) (some 68) (by rfl) (by kernel_rfl) (by kernel_rfl) (by kernel_rfl) (by kernel_rfl) ?_
    refine Rg.ev 13 (by rfl) (fun _ h => h) (Ev.move (show Oper.op _ = Op.move (Operand.tmp 68) from rfl) (by rfl)) (by rfl) (some 69) (by rfl) (by kernel_rfl) (by kernel_rfl) (by kernel_rfl) (by kernel_rfl) ?_
    skip
    refine Ent.known 69 true (by rfl) (by exact (decide_eq_true rfl)) ?_
    refine Rg.ev 14 (by rfl) (fun _ h => h) (Ev.loads 0 (show Oper.op _ = Op.load 35 (Operand.tmp 11) from rfl) (by rfl) (by rfl) (n := 12) (by kernel_rfl) (by rfl) (by rfl)) (by rfl) (some 70) (by rfl) (by kernel_rfl) (by kernel_rfl) (by kernel_rfl) (by kernel_rfl) ?_
    refine Rg.ev 16 (by rfl) (fun _ h => h) (Ev.loads 3 (show Oper.op _ = Op.load 35 (Operand.tmp 8) from rfl) (by rfl) (by rfl) (n := 12) (by kernel_rfl) (by rfl) (by rfl)) (by rfl) (some 72) (by rfl) (by kernel_rfl) (by kernel_rfl) (by kernel_rfl) (by kernel_rfl) ?_
    skip
    refine Rg.does 15 (by rfl) (by kernel_rfl) (Does.read (show Oper.op _ = Op.call { callee := Callee.value (Operand.func 11), args := #[Operand.tmp 70], argTypes := #[35] } from rfl) Tryd.func11 (by kernel_rfl) (by kernel_rfl) (ref_sl v) (by rfl) (by rfl) trivial) (by rfl) (some 71) (by rfl) (by exact fun _ _ h => h) ?_
    rintro _ -
    skip
    refine Rg.does 17 (by rfl) (by kernel_rfl) (Does.read (show Oper.op _ = Op.call { callee := Callee.value (Operand.func 11), args := #[Operand.tmp 72], argTypes := #[35] } from rfl) Tryd.func11 (by kernel_rfl) (by kernel_rfl) (ref_sl q) (by rfl) (by rfl) trivial) (by rfl) (some 73) (by rfl) (by exact fun _ _ h => h) ?_
    rintro _ -
    skip
    refine Rg.does 18 (by rfl) (by kernel_rfl) (Does.read (show Oper.op _ = Op.call { callee := Callee.value (Operand.func 10), args := #[Operand.tmp 71, Operand.tmp 73], argTypes := #[40, 40] } from rfl) Tryd.func10 (by kernel_rfl) (by kernel_rfl) (hds) (by rfl) (by rfl) ⟨ReadsIn.rd 1 (by rfl), ReadsIn.rd 2 (by rfl), ReadsIn.rd 4 (by rfl), ReadsIn.rd 5 (by rfl), trivial⟩) (by rfl) (some 74) (by rfl) (by exact fun _ _ h => h) ?_
    rintro _ -
    refine Rg.ev 19 (by rfl) (fun _ h => h) (Ev.pickT (show Oper.op _ = Op.pick (Operand.tmp 69) (Operand.tmp 74) (Operand.const (Value.bool false)) from rfl) (by rfl) (by rfl)) (by rfl) (some 75) (by rfl) (by kernel_rfl) (by kernel_rfl) (by kernel_rfl) (by kernel_rfl) ?_
    refine Rg.ev 20 (by rfl) (fun _ h => h) (Ev.assign (show Oper.op _ = Op.assign (Operand.tmp 75) from rfl) (by rfl)) (by rfl) (some 4) (by rfl) (by kernel_rfl) (by kernel_rfl) (by kernel_rfl) (by kernel_rfl) ?_
    refine Rg.done (by kernel_rfl) ?_ _
    refine Cd.ret ?_
    refine Ent.ret (()) (trivial) (Res.tmp (by rfl) (by rfl)) ?_ [] (by rfl) ?_
    · rfl
    · rfl
end Go.Proofs.YtemcigoelcblbaaDoor
/- A law over laid variables: the row's step, once for all. -/
namespace Go.Proofs.YtemcigoelcblbaaDoor
open Go.ChangeShapes Go.WideShapes Go.ChangeAt Go.RowKit

/-- A law that answers true and writes nothing that was there, over laid variables: its row's step, in either form. -/
theorem lift_laid {C : Checked} {os : Os} {f : FuncId} {fn : Func} {s : ChangeSpec} {sp : OpenSpec} {H : Type} {enc : TypeId × Value → H} {conds : List PathCond} {tb : TypeId} {F : Stop.Interp} {laid : List (String × DataW Unit)} (ts : Array TypeId)
    (hbare : sp.bare.plain.varTypes C.prog = []) (hat : (sp.at F) = s)
    (own : ownKnob C.prog.godebug = none) (lo : laidOutB C.prog = true) (started : os.Started) (noInit : C.prog.inits.idxOf? f = none) (hfn : C.prog.funcs[f]? = some fn)
    (witness : ∃ (w : World) (tape : Tape) (i : Input), w.os = os ∧ (w.forCall tape i).Shaped C.prog ∧ i.vars = [] ∧ Input.okWide C.prog (w.forCall tape i) .any w.heap.size f i ∧
      sp.preRow enc C.prog fn conds false laid (w.forCall tape i).memory i.args ∧ ({} : Assume).holds C.prog (lone (Frame.enter C.prog f i.args .normal) [] (w.forCall tape i)))
    (hts : fn.params = ts) (hrow : rowed C.prog ts.toList = true) (hvars : s.vars = []) (hvars2 : sp.vars = []) (hres : fn.resultTypes = #[tb]) (hb : C.prog.underlying tb = some .bool)
    (hs : ∀ ds : List (DataW H), ds.length = ts.toList.length → s.fn H ds = { results := [.lit (.bool true)], args := ds })
    (walk : ∀ (W : World) (args : Array Value) (ds : List (DataW H)) (p : List MemPlace), laidMetH C.prog laid W → W.ShapedOpen C.prog → Vals C.prog W ts.toList args.toList →
      DataW.TrodAll enc C.prog W 0 (fun _ => true) true ts.toList args.toList ds p → (∀ k, sp.cond = some k → k H ds = true) →
      Calls C.prog f args W fun e W' => e = .returned (.bool true) ∧ Below W.heap.size W W') :
    ReturnsInHanded {} C os f .any (sp.preRow enc C.prog fn conds false laid) ((sp.at F).post enc C.prog fn false true false false) := by
  refine returnsInHanded_of_row own started noInit hfn witness ?_
  intro W base args ds gs before hval hW _ hk hsz hL hsh _
  subst hts
  rw [hvars2] at hW
  have hW' : DataW.Whole enc C.prog fn.params.toList s.vars false W args.toList ds gs before := by rw [hvars]; exact hW
  have hW2 := hW'
  obtain ⟨p, q, hA, hV, rfl, _, _⟩ := hW2
  rw [hvars] at hV
  obtain ⟨rfl, rfl⟩ := trodVars_none hV
  rw [hbare, List.append_nil, List.append_nil] at hsz
  have hv := vals_of_trodAll (fun j t v hj hj' => hval j t v (by simpa using hj) (by simpa using hj')) hA (fun n hn => by simpa using List.all_eq_true.1 hsz n hn)
  refine (walk W args ds p hL hsh hv hA (fun k h => by simpa using hk k h)).mono fun e W' ⟨he, bel⟩ => ?_
  subst he
  have hfn' : s.fn H (ds ++ []) = { results := [.lit (.bool true)], args := ds } := by
    rw [List.append_nil]
    exact hs ds (trodAll_length hA).1
  have key : s.post enc C.prog fn false true false false W args (.bool true) W' := by
    refine ⟨ds, [], p ++ [], [], p, [], hW', ?_, ?_, ?_, bel.frame _, fun h => by cases h⟩
    · rw [hfn', hres]
      exact trodAll_mk1 (shut_bool hb true)
    · rw [hfn']
      exact trodAll_below lo bel hrow hA
    · rw [hfn', hvars]
      rfl
  rw [hat]
  exact ⟨_, rfl, key⟩

/-- Pieces that are all read alone. -/
theorem sat0_ro {H : List Chunk} {w : World} (hx : ∀ D ∈ H, D.excl = false) (hh : ∀ D ∈ H, D.holds w) : Sat0 H w :=
  ⟨hh, List.pairwise_iff_getElem.2 fun i j hi hj _ he => by
    rw [hx _ (List.getElem_mem hi), hx _ (List.getElem_mem hj)] at he
    rcases he with he | he <;> cases he⟩
theorem Fn.lawR {P : Program} {f : FuncId} {args : Array Value} {W : World} {H : List Chunk} (hx : ∀ D ∈ H, D.excl = false) (hh : ∀ D ∈ H, D.holds W)
    (h : Fn P f args H Unit (fun _ => .bool true) (fun _ => []) (fun _ => True)) : Calls P f args W fun e w' => e = .returned (.bool true) ∧ Below W.heap.size W w' :=
  (h W (sat0_ro hx hh)).mono fun e w' ⟨_, _, he, hs⟩ => ⟨he, hs.upd.to_below (Nat.le_refl _) fun k _ ⟨D, hD, hd, _⟩ => by rw [hx D hD] at hd; cases hd⟩

/-- A variable that the row lists as an error holds some error. -/
theorem iface_of_head {P : Program} {W : World} {n nm : String} {d : DataW Unit} {r : List (String × DataW Unit)} {g : Nat} {ti : TypeId} {ms : Array (String × TypeId)} (h : laidMet P ((n, .iface nm d) :: r) W)
    (hg : P.globalNamed n = some g) (ht : (P.globals[g]?).map (·.type) = some ti) (hi : P.underlying ti = some (.interface ms)) : ∃ tp p, W.var? P n = some #[.iface tp p] := by
  obtain ⟨ps, ⟨g0, t0, cs0, f0, p0, q0, hg0, ht0, hv0, hd0, _, _⟩, _, _⟩ := h
  obtain rfl := Option.some.inj (hg.symm.trans hg0)
  obtain rfl := Option.some.inj (ht.symm.trans ht0)
  obtain ⟨_, u, v, e, _, _⟩ := iface_of_trod hi hd0
  obtain ⟨l0⟩ := cs0
  subst e
  exact ⟨u, v, hv0⟩

def lawsLaid : List (String × DataW Unit) := [("math/bits.deBruijn32tab", Rows.laid_math_bits_deBruijn32tab), ("math/bits.deBruijn64tab", Rows.laid_math_bits_deBruijn64tab), ("internal/strconv.uint64pow10", Rows.laid_internal_strconv_uint64pow10), ("unicode/utf8.acceptRanges", Rows.laid_unicode_utf8_acceptRanges), ("strconv.ErrRange", Rows.laid_strconv_ErrRange), ("strconv.ErrSyntax", Rows.laid_strconv_ErrSyntax), ("unicode/utf8.first", Rows.laid_unicode_utf8_first)]
theorem pow10_data : (Rows.laid_internal_strconv_uint64pow10 : DataW Unit) = Lib.tabData .u64 Lib.pow10Tab := by kernel_rfl
theorem laidH_of_row {W : World} (h : laidMetH Tryd.prog lawsLaid W) (hsh : W.ShapedOpen Tryd.prog) : laidH W := by
  rw [MakeChecks.laidMetH_plain _ _ _ (by kernel_rfl)] at h
  have h2 : laidMet Tryd.prog (("internal/strconv.uint64pow10", Lib.tabData .u64 Lib.pow10Tab) :: lawsLaid.drop 3) W := by
    rw [← pow10_data]
    exact h.tail.tail
  refine ⟨?_, ?_, ?_, ?_⟩
  · exact cell_of_shapedOpen_int (t := 3) (zero := #[.int .i64 0]) hsh (of_decide_eq_true (by kernel_rfl)) (by kernel_rfl) rfl (by kernel_rfl) (by kernel_rfl) Tryd.underlying3
  · exact Lib.tabIs_of_head gT (by kernel_rfl) Tryd.underlying145 Tryd.underlying122 (by kernel_rfl) (by kernel_rfl) h2
  · exact iface_of_head h.tail.tail.tail.tail.tail gS (by kernel_rfl) Tryd.underlying94
  · exact iface_of_head h.tail.tail.tail.tail gR (by kernel_rfl) Tryd.underlying94

/-! ### one start that fits -/
/-- The cells of a table, as the row lists it. -/
def flatD : Nat → DataW Unit → List Value
  | 0, _ => []
  | _ + 1, .lit (.int k m) => [.int k m]
  | n + 1, .agg ps => ps.flatMap (flatD n)
  | _ + 1, _ => []
noncomputable def low : Nat := (World.holding Tryd.prog default ⟨#[], #[], []⟩).heap.size
def putG (cs : List Value) : Obj → Obj
  | .cells _ t frozen => .cells cs.toArray t frozen
  | o => o
noncomputable def laidWorld (os : Os) : World :=
  let w0 := World.holding Tryd.prog os ⟨#[.cells #[.string (txt [118, 97, 108, 117, 101, 32, 111, 117, 116, 32, 111, 102, 32, 114, 97, 110, 103, 101])] 143, .cells #[.string (txt [105, 110, 118, 97, 108, 105, 100, 32, 115, 121, 110, 116, 97, 120])] 143], #[], []⟩
  { w0 with heap := ((((((w0.heap.modify 6 (putG (flatD 3 Rows.laid_math_bits_deBruijn32tab))).modify 7 (putG (flatD 3 Rows.laid_math_bits_deBruijn64tab))).modify 5 (putG (flatD 3 Rows.laid_internal_strconv_uint64pow10))).modify 4 (putG (flatD 3 Rows.laid_unicode_utf8_acceptRanges))).modify 3 (putG (flatD 3 Rows.laid_unicode_utf8_first))).modify 2 (putG [.iface 141 (.pointer (some ⟨low, 0, none⟩))])).modify 1 (putG [.iface 141 (.pointer (some ⟨low + 1, 0, none⟩))]) }
theorem laid_met (os : Os) (args : Array Value) : laidMet Tryd.prog lawsLaid ((laidWorld os).forCall (fun _ _ => 0) ⟨#[], args, []⟩).memory :=
  laidMet_of_run' 8 (by kernel_rfl) (by kernel_rfl)
theorem laid_metH (os : Os) (args : Array Value) : laidMetH Tryd.prog lawsLaid ((laidWorld os).forCall (fun _ _ => 0) ⟨#[], args, []⟩).memory := by
  rw [MakeChecks.laidMetH_plain _ _ _ (by kernel_rfl)]
  exact laid_met os args
theorem own_none : ownKnob Tryd.prog.godebug = none := by kernel_rfl
theorem laid_outB : laidOutB Tryd.prog = true := by kernel_rfl
end Go.Proofs.YtemcigoelcblbaaDoor
