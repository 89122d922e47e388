/- rpc over pieces: the fixed fact; a law's own copy -/
import Derived.Test.YtgidkjfakecniaaRsE
namespace Go.Proofs.Ytgidkjfakecniaa
open Go.RowKit
set_option maxHeartbeats 1000000 in
theorem awake_sl : Fn Try.prog 9 #[] [] Unit (fun _ => .bool true) (fun _ => []) (fun _ => True) := by
  refine Fn.enter Try.func9 rfl Try.ntmps9 (by rfl) ?_
  intro w0
  refine Cd.seq ?_
  refine Cd.region ?_
  refine Ls.ev (some 0) (Ev.assign (show Oper.op _ = Op.assign (Operand.const (Value.bool false)) from rfl) (by rfl)) (by rfl) (by rfl) ?_
  refine Ls.nil ?_
  refine Cd.seq ?_
  refine Cd.region ?_
  refine Ls.does (some 9) (Does.call [] (show Oper.op _ = Op.call { callee := Callee.value (Operand.func 8), args := #[Operand.const (Value.int IntKind.i64 1000)], argTypes := #[3] } from rfl) Try.func8 (by kernel_rfl) (by kernel_rfl) (new_sl 1000) (by rfl) (by rfl) (by rfl)) (by rfl) (by rfl) ?_
  intro g _
  skip
  refine Ls.does (some 10) (Does.call [0] (show Oper.op _ = Op.call { callee := Callee.value (Operand.func 22), args := #[], argTypes := #[] } from rfl) Try.func22 (by kernel_rfl) (by kernel_rfl) (newWindow_sl) (by rfl) (by rfl) (by rfl)) (by rfl) (by rfl) ?_
  intro p _
  refine Ls.ev (some 1) (Ev.assign (show Oper.op _ = Op.assign (Operand.tmp 9) from rfl) (by rfl)) (by rfl) (by rfl) ?_
  refine Ls.ev (some 2) (Ev.assign (show Oper.op _ = Op.assign (Operand.tmp 10) from rfl) (by rfl)) (by rfl) (by rfl) ?_
  refine Ls.nil ?_
  refine Cd.seq ?_
  refine Cd.seq ?_
  refine Cd.region ?_
  refine Ls.ev (some 11) (Ev.move (show Oper.op _ = Op.move (Operand.tmp 1) from rfl) (by rfl)) (by rfl) (by rfl) ?_
  refine Ls.ev (some 12) (Ev.ptrNil (show Oper.op _ = Op.binOp BinOp.eql 28 (Operand.tmp 11) (Operand.const (Value.pointer none)) 28 from rfl) (by rfl) (by rfl) Try.underlying28) (by rfl) (by rfl) ?_
  refine Ls.ev (some 13) (Ev.move (show Oper.op _ = Op.move (Operand.tmp 12) from rfl) (by rfl)) (by rfl) (by rfl) ?_
  refine Ls.ev (some 14) (Ev.move (show Oper.op _ = Op.move (Operand.tmp 2) from rfl) (by rfl)) (by rfl) (by rfl) ?_
  refine Ls.ev (some 15) (Ev.ptrNil (show Oper.op _ = Op.binOp BinOp.eql 66 (Operand.tmp 14) (Operand.const (Value.pointer none)) 66 from rfl) (by rfl) (by rfl) Try.underlying66) (by rfl) (by rfl) ?_
  refine Ls.ev (some 16) (Ev.pickF (show Oper.op _ = Op.pick (Operand.tmp 13) (Operand.const (Value.bool true)) (Operand.tmp 15) from rfl) (by rfl) (by rfl)) (by rfl) (by rfl) ?_
  refine Ls.nil ?_
  refine Cd.cond_false (by rfl) (rfl) ?_
  refine Cd.skip ?_
  refine Cd.seq ?_
  refine Cd.region ?_
  refine Ls.ev (some 18) (Ev.move (show Oper.op _ = Op.move (Operand.tmp 1) from rfl) (by rfl)) (by rfl) (by rfl) ?_
  refine Ls.ev (some 19) (Ev.buildP (pl := [(0, 1), (1, 1), (2, 2)]) (zs := [.int .i64 0, .int .i64 0, .int .i64 0, .slice none 0 0]) (show Oper.op _ = Op.build 27 #[(0, Operand.const (Value.int IntKind.i64 6))] from rfl) (by rfl) (by kernel_rfl) (by rfl)) (by rfl) (by rfl) ?_
  refine Ent.map (fun w h => h.rdNil) ?_
  refine Ls.does (some 20) (Does.call [4, 0, 1, 2, 3] (show Oper.op _ = Op.call { callee := Callee.value (Operand.func 10), args := #[Operand.tmp 18, Operand.const (Value.int IntKind.i64 2), Operand.tmp 19], argTypes := #[28, 3, 27] } from rfl) Try.func10 (by kernel_rfl) (by kernel_rfl) (call_sl g 1000 0 0 0 0 0 0 0 0 0 0 2 6 0 0 none none 0 0 0 0 [] (by decide) (by decide)) (by rfl) (by rfl) (by rfl)) (by rfl) (by rfl) ?_
  intro q _
  refine Ls.ev (some 17) (Ev.move (show Oper.op _ = Op.move (Operand.tmp 20) from rfl) (by rfl)) (by rfl) (by rfl) ?_
  refine Ls.ev (some 21) (Ev.extract (show Oper.op _ = Op.extract (Operand.tmp 17) 0 from rfl) (by rfl) (by rfl)) (by rfl) (by rfl) ?_
  refine Ls.ev (some 22) (Ev.extract (show Oper.op _ = Op.extract (Operand.tmp 17) 1 from rfl) (by rfl) (by rfl)) (by rfl) (by rfl) ?_
  refine Ls.does (some 3) (Does.alloc (cs := [.int .i64 0, .int .i64 0, .int .i64 0, .int .i64 0, .int .i64 0, .int .i64 0, .int .i64 0, .slice none 0 0, .slice none 0 0, .bool false, .int .i64 0, .int .i64 0, .int .i64 0, .int .i64 0, .slice none 0 0, .int .i64 0, .int .i64 0, .int .i64 0, .slice none 0 0]) (show Oper.op _ = Op.alloc 41 from rfl) (ZeroIs.mk (.agg #[.int .i64 0, .int .i64 0, .int .i64 0, .int .i64 0, .int .i64 0, .int .i64 0, .int .i64 0, .slice none 0 0, .slice none 0 0, .bool false, .int .i64 0, .int .i64 0, .int .i64 0, .int .i64 0, .slice none 0 0, .int .i64 0, .int .i64 0, .int .i64 0, .slice none 0 0]) (by kernel_rfl) (by rfl))) (by rfl) (by rfl) ?_
  intro g1 _
  refine Ls.does none (Does.store 0 (show Oper.op _ = Op.store 41 (Operand.tmp 3) (Operand.tmp 21) from rfl) (by rfl) (by rfl) (by rfl) (by kernel_rfl) (by rfl) (by kernel_rfl) (by rfl)) (by rfl) (by rfl) ?_
  intro _ _
  refine Ls.ev (some 4) (Ev.assign (show Oper.op _ = Op.assign (Operand.tmp 22) from rfl) (by rfl)) (by rfl) (by rfl) ?_
  refine Ls.nil ?_
  refine Cd.seq ?_
  refine Cd.region ?_
  refine Ls.ev (some 24) (Ev.move (show Oper.op _ = Op.move (Operand.tmp 2) from rfl) (by rfl)) (by rfl) (by rfl) ?_
  refine Ls.does (some 25) (Does.call [4, 5, 6, 0, 1, 2, 3] (show Oper.op _ = Op.call { callee := Callee.value (Operand.func 25), args := #[Operand.tmp 24, Operand.const (Value.int IntKind.i64 7), Operand.const (Value.int IntKind.i64 3)], argTypes := #[66, 3, 3] } from rfl) Try.func25 (by kernel_rfl) (by kernel_rfl) (see_new p.1 p.2 0 (fun _ => SeenD.zero) 7 3 (by decide) (by decide) (by decide)) (by rfl) (by rfl) (by rfl)) (by rfl) (by rfl) ?_
  intro _ _
  refine Ls.ev (some 23) (Ev.move (show Oper.op _ = Op.move (Operand.tmp 25) from rfl) (by rfl)) (by rfl) (by rfl) ?_
  refine Ls.ev (some 26) (Ev.extract (show Oper.op _ = Op.extract (Operand.tmp 23) 0 from rfl) (by rfl) (by rfl)) (by rfl) (by rfl) ?_
  refine Ls.ev (some 27) (Ev.extract (show Oper.op _ = Op.extract (Operand.tmp 23) 1 from rfl) (by rfl) (by rfl)) (by rfl) (by rfl) ?_
  refine Ls.does (some 6) (Does.alloc (cs := [.int .i64 0, .int .i64 0, .int .i64 0, .slice none 0 0]) (show Oper.op _ = Op.alloc 39 from rfl) (ZeroIs.mk (.agg #[.int .i64 0, .int .i64 0, .int .i64 0, .slice none 0 0]) (by kernel_rfl) (by rfl))) (by rfl) (by rfl) ?_
  intro g2 _
  refine Ls.ev (some 5) (Ev.assign (show Oper.op _ = Op.assign (Operand.tmp 26) from rfl) (by rfl)) (by rfl) (by rfl) ?_
  refine Ls.does none (Does.store 0 (show Oper.op _ = Op.store 39 (Operand.tmp 6) (Operand.tmp 27) from rfl) (by rfl) (by rfl) (by rfl) (by kernel_rfl) (by rfl) (by kernel_rfl) (by rfl)) (by rfl) (by rfl) ?_
  intro _ _
  refine Ls.nil ?_
  refine Cd.seq ?_
  refine Cd.region ?_
  refine Ls.ev (some 29) (Ev.move (show Oper.op _ = Op.move (Operand.tmp 2) from rfl) (by rfl)) (by rfl) (by rfl) ?_
  refine Ls.does (some 30) (Does.call [1, 2, 3, 0, 4, 5, 6, 7] (show Oper.op _ = Op.call { callee := Callee.value (Operand.func 25), args := #[Operand.tmp 29, Operand.const (Value.int IntKind.i64 7), Operand.const (Value.int IntKind.i64 3)], argTypes := #[66, 3, 3] } from rfl) Try.func25 (by kernel_rfl) (by kernel_rfl) (see_run p.1 p.2 1 (upd (fun _ => SeenD.zero) 7 (newD 3)) 7 3 (by decide) rfl (by decide) rfl) (by rfl) (by rfl) (by rfl)) (by rfl) (by rfl) ?_
  intro _ _
  refine Ls.ev (some 28) (Ev.move (show Oper.op _ = Op.move (Operand.tmp 30) from rfl) (by rfl)) (by rfl) (by rfl) ?_
  refine Ls.ev (some 31) (Ev.extract (show Oper.op _ = Op.extract (Operand.tmp 28) 0 from rfl) (by rfl) (by rfl)) (by rfl) (by rfl) ?_
  refine Ls.ev (some 32) (Ev.extract (show Oper.op _ = Op.extract (Operand.tmp 28) 1 from rfl) (by rfl) (by rfl)) (by rfl) (by rfl) ?_
  refine Ls.does (some 8) (Does.alloc (cs := [.int .i64 0, .int .i64 0, .int .i64 0, .slice none 0 0]) (show Oper.op _ = Op.alloc 39 from rfl) (ZeroIs.mk (.agg #[.int .i64 0, .int .i64 0, .int .i64 0, .slice none 0 0]) (by kernel_rfl) (by rfl))) (by rfl) (by rfl) ?_
  intro g3 _
  refine Ls.ev (some 7) (Ev.assign (show Oper.op _ = Op.assign (Operand.tmp 31) from rfl) (by rfl)) (by rfl) (by rfl) ?_
  refine Ls.does none (Does.store 0 (show Oper.op _ = Op.store 39 (Operand.tmp 8) (Operand.tmp 32) from rfl) (by rfl) (by rfl) (by rfl) (by kernel_rfl) (by rfl) (by kernel_rfl) (by rfl)) (by rfl) (by rfl) ?_
  intro _ _
  refine Ls.nil ?_
  refine Cd.seq ?_
  refine Cd.region ?_
  refine Ls.ev (some 33) (Ev.move (show Oper.op _ = Op.move (Operand.tmp 4) from rfl) (by rfl)) (by rfl) (by rfl) ?_
  refine Ls.ev (some 34) (Ev.eql (show Oper.op _ = Op.binOp BinOp.eql 37 (Operand.tmp 33) (Operand.const (Value.int IntKind.i64 0)) 37 from rfl) (by rfl) (by rfl)) (by rfl) (by rfl) ?_
  refine Ls.ev (some 35) (Ev.move (show Oper.op _ = Op.move (Operand.tmp 34) from rfl) (by rfl)) (by rfl) (by rfl) ?_
  refine Ls.ev (some 36) (Ev.fieldAddr (k := 10) (show Oper.op _ = Op.fieldAddr 41 (Operand.tmp 3) 6 from rfl) (by rfl) (by kernel_rfl) (by rfl)) (by rfl) (by rfl) ?_
  refine Ls.ev (some 37) (Ev.load 5 (show Oper.op _ = Op.load 3 (Operand.tmp 36) from rfl) (by rfl) (by rfl) (by kernel_rfl) (by rfl)) (by rfl) (by rfl) ?_
  refine Ls.ev (some 38) (Ev.eql (show Oper.op _ = Op.binOp BinOp.eql 3 (Operand.tmp 37) (Operand.const (Value.int IntKind.i64 1)) 3 from rfl) (by rfl) (by rfl)) (by rfl) (by rfl) ?_
  refine Ls.ev (some 39) (Ev.pickT (show Oper.op _ = Op.pick (Operand.tmp 35) (Operand.tmp 38) (Operand.const (Value.bool false)) from rfl) (by rfl) (by rfl)) (by rfl) (by rfl) ?_
  refine Ls.ev (some 40) (Ev.move (show Oper.op _ = Op.move (Operand.tmp 39) from rfl) (by rfl)) (by rfl) (by rfl) ?_
  refine Ls.ev (some 41) (Ev.fieldAddr (k := 1) (show Oper.op _ = Op.fieldAddr 41 (Operand.tmp 3) 1 from rfl) (by rfl) (by kernel_rfl) (by rfl)) (by rfl) (by rfl) ?_
  refine Ls.ev (some 42) (Ev.load 5 (show Oper.op _ = Op.load 3 (Operand.tmp 41) from rfl) (by rfl) (by rfl) (by kernel_rfl) (by rfl)) (by rfl) (by rfl) ?_
  refine Ls.ev (some 43) (Ev.eql (show Oper.op _ = Op.binOp BinOp.eql 3 (Operand.tmp 42) (Operand.const (Value.int IntKind.i64 2)) 3 from rfl) (by rfl) (by rfl)) (by rfl) (by rfl) ?_
  refine Ls.ev (some 44) (Ev.pickT (show Oper.op _ = Op.pick (Operand.tmp 40) (Operand.tmp 43) (Operand.const (Value.bool false)) from rfl) (by rfl) (by rfl)) (by rfl) (by rfl) ?_
  refine Ls.ev (some 45) (Ev.move (show Oper.op _ = Op.move (Operand.tmp 44) from rfl) (by rfl)) (by rfl) (by rfl) ?_
  refine Ls.ev (some 46) (Ev.move (show Oper.op _ = Op.move (Operand.tmp 1) from rfl) (by rfl)) (by rfl) (by rfl) ?_
  refine Ls.does (some 47) (Does.call [6, 7, 0, 1, 2, 3, 4, 5, 8] (show Oper.op _ = Op.call { callee := Callee.value (Operand.func 12), args := #[Operand.tmp 46, Operand.const (Value.int IntKind.i64 2)], argTypes := #[28, 3] } from rfl) Try.func12 (by kernel_rfl) (by kernel_rfl) (tick_sl g 1000 1 true 1000 2 6 1 6 0 0 1 2 2 _ 0 _ [] (by decide) (by decide) (by decide)) (by rfl) (by rfl) (by rfl)) (by rfl) (by rfl) ?_
  rintro ⟨r, ms⟩ hms
  obtain ⟨m, rfl⟩ : ∃ m, ms = [m] := List.length_eq_one_iff.1 (hms.trans (by decide))
  refine Ls.ev (some 48) (Ev.len (show Oper.op _ = Op.call { callee := Callee.builtin Builtin.len, args := #[Operand.tmp 47], argTypes := #[46] } from rfl) (by rfl) Try.underlying46) (by rfl) (by rfl) ?_
  refine Ls.ev (some 49) (Ev.eql (show Oper.op _ = Op.binOp BinOp.eql 3 (Operand.tmp 48) (Operand.const (Value.int IntKind.i64 1)) 3 from rfl) (by rfl) (by rfl)) (by rfl) (by rfl) ?_
  refine Ls.ev (some 50) (Ev.pickT (show Oper.op _ = Op.pick (Operand.tmp 45) (Operand.tmp 49) (Operand.const (Value.bool false)) from rfl) (by rfl) (by rfl)) (by rfl) (by rfl) ?_
  refine Ls.ev (some 51) (Ev.move (show Oper.op _ = Op.move (Operand.tmp 50) from rfl) (by rfl)) (by rfl) (by rfl) ?_
  refine Ls.ev (some 52) (Ev.move (show Oper.op _ = Op.move (Operand.tmp 1) from rfl) (by rfl)) (by rfl) (by rfl) ?_
  refine Ls.does (some 53) (Does.call [0] (show Oper.op _ = Op.call { callee := Callee.value (Operand.func 14), args := #[Operand.tmp 52], argTypes := #[28] } from rfl) Try.func14 (by kernel_rfl) (by kernel_rfl) (busy_sl g 1000 1 true 1000 2 6 1 6 0 0 2 4 _ 0 _) (by rfl) (by rfl) (by rfl)) (by rfl) (by rfl) ?_
  intro _ _
  refine Ls.ev (some 54) (Ev.pickT (show Oper.op _ = Op.pick (Operand.tmp 51) (Operand.tmp 53) (Operand.const (Value.bool false)) from rfl) (by rfl) (by rfl)) (by rfl) (by rfl) ?_
  refine Ls.ev (some 55) (Ev.move (show Oper.op _ = Op.move (Operand.tmp 54) from rfl) (by rfl)) (by rfl) (by rfl) ?_
  refine Ls.ev (some 56) (Ev.move (show Oper.op _ = Op.move (Operand.tmp 5) from rfl) (by rfl)) (by rfl) (by rfl) ?_
  refine Ls.ev (some 57) (Ev.eql (show Oper.op _ = Op.binOp BinOp.eql 70 (Operand.tmp 56) (Operand.const (Value.int IntKind.i64 1)) 70 from rfl) (by rfl) (by rfl)) (by rfl) (by rfl) ?_
  refine Ls.ev (some 58) (Ev.pickT (show Oper.op _ = Op.pick (Operand.tmp 55) (Operand.tmp 57) (Operand.const (Value.bool false)) from rfl) (by rfl) (by rfl)) (by rfl) (by rfl) ?_
  refine Ls.ev (some 59) (Ev.move (show Oper.op _ = Op.move (Operand.tmp 58) from rfl) (by rfl)) (by rfl) (by rfl) ?_
  refine Ls.ev (some 60) (Ev.move (show Oper.op _ = Op.move (Operand.tmp 7) from rfl) (by rfl)) (by rfl) (by rfl) ?_
  refine Ls.ev (some 61) (Ev.eql (show Oper.op _ = Op.binOp BinOp.eql 70 (Operand.tmp 60) (Operand.const (Value.int IntKind.i64 3)) 70 from rfl) (by rfl) (by rfl)) (by rfl) (by rfl) ?_
  refine Ls.ev (some 62) (Ev.pickT (show Oper.op _ = Op.pick (Operand.tmp 59) (Operand.tmp 61) (Operand.const (Value.bool false)) from rfl) (by rfl) (by rfl)) (by rfl) (by rfl) ?_
  refine Ls.ev (some 0) (Ev.assign (show Oper.op _ = Op.assign (Operand.tmp 62) from rfl) (by rfl)) (by rfl) (by rfl) ?_
  refine Ls.nil ?_
  refine Cd.ret ?_
  refine Ent.ret (()) (trivial) (Res.tmp (by rfl) (by rfl)) ?_ [] (by rfl) ?_
  · rfl
  · rfl
end Go.Proofs.Ytgidkjfakecniaa
