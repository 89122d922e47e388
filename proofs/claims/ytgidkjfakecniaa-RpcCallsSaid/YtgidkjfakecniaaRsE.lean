/- rpc over pieces: See, Answer -/
import Derived.Test.YtgidkjfakecniaaRsD
namespace Go.Proofs.Ytgidkjfakecniaa
open Go.RowKit
def newD (id : Int) : SeenD := ⟨id, false, 0, 0, 0, none, 0, []⟩
def zrep : Value := repV 0 0 0 none 0 0

theorem see_new (g b n : Nat) (S : Int → SeenD) (q id : Int) (hq : -9223372036854775808 ≤ q ∧ q ≤ 9223372036854775807) (hn : n < 1000000) (h1 : (S q).id < id) :
    Fn Try.prog 25 #[.pointer (some ⟨g, 0, none⟩), .int .i64 q, .int .i64 id] [winB g b, winM b n S, winS S] Unit (fun _ => .tuple #[.int .i64 1, zrep]) (fun _ => [winB g b, winM b (n + 1) (upd S q (newD id)), winS (upd S q (newD id))]) (fun _ => True) := by
  refine Fn.enter Try.func25 rfl Try.ntmps25 (by rfl) ?_
  intro w0
  refine Cd.seq ?_
  refine Cd.region ?_
  refine Ls.ev (some 6) (Ev.assign (show Oper.op _ = Op.assign (Operand.const (Value.int IntKind.i64 0)) from rfl) (by rfl)) (by rfl) (by rfl) ?_
  refine Ls.does (some 7) (Does.alloc (cs := [.int .i64 0, .int .i64 0, .int .i64 0, .slice none 0 0]) (show Oper.op _ = Op.alloc 39 from rfl) (ZeroIs.mk (.agg #[.int .i64 0, .int .i64 0, .int .i64 0, .slice none 0 0]) (by kernel_rfl) (by rfl))) (by rfl) (by rfl) ?_
  intro g1 _
  refine Ls.nil ?_
  refine Cd.seq ?_
  refine Cd.region ?_
  refine Ls.ev (some 12) (Ev.move (show Oper.op _ = Op.move (Operand.tmp 0) from rfl) (by rfl)) (by rfl) (by rfl) ?_
  refine Ls.ev (some 13) (Ev.nilCheck (show Oper.op _ = Op.nilCheck (Operand.tmp 12) from rfl) (by rfl)) (by rfl) (by rfl) ?_
  refine Ls.ev (some 14) (Ev.fieldAddr (k := 0) (show Oper.op _ = Op.fieldAddr 97 (Operand.tmp 13) 0 from rfl) (by rfl) (by kernel_rfl) (by rfl)) (by rfl) (by rfl) ?_
  refine Ls.ev (some 15) (Ev.load 1 (show Oper.op _ = Op.load 95 (Operand.tmp 14) from rfl) (by rfl) (by rfl) (by kernel_rfl) (by rfl)) (by rfl) (by rfl) ?_
  refine Ls.ev (some 16) (Ev.move (show Oper.op _ = Op.move (Operand.tmp 1) from rfl) (by rfl)) (by rfl) (by rfl) ?_
  refine Ls.ev (some 17) (Ev.look 2 (show Oper.op _ = Op.lookup 95 (Operand.tmp 15) (Operand.tmp 16) false from rfl) (by rfl) (by rfl) (by rfl) Try.underlying3 Try.underlying95 (zero_of (by kernel_rfl)) (by assumption)) (by rfl) (by rfl) ?_
  refine Ls.does (some 8) (Does.alloc (cs := [.int .i64 0, .bool false, .int .i64 0, .int .i64 0, .int .i64 0, .slice none 0 0]) (show Oper.op _ = Op.alloc 99 from rfl) (ZeroIs.mk (.agg #[.int .i64 0, .bool false, .int .i64 0, .int .i64 0, .int .i64 0, .slice none 0 0]) (by kernel_rfl) (by rfl))) (by rfl) (by rfl) ?_
  intro g2 _
  refine Ls.does none (Does.store 0 (show Oper.op _ = Op.store 99 (Operand.tmp 8) (Operand.tmp 17) from rfl) (by rfl) (by rfl) (by rfl) (by kernel_rfl) (by rfl) (by kernel_rfl) (by rfl)) (by rfl) (by rfl) ?_
  intro _ _
  refine Ls.nil ?_
  refine Cd.seq ?_
  refine Cd.block ?_
  refine Cd.seq ?_
  refine Cd.region ?_
  refine Ls.ev (some 19) (Ev.move (show Oper.op _ = Op.move (Operand.tmp 2) from rfl) (by rfl)) (by rfl) (by rfl) ?_
  refine Ls.ev (some 20) (Ev.fieldAddr (k := 0) (show Oper.op _ = Op.fieldAddr 99 (Operand.tmp 8) 0 from rfl) (by rfl) (by kernel_rfl) (by rfl)) (by rfl) (by rfl) ?_
  refine Ls.ev (some 21) (Ev.load 0 (show Oper.op _ = Op.load 3 (Operand.tmp 20) from rfl) (by rfl) (by rfl) (by kernel_rfl) (by rfl)) (by rfl) (by rfl) ?_
  refine Ls.ev (some 22) (Ev.gtr (show Oper.op _ = Op.binOp BinOp.gtr 3 (Operand.tmp 19) (Operand.tmp 21) 3 from rfl) (by rfl) (by rfl)) (by rfl) (by rfl) ?_
  refine Ls.ev (some 18) (Ev.assign (show Oper.op _ = Op.assign (Operand.tmp 22) from rfl) (by rfl)) (by rfl) (by rfl) ?_
  refine Ls.nil ?_
  refine Cd.cond_true (by rfl) (decide_eq_true h1) ?_
  refine Cd.seq ?_
  refine Cd.region ?_
  refine Ls.ev (some 23) (Ev.move (show Oper.op _ = Op.move (Operand.tmp 0) from rfl) (by rfl)) (by rfl) (by rfl) ?_
  refine Ls.ev (some 24) (Ev.nilCheck (show Oper.op _ = Op.nilCheck (Operand.tmp 23) from rfl) (by rfl)) (by rfl) (by rfl) ?_
  refine Ls.ev (some 25) (Ev.fieldAddr (k := 0) (show Oper.op _ = Op.fieldAddr 97 (Operand.tmp 24) 0 from rfl) (by rfl) (by kernel_rfl) (by rfl)) (by rfl) (by rfl) ?_
  refine Ls.ev (some 26) (Ev.load 2 (show Oper.op _ = Op.load 95 (Operand.tmp 25) from rfl) (by rfl) (by rfl) (by kernel_rfl) (by rfl)) (by rfl) (by rfl) ?_
  refine Ls.ev (some 27) (Ev.move (show Oper.op _ = Op.move (Operand.tmp 1) from rfl) (by rfl)) (by rfl) (by rfl) ?_
  refine Ls.ev (some 28) (Ev.move (show Oper.op _ = Op.move (Operand.tmp 2) from rfl) (by rfl)) (by rfl) (by rfl) ?_
  refine Ls.ev (some 29) (Ev.buildP (pl := [(0, 1), (1, 1), (2, 4)]) (zs := [.int .i64 0, .bool false, .int .i64 0, .int .i64 0, .int .i64 0, .slice none 0 0]) (show Oper.op _ = Op.build 99 #[(0, Operand.tmp 28)] from rfl) (by rfl) (by kernel_rfl) (by rfl)) (by rfl) (by rfl) ?_
  refine Ls.does none (Does.mapPut 3 (show Oper.op _ = Op.mapUpdate 95 (Operand.tmp 26) (Operand.tmp 27) (Operand.tmp 29) from rfl) (by rfl) (by rfl) (by rfl) (by rfl) Try.underlying3 Try.underlying95 (by omega) (by assumption)) (by rfl) (by rfl) ?_
  intro _ _
  refine Ls.nil ?_
  refine Cd.seq ?_
  refine Cd.region ?_
  refine Ls.ev (some 30) (Ev.buildP (pl := [(0, 1), (1, 1), (2, 2)]) (zs := [.int .i64 0, .int .i64 0, .int .i64 0, .slice none 0 0]) (show Oper.op _ = Op.build 39 #[] from rfl) (by rfl) (by kernel_rfl) (by rfl)) (by rfl) (by rfl) ?_
  refine Ls.ev (some 6) (Ev.assign (show Oper.op _ = Op.assign (Operand.const (Value.int IntKind.i64 1)) from rfl) (by rfl)) (by rfl) (by rfl) ?_
  refine Ls.does none (Does.store 1 (show Oper.op _ = Op.store 39 (Operand.tmp 7) (Operand.tmp 30) from rfl) (by rfl) (by rfl) (by rfl) (by kernel_rfl) (by rfl) (by kernel_rfl) (by rfl)) (by rfl) (by rfl) ?_
  intro _ _
  refine Ls.nil ?_
  refine Ent.pick [4, 0, 1, 2, 3] (by rfl) (Ent.map (fun w h => winS_put q (newD id) h.rdNil) ?_)
  refine Cd.ret ?_
  refine Ent.ret (()) (trivial) (Res.tmp_cell 2 (by rfl) (by rfl) (by rfl) (by rfl) (n := 4) (by kernel_rfl) (by rfl) (by rfl)) ?_ [3, 4, 0] (by rfl) ?_
  · rfl
  · exact cons_eq rfl (cons_eq (winM_put b (n + 1) S q (newD id)) rfl)
theorem see_stale (g b n : Nat) (S : Int → SeenD) (q id : Int) (hq : -9223372036854775808 ≤ q ∧ q ≤ 9223372036854775807) (h1 : ¬ (S q).id < id) (h2 : id < (S q).id ∨ id < 1) :
    Fn Try.prog 25 #[.pointer (some ⟨g, 0, none⟩), .int .i64 q, .int .i64 id] [winB g b, winM b n S, winS S] Unit (fun _ => .tuple #[.int .i64 4, zrep]) (fun _ => [winB g b, winM b n S, winS S]) (fun _ => True) := by
  refine Fn.enter Try.func25 rfl Try.ntmps25 (by rfl) ?_
  intro w0
  refine Cd.seq ?_
  refine Cd.region ?_
  refine Ls.ev (some 6) (Ev.assign (show Oper.op _ = Op.assign (Operand.const (Value.int IntKind.i64 0)) from rfl) (by rfl)) (by rfl) (by rfl) ?_
  refine Ls.does (some 7) (Does.alloc (cs := [.int .i64 0, .int .i64 0, .int .i64 0, .slice none 0 0]) (show Oper.op _ = Op.alloc 39 from rfl) (ZeroIs.mk (.agg #[.int .i64 0, .int .i64 0, .int .i64 0, .slice none 0 0]) (by kernel_rfl) (by rfl))) (by rfl) (by rfl) ?_
  intro g1 _
  refine Ls.nil ?_
  refine Cd.seq ?_
  refine Cd.region ?_
  refine Ls.ev (some 12) (Ev.move (show Oper.op _ = Op.move (Operand.tmp 0) from rfl) (by rfl)) (by rfl) (by rfl) ?_
  refine Ls.ev (some 13) (Ev.nilCheck (show Oper.op _ = Op.nilCheck (Operand.tmp 12) from rfl) (by rfl)) (by rfl) (by rfl) ?_
  refine Ls.ev (some 14) (Ev.fieldAddr (k := 0) (show Oper.op _ = Op.fieldAddr 97 (Operand.tmp 13) 0 from rfl) (by rfl) (by kernel_rfl) (by rfl)) (by rfl) (by rfl) ?_
  refine Ls.ev (some 15) (Ev.load 1 (show Oper.op _ = Op.load 95 (Operand.tmp 14) from rfl) (by rfl) (by rfl) (by kernel_rfl) (by rfl)) (by rfl) (by rfl) ?_
  refine Ls.ev (some 16) (Ev.move (show Oper.op _ = Op.move (Operand.tmp 1) from rfl) (by rfl)) (by rfl) (by rfl) ?_
  refine Ls.ev (some 17) (Ev.look 2 (show Oper.op _ = Op.lookup 95 (Operand.tmp 15) (Operand.tmp 16) false from rfl) (by rfl) (by rfl) (by rfl) Try.underlying3 Try.underlying95 (zero_of (by kernel_rfl)) (by assumption)) (by rfl) (by rfl) ?_
  refine Ls.does (some 8) (Does.alloc (cs := [.int .i64 0, .bool false, .int .i64 0, .int .i64 0, .int .i64 0, .slice none 0 0]) (show Oper.op _ = Op.alloc 99 from rfl) (ZeroIs.mk (.agg #[.int .i64 0, .bool false, .int .i64 0, .int .i64 0, .int .i64 0, .slice none 0 0]) (by kernel_rfl) (by rfl))) (by rfl) (by rfl) ?_
  intro g2 _
  refine Ls.does none (Does.store 0 (show Oper.op _ = Op.store 99 (Operand.tmp 8) (Operand.tmp 17) from rfl) (by rfl) (by rfl) (by rfl) (by kernel_rfl) (by rfl) (by kernel_rfl) (by rfl)) (by rfl) (by rfl) ?_
  intro _ _
  refine Ls.nil ?_
  refine Cd.seq ?_
  refine Cd.block ?_
  refine Cd.seq ?_
  refine Cd.region ?_
  refine Ls.ev (some 19) (Ev.move (show Oper.op _ = Op.move (Operand.tmp 2) from rfl) (by rfl)) (by rfl) (by rfl) ?_
  refine Ls.ev (some 20) (Ev.fieldAddr (k := 0) (show Oper.op _ = Op.fieldAddr 99 (Operand.tmp 8) 0 from rfl) (by rfl) (by kernel_rfl) (by rfl)) (by rfl) (by rfl) ?_
  refine Ls.ev (some 21) (Ev.load 0 (show Oper.op _ = Op.load 3 (Operand.tmp 20) from rfl) (by rfl) (by rfl) (by kernel_rfl) (by rfl)) (by rfl) (by rfl) ?_
  refine Ls.ev (some 22) (Ev.gtr (show Oper.op _ = Op.binOp BinOp.gtr 3 (Operand.tmp 19) (Operand.tmp 21) 3 from rfl) (by rfl) (by rfl)) (by rfl) (by rfl) ?_
  refine Ls.ev (some 18) (Ev.assign (show Oper.op _ = Op.assign (Operand.tmp 22) from rfl) (by rfl)) (by rfl) (by rfl) ?_
  refine Ls.nil ?_
  refine Cd.cond_false (by rfl) (decide_eq_false h1) ?_
  refine Cd.seq ?_
  refine Cd.region ?_
  refine Ls.ev (some 32) (Ev.move (show Oper.op _ = Op.move (Operand.tmp 2) from rfl) (by rfl)) (by rfl) (by rfl) ?_
  refine Ls.ev (some 33) (Ev.fieldAddr (k := 0) (show Oper.op _ = Op.fieldAddr 99 (Operand.tmp 8) 0 from rfl) (by rfl) (by kernel_rfl) (by rfl)) (by rfl) (by rfl) ?_
  refine Ls.ev (some 34) (Ev.load 0 (show Oper.op _ = Op.load 3 (Operand.tmp 33) from rfl) (by rfl) (by rfl) (by kernel_rfl) (by rfl)) (by rfl) (by rfl) ?_
  refine Ls.ev (some 35) (Ev.lss (show Oper.op _ = Op.binOp BinOp.lss 3 (Operand.tmp 32) (Operand.tmp 34) 3 from rfl) (by rfl) (by rfl)) (by rfl) (by rfl) ?_
  refine Ls.ev (some 36) (Ev.move (show Oper.op _ = Op.move (Operand.tmp 35) from rfl) (by rfl)) (by rfl) (by rfl) ?_
  refine Ent.split 36 (by rfl) (fun h3 => ?_) (fun h3 => ?_)
  · skip
    have h3 : ¬ id < (S q).id := of_decide_eq_false h3
    refine Ls.ev (some 37) (Ev.move (show Oper.op _ = Op.move (Operand.tmp 2) from rfl) (by rfl)) (by rfl) (by rfl) ?_
    refine Ls.ev (some 38) (Ev.lss (show Oper.op _ = Op.binOp BinOp.lss 3 (Operand.tmp 37) (Operand.const (Value.int IntKind.i64 1)) 3 from rfl) (by rfl) (by rfl)) (by rfl) (by rfl) ?_
    refine Ls.ev (some 39) (Ev.pickF (show Oper.op _ = Op.pick (Operand.tmp 36) (Operand.const (Value.bool true)) (Operand.tmp 38) from rfl) (by rfl) (by rfl)) (by rfl) (by rfl) ?_
    refine Ls.ev (some 31) (Ev.assign (show Oper.op _ = Op.assign (Operand.tmp 39) from rfl) (by rfl)) (by rfl) (by rfl) ?_
    refine Ls.nil ?_
    refine Cd.cond_true (by rfl) (decide_eq_true (h2.resolve_left h3)) ?_
    refine Cd.seq ?_
    refine Cd.region ?_
    refine Ls.ev (some 40) (Ev.buildP (pl := [(0, 1), (1, 1), (2, 2)]) (zs := [.int .i64 0, .int .i64 0, .int .i64 0, .slice none 0 0]) (show Oper.op _ = Op.build 39 #[] from rfl) (by rfl) (by kernel_rfl) (by rfl)) (by rfl) (by rfl) ?_
    refine Ls.ev (some 6) (Ev.assign (show Oper.op _ = Op.assign (Operand.const (Value.int IntKind.i64 4)) from rfl) (by rfl)) (by rfl) (by rfl) ?_
    refine Ls.does none (Does.store 1 (show Oper.op _ = Op.store 39 (Operand.tmp 7) (Operand.tmp 40) from rfl) (by rfl) (by rfl) (by rfl) (by kernel_rfl) (by rfl) (by kernel_rfl) (by rfl)) (by rfl) (by rfl) ?_
    intro _ _
    refine Ls.nil ?_
    refine Cd.ret ?_
    refine Ent.ret (()) (trivial) (Res.tmp_cell 1 (by rfl) (by rfl) (by rfl) (by rfl) (n := 4) (by kernel_rfl) (by rfl) (by rfl)) ?_ [2, 3, 4] (by rfl) ?_
    · rfl
    · rfl
  skip
  refine Ls.pass (some 37) (by rfl) (by rfl) ?_
  refine Ls.pass (some 38) (by rfl) (by rfl) ?_
  refine Ls.ev (some 39) (Ev.pickT (show Oper.op _ = Op.pick (Operand.tmp 36) (Operand.const (Value.bool true)) (Operand.tmp 38) from rfl) (by rfl) (by rfl)) (by rfl) (by rfl) ?_
  refine Ls.ev (some 31) (Ev.assign (show Oper.op _ = Op.assign (Operand.tmp 39) from rfl) (by rfl)) (by rfl) (by rfl) ?_
  refine Ls.nil ?_
  refine Cd.cond_true (by rfl) (rfl) ?_
  refine Cd.seq ?_
  refine Cd.region ?_
  refine Ls.ev (some 40) (Ev.buildP (pl := [(0, 1), (1, 1), (2, 2)]) (zs := [.int .i64 0, .int .i64 0, .int .i64 0, .slice none 0 0]) (show Oper.op _ = Op.build 39 #[] from rfl) (by rfl) (by kernel_rfl) (by rfl)) (by rfl) (by rfl) ?_
  refine Ls.ev (some 6) (Ev.assign (show Oper.op _ = Op.assign (Operand.const (Value.int IntKind.i64 4)) from rfl) (by rfl)) (by rfl) (by rfl) ?_
  refine Ls.does none (Does.store 1 (show Oper.op _ = Op.store 39 (Operand.tmp 7) (Operand.tmp 40) from rfl) (by rfl) (by rfl) (by rfl) (by kernel_rfl) (by rfl) (by kernel_rfl) (by rfl)) (by rfl) (by rfl) ?_
  intro _ _
  refine Ls.nil ?_
  refine Cd.ret ?_
  refine Ent.ret (()) (trivial) (Res.tmp_cell 1 (by rfl) (by rfl) (by rfl) (by rfl) (n := 4) (by kernel_rfl) (by rfl) (by rfl)) ?_ [2, 3, 4] (by rfl) ?_
  · rfl
  · rfl
theorem see_run (g b n : Nat) (S : Int → SeenD) (q id : Int) (hq : -9223372036854775808 ≤ q ∧ q ≤ 9223372036854775807) (h1 : id = (S q).id) (h2 : ¬ id < 1) (h3 : (S q).dn = false) :
    Fn Try.prog 25 #[.pointer (some ⟨g, 0, none⟩), .int .i64 q, .int .i64 id] [winB g b, winM b n S, winS S] Unit (fun _ => .tuple #[.int .i64 3, zrep]) (fun _ => [winB g b, winM b n S, winS S]) (fun _ => True) := by
  refine Fn.enter Try.func25 rfl Try.ntmps25 (by rfl) ?_
  intro w0
  refine Cd.seq ?_
  refine Cd.region ?_
  refine Ls.ev (some 6) (Ev.assign (show Oper.op _ = Op.assign (Operand.const (Value.int IntKind.i64 0)) from rfl) (by rfl)) (by rfl) (by rfl) ?_
  refine Ls.does (some 7) (Does.alloc (cs := [.int .i64 0, .int .i64 0, .int .i64 0, .slice none 0 0]) (show Oper.op _ = Op.alloc 39 from rfl) (ZeroIs.mk (.agg #[.int .i64 0, .int .i64 0, .int .i64 0, .slice none 0 0]) (by kernel_rfl) (by rfl))) (by rfl) (by rfl) ?_
  intro g1 _
  refine Ls.nil ?_
  refine Cd.seq ?_
  refine Cd.region ?_
  refine Ls.ev (some 12) (Ev.move (show Oper.op _ = Op.move (Operand.tmp 0) from rfl) (by rfl)) (by rfl) (by rfl) ?_
  refine Ls.ev (some 13) (Ev.nilCheck (show Oper.op _ = Op.nilCheck (Operand.tmp 12) from rfl) (by rfl)) (by rfl) (by rfl) ?_
  refine Ls.ev (some 14) (Ev.fieldAddr (k := 0) (show Oper.op _ = Op.fieldAddr 97 (Operand.tmp 13) 0 from rfl) (by rfl) (by kernel_rfl) (by rfl)) (by rfl) (by rfl) ?_
  refine Ls.ev (some 15) (Ev.load 1 (show Oper.op _ = Op.load 95 (Operand.tmp 14) from rfl) (by rfl) (by rfl) (by kernel_rfl) (by rfl)) (by rfl) (by rfl) ?_
  refine Ls.ev (some 16) (Ev.move (show Oper.op _ = Op.move (Operand.tmp 1) from rfl) (by rfl)) (by rfl) (by rfl) ?_
  refine Ls.ev (some 17) (Ev.look 2 (show Oper.op _ = Op.lookup 95 (Operand.tmp 15) (Operand.tmp 16) false from rfl) (by rfl) (by rfl) (by rfl) Try.underlying3 Try.underlying95 (zero_of (by kernel_rfl)) (by assumption)) (by rfl) (by rfl) ?_
  refine Ls.does (some 8) (Does.alloc (cs := [.int .i64 0, .bool false, .int .i64 0, .int .i64 0, .int .i64 0, .slice none 0 0]) (show Oper.op _ = Op.alloc 99 from rfl) (ZeroIs.mk (.agg #[.int .i64 0, .bool false, .int .i64 0, .int .i64 0, .int .i64 0, .slice none 0 0]) (by kernel_rfl) (by rfl))) (by rfl) (by rfl) ?_
  intro g2 _
  refine Ls.does none (Does.store 0 (show Oper.op _ = Op.store 99 (Operand.tmp 8) (Operand.tmp 17) from rfl) (by rfl) (by rfl) (by rfl) (by kernel_rfl) (by rfl) (by kernel_rfl) (by rfl)) (by rfl) (by rfl) ?_
  intro _ _
  refine Ls.nil ?_
  refine Cd.seq ?_
  refine Cd.block ?_
  refine Cd.seq ?_
  refine Cd.region ?_
  refine Ls.ev (some 19) (Ev.move (show Oper.op _ = Op.move (Operand.tmp 2) from rfl) (by rfl)) (by rfl) (by rfl) ?_
  refine Ls.ev (some 20) (Ev.fieldAddr (k := 0) (show Oper.op _ = Op.fieldAddr 99 (Operand.tmp 8) 0 from rfl) (by rfl) (by kernel_rfl) (by rfl)) (by rfl) (by rfl) ?_
  refine Ls.ev (some 21) (Ev.load 0 (show Oper.op _ = Op.load 3 (Operand.tmp 20) from rfl) (by rfl) (by rfl) (by kernel_rfl) (by rfl)) (by rfl) (by rfl) ?_
  refine Ls.ev (some 22) (Ev.gtr (show Oper.op _ = Op.binOp BinOp.gtr 3 (Operand.tmp 19) (Operand.tmp 21) 3 from rfl) (by rfl) (by rfl)) (by rfl) (by rfl) ?_
  refine Ls.ev (some 18) (Ev.assign (show Oper.op _ = Op.assign (Operand.tmp 22) from rfl) (by rfl)) (by rfl) (by rfl) ?_
  refine Ls.nil ?_
  refine Cd.cond_false (by rfl) (decide_eq_false (by omega)) ?_
  refine Cd.seq ?_
  refine Cd.region ?_
  refine Ls.ev (some 32) (Ev.move (show Oper.op _ = Op.move (Operand.tmp 2) from rfl) (by rfl)) (by rfl) (by rfl) ?_
  refine Ls.ev (some 33) (Ev.fieldAddr (k := 0) (show Oper.op _ = Op.fieldAddr 99 (Operand.tmp 8) 0 from rfl) (by rfl) (by kernel_rfl) (by rfl)) (by rfl) (by rfl) ?_
  refine Ls.ev (some 34) (Ev.load 0 (show Oper.op _ = Op.load 3 (Operand.tmp 33) from rfl) (by rfl) (by rfl) (by kernel_rfl) (by rfl)) (by rfl) (by rfl) ?_
  refine Ls.ev (some 35) (Ev.lss (show Oper.op _ = Op.binOp BinOp.lss 3 (Operand.tmp 32) (Operand.tmp 34) 3 from rfl) (by rfl) (by rfl)) (by rfl) (by rfl) ?_
  refine Ls.ev (some 36) (Ev.move (show Oper.op _ = Op.move (Operand.tmp 35) from rfl) (by rfl)) (by rfl) (by rfl) ?_
  refine Ent.split 36 (by rfl) (fun h => ?_) (fun h => absurd (of_decide_eq_true h) (by omega))
  refine Ls.ev (some 37) (Ev.move (show Oper.op _ = Op.move (Operand.tmp 2) from rfl) (by rfl)) (by rfl) (by rfl) ?_
  refine Ls.ev (some 38) (Ev.lss (show Oper.op _ = Op.binOp BinOp.lss 3 (Operand.tmp 37) (Operand.const (Value.int IntKind.i64 1)) 3 from rfl) (by rfl) (by rfl)) (by rfl) (by rfl) ?_
  refine Ls.ev (some 39) (Ev.pickF (show Oper.op _ = Op.pick (Operand.tmp 36) (Operand.const (Value.bool true)) (Operand.tmp 38) from rfl) (by rfl) (by rfl)) (by rfl) (by rfl) ?_
  refine Ls.ev (some 31) (Ev.assign (show Oper.op _ = Op.assign (Operand.tmp 39) from rfl) (by rfl)) (by rfl) (by rfl) ?_
  refine Ls.nil ?_
  refine Cd.cond_false (by rfl) (decide_eq_false h2) ?_
  refine Cd.seq ?_
  refine Cd.region ?_
  refine Ls.ev (some 42) (Ev.fieldAddr (k := 1) (show Oper.op _ = Op.fieldAddr 99 (Operand.tmp 8) 1 from rfl) (by rfl) (by kernel_rfl) (by rfl)) (by rfl) (by rfl) ?_
  refine Ls.ev (some 43) (Ev.load 0 (show Oper.op _ = Op.load 4 (Operand.tmp 42) from rfl) (by rfl) (by rfl) (by kernel_rfl) (by rfl)) (by rfl) (by rfl) ?_
  refine Ls.ev (some 44) (Ev.not (show Oper.op _ = Op.unOp UnOp.not 4 (Operand.tmp 43) from rfl) (by rfl)) (by rfl) (by rfl) ?_
  refine Ls.ev (some 41) (Ev.assign (show Oper.op _ = Op.assign (Operand.tmp 44) from rfl) (by rfl)) (by rfl) (by rfl) ?_
  refine Ls.nil ?_
  refine Cd.cond_true (by rfl) (by rw [h3]; rfl) ?_
  refine Cd.seq ?_
  refine Cd.region ?_
  refine Ls.ev (some 45) (Ev.buildP (pl := [(0, 1), (1, 1), (2, 2)]) (zs := [.int .i64 0, .int .i64 0, .int .i64 0, .slice none 0 0]) (show Oper.op _ = Op.build 39 #[] from rfl) (by rfl) (by kernel_rfl) (by rfl)) (by rfl) (by rfl) ?_
  refine Ls.ev (some 6) (Ev.assign (show Oper.op _ = Op.assign (Operand.const (Value.int IntKind.i64 3)) from rfl) (by rfl)) (by rfl) (by rfl) ?_
  refine Ls.does none (Does.store 1 (show Oper.op _ = Op.store 39 (Operand.tmp 7) (Operand.tmp 45) from rfl) (by rfl) (by rfl) (by rfl) (by kernel_rfl) (by rfl) (by kernel_rfl) (by rfl)) (by rfl) (by rfl) ?_
  intro _ _
  refine Ls.nil ?_
  refine Cd.ret ?_
  refine Ent.ret (()) (trivial) (Res.tmp_cell 1 (by rfl) (by rfl) (by rfl) (by rfl) (n := 4) (by kernel_rfl) (by rfl) (by rfl)) ?_ [2, 3, 4] (by rfl) ?_
  · rfl
  · rfl
theorem see_again (g b n : Nat) (S : Int → SeenD) (q id : Int) (hq : -9223372036854775808 ≤ q ∧ q ≤ 9223372036854775807) (h1 : id = (S q).id) (h2 : ¬ id < 1) (h3 : (S q).dn = true) (hx : (S q).xs.length ≤ 17592186044415) :
    Fn Try.prog 25 #[.pointer (some ⟨g, 0, none⟩), .int .i64 q, .int .i64 id] [winB g b, winM b n S, winS S] (Option Addr × Nat) (fun p => .tuple #[.int .i64 2, repV (S q).code (S q).ep (S q).st p.1 (S q).xs.length p.2]) (fun p => [winB g b, winM b n S, winS S, row p.1 (S q).xs.length p.2 3 1 (ints (S q).xs)]) (fun _ => True) := by
  refine Fn.enter Try.func25 rfl Try.ntmps25 (by rfl) ?_
  intro w0
  refine Cd.seq ?_
  refine Cd.region ?_
  refine Ls.ev (some 6) (Ev.assign (show Oper.op _ = Op.assign (Operand.const (Value.int IntKind.i64 0)) from rfl) (by rfl)) (by rfl) (by rfl) ?_
  refine Ls.does (some 7) (Does.alloc (cs := [.int .i64 0, .int .i64 0, .int .i64 0, .slice none 0 0]) (show Oper.op _ = Op.alloc 39 from rfl) (ZeroIs.mk (.agg #[.int .i64 0, .int .i64 0, .int .i64 0, .slice none 0 0]) (by kernel_rfl) (by rfl))) (by rfl) (by rfl) ?_
  intro g1 _
  refine Ls.nil ?_
  refine Cd.seq ?_
  refine Cd.region ?_
  refine Ls.ev (some 12) (Ev.move (show Oper.op _ = Op.move (Operand.tmp 0) from rfl) (by rfl)) (by rfl) (by rfl) ?_
  refine Ls.ev (some 13) (Ev.nilCheck (show Oper.op _ = Op.nilCheck (Operand.tmp 12) from rfl) (by rfl)) (by rfl) (by rfl) ?_
  refine Ls.ev (some 14) (Ev.fieldAddr (k := 0) (show Oper.op _ = Op.fieldAddr 97 (Operand.tmp 13) 0 from rfl) (by rfl) (by kernel_rfl) (by rfl)) (by rfl) (by rfl) ?_
  refine Ls.ev (some 15) (Ev.load 1 (show Oper.op _ = Op.load 95 (Operand.tmp 14) from rfl) (by rfl) (by rfl) (by kernel_rfl) (by rfl)) (by rfl) (by rfl) ?_
  refine Ls.ev (some 16) (Ev.move (show Oper.op _ = Op.move (Operand.tmp 1) from rfl) (by rfl)) (by rfl) (by rfl) ?_
  refine Ls.ev (some 17) (Ev.look 2 (show Oper.op _ = Op.lookup 95 (Operand.tmp 15) (Operand.tmp 16) false from rfl) (by rfl) (by rfl) (by rfl) Try.underlying3 Try.underlying95 (zero_of (by kernel_rfl)) (by assumption)) (by rfl) (by rfl) ?_
  refine Ls.does (some 8) (Does.alloc (cs := [.int .i64 0, .bool false, .int .i64 0, .int .i64 0, .int .i64 0, .slice none 0 0]) (show Oper.op _ = Op.alloc 99 from rfl) (ZeroIs.mk (.agg #[.int .i64 0, .bool false, .int .i64 0, .int .i64 0, .int .i64 0, .slice none 0 0]) (by kernel_rfl) (by rfl))) (by rfl) (by rfl) ?_
  intro g2 _
  refine Ls.does none (Does.store 0 (show Oper.op _ = Op.store 99 (Operand.tmp 8) (Operand.tmp 17) from rfl) (by rfl) (by rfl) (by rfl) (by kernel_rfl) (by rfl) (by kernel_rfl) (by rfl)) (by rfl) (by rfl) ?_
  intro _ _
  refine Ls.nil ?_
  refine Cd.seq ?_
  refine Cd.block ?_
  refine Cd.seq ?_
  refine Cd.region ?_
  refine Ls.ev (some 19) (Ev.move (show Oper.op _ = Op.move (Operand.tmp 2) from rfl) (by rfl)) (by rfl) (by rfl) ?_
  refine Ls.ev (some 20) (Ev.fieldAddr (k := 0) (show Oper.op _ = Op.fieldAddr 99 (Operand.tmp 8) 0 from rfl) (by rfl) (by kernel_rfl) (by rfl)) (by rfl) (by rfl) ?_
  refine Ls.ev (some 21) (Ev.load 0 (show Oper.op _ = Op.load 3 (Operand.tmp 20) from rfl) (by rfl) (by rfl) (by kernel_rfl) (by rfl)) (by rfl) (by rfl) ?_
  refine Ls.ev (some 22) (Ev.gtr (show Oper.op _ = Op.binOp BinOp.gtr 3 (Operand.tmp 19) (Operand.tmp 21) 3 from rfl) (by rfl) (by rfl)) (by rfl) (by rfl) ?_
  refine Ls.ev (some 18) (Ev.assign (show Oper.op _ = Op.assign (Operand.tmp 22) from rfl) (by rfl)) (by rfl) (by rfl) ?_
  refine Ls.nil ?_
  refine Cd.cond_false (by rfl) (decide_eq_false (by omega)) ?_
  refine Cd.seq ?_
  refine Cd.region ?_
  refine Ls.ev (some 32) (Ev.move (show Oper.op _ = Op.move (Operand.tmp 2) from rfl) (by rfl)) (by rfl) (by rfl) ?_
  refine Ls.ev (some 33) (Ev.fieldAddr (k := 0) (show Oper.op _ = Op.fieldAddr 99 (Operand.tmp 8) 0 from rfl) (by rfl) (by kernel_rfl) (by rfl)) (by rfl) (by rfl) ?_
  refine Ls.ev (some 34) (Ev.load 0 (show Oper.op _ = Op.load 3 (Operand.tmp 33) from rfl) (by rfl) (by rfl) (by kernel_rfl) (by rfl)) (by rfl) (by rfl) ?_
  refine Ls.ev (some 35) (Ev.lss (show Oper.op _ = Op.binOp BinOp.lss 3 (Operand.tmp 32) (Operand.tmp 34) 3 from rfl) (by rfl) (by rfl)) (by rfl) (by rfl) ?_
  refine Ls.ev (some 36) (Ev.move (show Oper.op _ = Op.move (Operand.tmp 35) from rfl) (by rfl)) (by rfl) (by rfl) ?_
  refine Ent.split 36 (by rfl) (fun h => ?_) (fun h => absurd (of_decide_eq_true h) (by omega))
  refine Ls.ev (some 37) (Ev.move (show Oper.op _ = Op.move (Operand.tmp 2) from rfl) (by rfl)) (by rfl) (by rfl) ?_
  refine Ls.ev (some 38) (Ev.lss (show Oper.op _ = Op.binOp BinOp.lss 3 (Operand.tmp 37) (Operand.const (Value.int IntKind.i64 1)) 3 from rfl) (by rfl) (by rfl)) (by rfl) (by rfl) ?_
  refine Ls.ev (some 39) (Ev.pickF (show Oper.op _ = Op.pick (Operand.tmp 36) (Operand.const (Value.bool true)) (Operand.tmp 38) from rfl) (by rfl) (by rfl)) (by rfl) (by rfl) ?_
  refine Ls.ev (some 31) (Ev.assign (show Oper.op _ = Op.assign (Operand.tmp 39) from rfl) (by rfl)) (by rfl) (by rfl) ?_
  refine Ls.nil ?_
  refine Cd.cond_false (by rfl) (decide_eq_false h2) ?_
  refine Cd.seq ?_
  refine Cd.region ?_
  refine Ls.ev (some 42) (Ev.fieldAddr (k := 1) (show Oper.op _ = Op.fieldAddr 99 (Operand.tmp 8) 1 from rfl) (by rfl) (by kernel_rfl) (by rfl)) (by rfl) (by rfl) ?_
  refine Ls.ev (some 43) (Ev.load 0 (show Oper.op _ = Op.load 4 (Operand.tmp 42) from rfl) (by rfl) (by rfl) (by kernel_rfl) (by rfl)) (by rfl) (by rfl) ?_
  refine Ls.ev (some 44) (Ev.not (show Oper.op _ = Op.unOp UnOp.not 4 (Operand.tmp 43) from rfl) (by rfl)) (by rfl) (by rfl) ?_
  refine Ls.ev (some 41) (Ev.assign (show Oper.op _ = Op.assign (Operand.tmp 44) from rfl) (by rfl)) (by rfl) (by rfl) ?_
  refine Ls.nil ?_
  refine Cd.cond_false (by rfl) (by rw [h3]; rfl) ?_
  refine Cd.skip ?_
  refine Cd.seq ?_
  refine Cd.region ?_
  refine Ls.ev (some 47) (Ev.move (show Oper.op _ = Op.move (Operand.tmp 0) from rfl) (by rfl)) (by rfl) (by rfl) ?_
  refine Ls.ev (some 48) (Ev.move (show Oper.op _ = Op.move (Operand.tmp 1) from rfl) (by rfl)) (by rfl) (by rfl) ?_
  refine Ls.does (some 49) (Does.call [2, 3, 4, 0, 1] (show Oper.op _ = Op.call { callee := Callee.value (Operand.func 26), args := #[Operand.tmp 47, Operand.tmp 48], argTypes := #[66, 3] } from rfl) Try.func26 (by kernel_rfl) (by kernel_rfl) (last_sl g b n S q hq hx) (by rfl) (by rfl) (by rfl)) (by rfl) (by rfl) ?_
  intro p _
  refine Ls.ev (some 46) (Ev.move (show Oper.op _ = Op.move (Operand.tmp 49) from rfl) (by rfl)) (by rfl) (by rfl) ?_
  refine Ls.ev (some 50) (Ev.extract (show Oper.op _ = Op.extract (Operand.tmp 46) 0 from rfl) (by rfl) (by rfl)) (by rfl) (by rfl) ?_
  refine Ls.ev (some 51) (Ev.extract (show Oper.op _ = Op.extract (Operand.tmp 46) 1 from rfl) (by rfl) (by rfl)) (by rfl) (by rfl) ?_
  refine Ls.ev (some 52) (Ev.extract (show Oper.op _ = Op.extract (Operand.tmp 46) 2 from rfl) (by rfl) (by rfl)) (by rfl) (by rfl) ?_
  refine Ls.does (some 11) (Does.alloc (cs := [.int .i64 0, .int .i64 0, .int .i64 0, .slice none 0 0]) (show Oper.op _ = Op.alloc 39 from rfl) (ZeroIs.mk (.agg #[.int .i64 0, .int .i64 0, .int .i64 0, .slice none 0 0]) (by kernel_rfl) (by rfl))) (by rfl) (by rfl) ?_
  intro g3 _
  refine Ls.ev (some 9) (Ev.assign (show Oper.op _ = Op.assign (Operand.tmp 50) from rfl) (by rfl)) (by rfl) (by rfl) ?_
  refine Ls.ev (some 10) (Ev.assign (show Oper.op _ = Op.assign (Operand.tmp 51) from rfl) (by rfl)) (by rfl) (by rfl) ?_
  refine Ls.does none (Does.store 0 (show Oper.op _ = Op.store 39 (Operand.tmp 11) (Operand.tmp 52) from rfl) (by rfl) (by rfl) (by rfl) (by kernel_rfl) (by rfl) (by kernel_rfl) (by rfl)) (by rfl) (by rfl) ?_
  intro _ _
  refine Ls.nil ?_
  refine Cd.seq ?_
  refine Cd.draw [2] (by kernel_rfl) ?_
  refine Rg.ev 0 (by rfl) (fun _ h => h) (Ev.loads 0 (show Oper.op _ = Op.load 39 (Operand.tmp 11) from rfl) (by rfl) (by rfl) (n := 4) (by kernel_rfl) (by rfl) (by rfl)) (by rfl) (some 53) (by rfl) (by kernel_rfl) (by kernel_rfl) (by kernel_rfl) (by kernel_rfl) ?_
  refine Rg.ev 1 (by rfl) (fun _ h => h) (Ev.assign (show Oper.op _ = Op.assign (Operand.const (Value.int IntKind.i64 2)) from rfl) (by rfl)) (by rfl) (some 6) (by rfl) (by kernel_rfl) (by kernel_rfl) (by kernel_rfl) (by kernel_rfl) ?_
  refine Rg.tail 2 [] (by rfl) (by kernel_rfl) (Does.store 6 (show Oper.op _ = Op.store 39 (Operand.tmp 7) (Operand.tmp 53) from rfl) (by rfl) (by rfl) (by rfl) (by kernel_rfl) (by rfl) (by kernel_rfl) (by rfl)) (by rfl) none (by rfl) (by kernel_rfl) (by kernel_rfl) ?_
  intro _ _
  refine Rg.done (by kernel_rfl) ?_ _
  refine Cd.ret ?_
  refine Ent.ret (p) (trivial) (Res.tmp_cell 6 (by rfl) (by rfl) (by rfl) (by rfl) (n := 4) (by kernel_rfl) (by rfl) (by rfl)) ?_ [1, 2, 3, 4] (by rfl) ?_
  · rfl
  · rfl

theorem answer_none (g b n : Nat) (S : Int → SeenD) (q id : Int) (code ep st : Int) (A : Option Addr) (m c : Nat) (hq : -9223372036854775808 ≤ q ∧ q ≤ 9223372036854775807) (hb : (id < 1)) :
    Fn Try.prog 29 #[.pointer (some ⟨g, 0, none⟩), .int .i64 q, .int .i64 id, repV code ep st A m c] [winB g b, winM b n S, winS S] Unit (fun _ => .int .i64 4) (fun _ => [winB g b, winM b n S, winS S]) (fun _ => True) := by
  refine Fn.enter Try.func29 rfl Try.ntmps29 (by rfl) ?_
  intro w0
  refine Cd.seq ?_
  refine Cd.region ?_
  refine Ls.does (some 7) (Does.box (show Oper.op _ = Op.box 39 (Operand.tmp 3) from rfl) (by rfl)) (by rfl) (by rfl) ?_
  intro g1 _
  refine Ls.ev (some 8) (Ev.assign (show Oper.op _ = Op.assign (Operand.const (Value.int IntKind.i64 0)) from rfl) (by rfl)) (by rfl) (by rfl) ?_
  refine Ls.nil ?_
  refine Cd.seq ?_
  refine Cd.region ?_
  refine Ls.ev (some 10) (Ev.move (show Oper.op _ = Op.move (Operand.tmp 0) from rfl) (by rfl)) (by rfl) (by rfl) ?_
  refine Ls.ev (some 11) (Ev.nilCheck (show Oper.op _ = Op.nilCheck (Operand.tmp 10) from rfl) (by rfl)) (by rfl) (by rfl) ?_
  refine Ls.ev (some 12) (Ev.fieldAddr (k := 0) (show Oper.op _ = Op.fieldAddr 97 (Operand.tmp 11) 0 from rfl) (by rfl) (by kernel_rfl) (by rfl)) (by rfl) (by rfl) ?_
  refine Ls.ev (some 13) (Ev.load 1 (show Oper.op _ = Op.load 95 (Operand.tmp 12) from rfl) (by rfl) (by rfl) (by kernel_rfl) (by rfl)) (by rfl) (by rfl) ?_
  refine Ls.ev (some 14) (Ev.move (show Oper.op _ = Op.move (Operand.tmp 1) from rfl) (by rfl)) (by rfl) (by rfl) ?_
  refine Ls.ev (some 15) (Ev.look 2 (show Oper.op _ = Op.lookup 95 (Operand.tmp 13) (Operand.tmp 14) false from rfl) (by rfl) (by rfl) (by rfl) Try.underlying3 Try.underlying95 (zero_of (by kernel_rfl)) (by assumption)) (by rfl) (by rfl) ?_
  refine Ls.does (some 9) (Does.alloc (cs := [.int .i64 0, .bool false, .int .i64 0, .int .i64 0, .int .i64 0, .slice none 0 0]) (show Oper.op _ = Op.alloc 99 from rfl) (ZeroIs.mk (.agg #[.int .i64 0, .bool false, .int .i64 0, .int .i64 0, .int .i64 0, .slice none 0 0]) (by kernel_rfl) (by rfl))) (by rfl) (by rfl) ?_
  intro g2 _
  refine Ls.does none (Does.store 0 (show Oper.op _ = Op.store 99 (Operand.tmp 9) (Operand.tmp 15) from rfl) (by rfl) (by rfl) (by rfl) (by kernel_rfl) (by rfl) (by kernel_rfl) (by rfl)) (by rfl) (by rfl) ?_
  intro _ _
  refine Ls.nil ?_
  refine Cd.seq ?_
  refine Cd.block ?_
  refine Cd.seq ?_
  refine Cd.region ?_
  refine Ls.ev (some 17) (Ev.move (show Oper.op _ = Op.move (Operand.tmp 2) from rfl) (by rfl)) (by rfl) (by rfl) ?_
  refine Ls.ev (some 18) (Ev.lss (show Oper.op _ = Op.binOp BinOp.lss 3 (Operand.tmp 17) (Operand.const (Value.int IntKind.i64 1)) 3 from rfl) (by rfl) (by rfl)) (by rfl) (by rfl) ?_
  refine Ls.ev (some 16) (Ev.assign (show Oper.op _ = Op.assign (Operand.tmp 18) from rfl) (by rfl)) (by rfl) (by rfl) ?_
  refine Ls.nil ?_
  refine Cd.cond_true (by rfl) (decide_eq_true hb) ?_
  refine Cd.seq ?_
  refine Cd.region ?_
  refine Ls.ev (some 8) (Ev.assign (show Oper.op _ = Op.assign (Operand.const (Value.int IntKind.i64 4)) from rfl) (by rfl)) (by rfl) (by rfl) ?_
  refine Ls.nil ?_
  refine Cd.ret ?_
  refine Ent.ret (()) (trivial) (Res.tmp (by rfl) (by rfl)) ?_ [2, 3, 4] (by rfl) ?_
  · rfl
  · rfl
theorem answer_stale (g b n : Nat) (S : Int → SeenD) (q id : Int) (code ep st : Int) (A : Option Addr) (m c : Nat) (hq : -9223372036854775808 ≤ q ∧ q ≤ 9223372036854775807) (hb : (¬ id < 1) ∧ id ≠ (S q).id) :
    Fn Try.prog 29 #[.pointer (some ⟨g, 0, none⟩), .int .i64 q, .int .i64 id, repV code ep st A m c] [winB g b, winM b n S, winS S] Unit (fun _ => .int .i64 7) (fun _ => [winB g b, winM b n S, winS S]) (fun _ => True) := by
  refine Fn.enter Try.func29 rfl Try.ntmps29 (by rfl) ?_
  intro w0
  refine Cd.seq ?_
  refine Cd.region ?_
  refine Ls.does (some 7) (Does.box (show Oper.op _ = Op.box 39 (Operand.tmp 3) from rfl) (by rfl)) (by rfl) (by rfl) ?_
  intro g1 _
  refine Ls.ev (some 8) (Ev.assign (show Oper.op _ = Op.assign (Operand.const (Value.int IntKind.i64 0)) from rfl) (by rfl)) (by rfl) (by rfl) ?_
  refine Ls.nil ?_
  refine Cd.seq ?_
  refine Cd.region ?_
  refine Ls.ev (some 10) (Ev.move (show Oper.op _ = Op.move (Operand.tmp 0) from rfl) (by rfl)) (by rfl) (by rfl) ?_
  refine Ls.ev (some 11) (Ev.nilCheck (show Oper.op _ = Op.nilCheck (Operand.tmp 10) from rfl) (by rfl)) (by rfl) (by rfl) ?_
  refine Ls.ev (some 12) (Ev.fieldAddr (k := 0) (show Oper.op _ = Op.fieldAddr 97 (Operand.tmp 11) 0 from rfl) (by rfl) (by kernel_rfl) (by rfl)) (by rfl) (by rfl) ?_
  refine Ls.ev (some 13) (Ev.load 1 (show Oper.op _ = Op.load 95 (Operand.tmp 12) from rfl) (by rfl) (by rfl) (by kernel_rfl) (by rfl)) (by rfl) (by rfl) ?_
  refine Ls.ev (some 14) (Ev.move (show Oper.op _ = Op.move (Operand.tmp 1) from rfl) (by rfl)) (by rfl) (by rfl) ?_
  refine Ls.ev (some 15) (Ev.look 2 (show Oper.op _ = Op.lookup 95 (Operand.tmp 13) (Operand.tmp 14) false from rfl) (by rfl) (by rfl) (by rfl) Try.underlying3 Try.underlying95 (zero_of (by kernel_rfl)) (by assumption)) (by rfl) (by rfl) ?_
  refine Ls.does (some 9) (Does.alloc (cs := [.int .i64 0, .bool false, .int .i64 0, .int .i64 0, .int .i64 0, .slice none 0 0]) (show Oper.op _ = Op.alloc 99 from rfl) (ZeroIs.mk (.agg #[.int .i64 0, .bool false, .int .i64 0, .int .i64 0, .int .i64 0, .slice none 0 0]) (by kernel_rfl) (by rfl))) (by rfl) (by rfl) ?_
  intro g2 _
  refine Ls.does none (Does.store 0 (show Oper.op _ = Op.store 99 (Operand.tmp 9) (Operand.tmp 15) from rfl) (by rfl) (by rfl) (by rfl) (by kernel_rfl) (by rfl) (by kernel_rfl) (by rfl)) (by rfl) (by rfl) ?_
  intro _ _
  refine Ls.nil ?_
  refine Cd.seq ?_
  refine Cd.block ?_
  refine Cd.seq ?_
  refine Cd.region ?_
  refine Ls.ev (some 17) (Ev.move (show Oper.op _ = Op.move (Operand.tmp 2) from rfl) (by rfl)) (by rfl) (by rfl) ?_
  refine Ls.ev (some 18) (Ev.lss (show Oper.op _ = Op.binOp BinOp.lss 3 (Operand.tmp 17) (Operand.const (Value.int IntKind.i64 1)) 3 from rfl) (by rfl) (by rfl)) (by rfl) (by rfl) ?_
  refine Ls.ev (some 16) (Ev.assign (show Oper.op _ = Op.assign (Operand.tmp 18) from rfl) (by rfl)) (by rfl) (by rfl) ?_
  refine Ls.nil ?_
  refine Cd.cond_false (by rfl) (decide_eq_false hb.1) ?_
  refine Cd.seq ?_
  refine Cd.region ?_
  refine Ls.ev (some 20) (Ev.move (show Oper.op _ = Op.move (Operand.tmp 2) from rfl) (by rfl)) (by rfl) (by rfl) ?_
  refine Ls.ev (some 21) (Ev.fieldAddr (k := 0) (show Oper.op _ = Op.fieldAddr 99 (Operand.tmp 9) 0 from rfl) (by rfl) (by kernel_rfl) (by rfl)) (by rfl) (by rfl) ?_
  refine Ls.ev (some 22) (Ev.load 0 (show Oper.op _ = Op.load 3 (Operand.tmp 21) from rfl) (by rfl) (by rfl) (by kernel_rfl) (by rfl)) (by rfl) (by rfl) ?_
  refine Ls.ev (some 23) (Ev.neq (show Oper.op _ = Op.binOp BinOp.neq 3 (Operand.tmp 20) (Operand.tmp 22) 3 from rfl) (by rfl) (by rfl)) (by rfl) (by rfl) ?_
  refine Ls.ev (some 19) (Ev.assign (show Oper.op _ = Op.assign (Operand.tmp 23) from rfl) (by rfl)) (by rfl) (by rfl) ?_
  refine Ls.nil ?_
  refine Cd.cond_true (by rfl) (decide_eq_true hb.2) ?_
  refine Cd.seq ?_
  refine Cd.region ?_
  refine Ls.ev (some 8) (Ev.assign (show Oper.op _ = Op.assign (Operand.const (Value.int IntKind.i64 7)) from rfl) (by rfl)) (by rfl) (by rfl) ?_
  refine Ls.nil ?_
  refine Cd.ret ?_
  refine Ent.ret (()) (trivial) (Res.tmp (by rfl) (by rfl)) ?_ [2, 3, 4] (by rfl) ?_
  · rfl
  · rfl
theorem answer_twice (g b n : Nat) (S : Int → SeenD) (q id : Int) (code ep st : Int) (A : Option Addr) (m c : Nat) (hq : -9223372036854775808 ≤ q ∧ q ≤ 9223372036854775807) (hb : (¬ id < 1) ∧ id = (S q).id ∧ (S q).dn = true) :
    Fn Try.prog 29 #[.pointer (some ⟨g, 0, none⟩), .int .i64 q, .int .i64 id, repV code ep st A m c] [winB g b, winM b n S, winS S] Unit (fun _ => .int .i64 2) (fun _ => [winB g b, winM b n S, winS S]) (fun _ => True) := by
  refine Fn.enter Try.func29 rfl Try.ntmps29 (by rfl) ?_
  intro w0
  refine Cd.seq ?_
  refine Cd.region ?_
  refine Ls.does (some 7) (Does.box (show Oper.op _ = Op.box 39 (Operand.tmp 3) from rfl) (by rfl)) (by rfl) (by rfl) ?_
  intro g1 _
  refine Ls.ev (some 8) (Ev.assign (show Oper.op _ = Op.assign (Operand.const (Value.int IntKind.i64 0)) from rfl) (by rfl)) (by rfl) (by rfl) ?_
  refine Ls.nil ?_
  refine Cd.seq ?_
  refine Cd.region ?_
  refine Ls.ev (some 10) (Ev.move (show Oper.op _ = Op.move (Operand.tmp 0) from rfl) (by rfl)) (by rfl) (by rfl) ?_
  refine Ls.ev (some 11) (Ev.nilCheck (show Oper.op _ = Op.nilCheck (Operand.tmp 10) from rfl) (by rfl)) (by rfl) (by rfl) ?_
  refine Ls.ev (some 12) (Ev.fieldAddr (k := 0) (show Oper.op _ = Op.fieldAddr 97 (Operand.tmp 11) 0 from rfl) (by rfl) (by kernel_rfl) (by rfl)) (by rfl) (by rfl) ?_
  refine Ls.ev (some 13) (Ev.load 1 (show Oper.op _ = Op.load 95 (Operand.tmp 12) from rfl) (by rfl) (by rfl) (by kernel_rfl) (by rfl)) (by rfl) (by rfl) ?_
  refine Ls.ev (some 14) (Ev.move (show Oper.op _ = Op.move (Operand.tmp 1) from rfl) (by rfl)) (by rfl) (by rfl) ?_
  refine Ls.ev (some 15) (Ev.look 2 (show Oper.op _ = Op.lookup 95 (Operand.tmp 13) (Operand.tmp 14) false from rfl) (by rfl) (by rfl) (by rfl) Try.underlying3 Try.underlying95 (zero_of (by kernel_rfl)) (by assumption)) (by rfl) (by rfl) ?_
  refine Ls.does (some 9) (Does.alloc (cs := [.int .i64 0, .bool false, .int .i64 0, .int .i64 0, .int .i64 0, .slice none 0 0]) (show Oper.op _ = Op.alloc 99 from rfl) (ZeroIs.mk (.agg #[.int .i64 0, .bool false, .int .i64 0, .int .i64 0, .int .i64 0, .slice none 0 0]) (by kernel_rfl) (by rfl))) (by rfl) (by rfl) ?_
  intro g2 _
  refine Ls.does none (Does.store 0 (show Oper.op _ = Op.store 99 (Operand.tmp 9) (Operand.tmp 15) from rfl) (by rfl) (by rfl) (by rfl) (by kernel_rfl) (by rfl) (by kernel_rfl) (by rfl)) (by rfl) (by rfl) ?_
  intro _ _
  refine Ls.nil ?_
  refine Cd.seq ?_
  refine Cd.block ?_
  refine Cd.seq ?_
  refine Cd.region ?_
  refine Ls.ev (some 17) (Ev.move (show Oper.op _ = Op.move (Operand.tmp 2) from rfl) (by rfl)) (by rfl) (by rfl) ?_
  refine Ls.ev (some 18) (Ev.lss (show Oper.op _ = Op.binOp BinOp.lss 3 (Operand.tmp 17) (Operand.const (Value.int IntKind.i64 1)) 3 from rfl) (by rfl) (by rfl)) (by rfl) (by rfl) ?_
  refine Ls.ev (some 16) (Ev.assign (show Oper.op _ = Op.assign (Operand.tmp 18) from rfl) (by rfl)) (by rfl) (by rfl) ?_
  refine Ls.nil ?_
  refine Cd.cond_false (by rfl) (decide_eq_false hb.1) ?_
  refine Cd.seq ?_
  refine Cd.region ?_
  refine Ls.ev (some 20) (Ev.move (show Oper.op _ = Op.move (Operand.tmp 2) from rfl) (by rfl)) (by rfl) (by rfl) ?_
  refine Ls.ev (some 21) (Ev.fieldAddr (k := 0) (show Oper.op _ = Op.fieldAddr 99 (Operand.tmp 9) 0 from rfl) (by rfl) (by kernel_rfl) (by rfl)) (by rfl) (by rfl) ?_
  refine Ls.ev (some 22) (Ev.load 0 (show Oper.op _ = Op.load 3 (Operand.tmp 21) from rfl) (by rfl) (by rfl) (by kernel_rfl) (by rfl)) (by rfl) (by rfl) ?_
  refine Ls.ev (some 23) (Ev.neq (show Oper.op _ = Op.binOp BinOp.neq 3 (Operand.tmp 20) (Operand.tmp 22) 3 from rfl) (by rfl) (by rfl)) (by rfl) (by rfl) ?_
  refine Ls.ev (some 19) (Ev.assign (show Oper.op _ = Op.assign (Operand.tmp 23) from rfl) (by rfl)) (by rfl) (by rfl) ?_
  refine Ls.nil ?_
  refine Cd.cond_false (by rfl) (decide_eq_false (fun (h : id ≠ (S q).id) => h hb.2.1)) ?_
  refine Cd.seq ?_
  refine Cd.region ?_
  refine Ls.ev (some 25) (Ev.fieldAddr (k := 1) (show Oper.op _ = Op.fieldAddr 99 (Operand.tmp 9) 1 from rfl) (by rfl) (by kernel_rfl) (by rfl)) (by rfl) (by rfl) ?_
  refine Ls.ev (some 26) (Ev.load 0 (show Oper.op _ = Op.load 4 (Operand.tmp 25) from rfl) (by rfl) (by rfl) (by kernel_rfl) (by rfl)) (by rfl) (by rfl) ?_
  refine Ls.ev (some 24) (Ev.assign (show Oper.op _ = Op.assign (Operand.tmp 26) from rfl) (by rfl)) (by rfl) (by rfl) ?_
  refine Ls.nil ?_
  refine Cd.cond_true (by rfl) (hb.2.2) ?_
  refine Cd.seq ?_
  refine Cd.region ?_
  refine Ls.ev (some 8) (Ev.assign (show Oper.op _ = Op.assign (Operand.const (Value.int IntKind.i64 2)) from rfl) (by rfl)) (by rfl) (by rfl) ?_
  refine Ls.nil ?_
  refine Cd.ret ?_
  refine Ent.ret (()) (trivial) (Res.tmp (by rfl) (by rfl)) ?_ [2, 3, 4] (by rfl) ?_
  · rfl
  · rfl
theorem answer_ok (g b n : Nat) (S : Int → SeenD) (q id : Int) (code ep st : Int) (A : Option Addr) (c : Nat) (xs : List Int) (hq : -9223372036854775808 ≤ q ∧ q ≤ 9223372036854775807) (h1 : ¬ id < 1) (h2 : id = (S q).id) (h3 : (S q).dn = false) (hn : n < 1000000) (hx : xs.length ≤ 17592186044415) :
    Fn Try.prog 29 #[.pointer (some ⟨g, 0, none⟩), .int .i64 q, .int .i64 id, repV code ep st A xs.length c] [winB g b, winM b n S, winS S, rd A xs.length 1 (ints xs)] (Option Addr × Nat) (fun _ => .int .i64 0)
      (fun p => [winB g b, winM b (n + 1) (upd S q ⟨id, true, code, ep, st, p.1, p.2, xs⟩), winS (upd S q ⟨id, true, code, ep, st, p.1, p.2, xs⟩)]) (fun _ => True) := by
  refine Fn.enter Try.func29 rfl Try.ntmps29 (by rfl) ?_
  intro w0
  refine Cd.seq ?_
  refine Cd.region ?_
  refine Ls.does (some 7) (Does.box (show Oper.op _ = Op.box 39 (Operand.tmp 3) from rfl) (by rfl)) (by rfl) (by rfl) ?_
  intro g1 _
  refine Ls.ev (some 8) (Ev.assign (show Oper.op _ = Op.assign (Operand.const (Value.int IntKind.i64 0)) from rfl) (by rfl)) (by rfl) (by rfl) ?_
  refine Ls.nil ?_
  refine Cd.seq ?_
  refine Cd.region ?_
  refine Ls.ev (some 10) (Ev.move (show Oper.op _ = Op.move (Operand.tmp 0) from rfl) (by rfl)) (by rfl) (by rfl) ?_
  refine Ls.ev (some 11) (Ev.nilCheck (show Oper.op _ = Op.nilCheck (Operand.tmp 10) from rfl) (by rfl)) (by rfl) (by rfl) ?_
  refine Ls.ev (some 12) (Ev.fieldAddr (k := 0) (show Oper.op _ = Op.fieldAddr 97 (Operand.tmp 11) 0 from rfl) (by rfl) (by kernel_rfl) (by rfl)) (by rfl) (by rfl) ?_
  refine Ls.ev (some 13) (Ev.load 1 (show Oper.op _ = Op.load 95 (Operand.tmp 12) from rfl) (by rfl) (by rfl) (by kernel_rfl) (by rfl)) (by rfl) (by rfl) ?_
  refine Ls.ev (some 14) (Ev.move (show Oper.op _ = Op.move (Operand.tmp 1) from rfl) (by rfl)) (by rfl) (by rfl) ?_
  refine Ls.ev (some 15) (Ev.look 2 (show Oper.op _ = Op.lookup 95 (Operand.tmp 13) (Operand.tmp 14) false from rfl) (by rfl) (by rfl) (by rfl) Try.underlying3 Try.underlying95 (zero_of (by kernel_rfl)) (by assumption)) (by rfl) (by rfl) ?_
  refine Ls.does (some 9) (Does.alloc (cs := [.int .i64 0, .bool false, .int .i64 0, .int .i64 0, .int .i64 0, .slice none 0 0]) (show Oper.op _ = Op.alloc 99 from rfl) (ZeroIs.mk (.agg #[.int .i64 0, .bool false, .int .i64 0, .int .i64 0, .int .i64 0, .slice none 0 0]) (by kernel_rfl) (by rfl))) (by rfl) (by rfl) ?_
  intro g2 _
  refine Ls.does none (Does.store 0 (show Oper.op _ = Op.store 99 (Operand.tmp 9) (Operand.tmp 15) from rfl) (by rfl) (by rfl) (by rfl) (by kernel_rfl) (by rfl) (by kernel_rfl) (by rfl)) (by rfl) (by rfl) ?_
  intro _ _
  refine Ls.nil ?_
  refine Cd.seq ?_
  refine Cd.block ?_
  refine Cd.seq ?_
  refine Cd.region ?_
  refine Ls.ev (some 17) (Ev.move (show Oper.op _ = Op.move (Operand.tmp 2) from rfl) (by rfl)) (by rfl) (by rfl) ?_
  refine Ls.ev (some 18) (Ev.lss (show Oper.op _ = Op.binOp BinOp.lss 3 (Operand.tmp 17) (Operand.const (Value.int IntKind.i64 1)) 3 from rfl) (by rfl) (by rfl)) (by rfl) (by rfl) ?_
  refine Ls.ev (some 16) (Ev.assign (show Oper.op _ = Op.assign (Operand.tmp 18) from rfl) (by rfl)) (by rfl) (by rfl) ?_
  refine Ls.nil ?_
  refine Cd.cond_false (by rfl) (decide_eq_false h1) ?_
  refine Cd.seq ?_
  refine Cd.region ?_
  refine Ls.ev (some 20) (Ev.move (show Oper.op _ = Op.move (Operand.tmp 2) from rfl) (by rfl)) (by rfl) (by rfl) ?_
  refine Ls.ev (some 21) (Ev.fieldAddr (k := 0) (show Oper.op _ = Op.fieldAddr 99 (Operand.tmp 9) 0 from rfl) (by rfl) (by kernel_rfl) (by rfl)) (by rfl) (by rfl) ?_
  refine Ls.ev (some 22) (Ev.load 0 (show Oper.op _ = Op.load 3 (Operand.tmp 21) from rfl) (by rfl) (by rfl) (by kernel_rfl) (by rfl)) (by rfl) (by rfl) ?_
  refine Ls.ev (some 23) (Ev.neq (show Oper.op _ = Op.binOp BinOp.neq 3 (Operand.tmp 20) (Operand.tmp 22) 3 from rfl) (by rfl) (by rfl)) (by rfl) (by rfl) ?_
  refine Ls.ev (some 19) (Ev.assign (show Oper.op _ = Op.assign (Operand.tmp 23) from rfl) (by rfl)) (by rfl) (by rfl) ?_
  refine Ls.nil ?_
  refine Cd.cond_false (by rfl) (decide_eq_false (fun (h : id ≠ (S q).id) => h h2)) ?_
  refine Cd.seq ?_
  refine Cd.region ?_
  refine Ls.ev (some 25) (Ev.fieldAddr (k := 1) (show Oper.op _ = Op.fieldAddr 99 (Operand.tmp 9) 1 from rfl) (by rfl) (by kernel_rfl) (by rfl)) (by rfl) (by rfl) ?_
  refine Ls.ev (some 26) (Ev.load 0 (show Oper.op _ = Op.load 4 (Operand.tmp 25) from rfl) (by rfl) (by rfl) (by kernel_rfl) (by rfl)) (by rfl) (by rfl) ?_
  refine Ls.ev (some 24) (Ev.assign (show Oper.op _ = Op.assign (Operand.tmp 26) from rfl) (by rfl)) (by rfl) (by rfl) ?_
  refine Ls.nil ?_
  refine Cd.cond_false (by rfl) (h3) ?_
  refine Cd.skip ?_
  refine Cd.seq ?_
  refine Cd.region ?_
  refine Ls.ev (some 27) (Ev.move (show Oper.op _ = Op.move (Operand.tmp 0) from rfl) (by rfl)) (by rfl) (by rfl) ?_
  refine Ls.ev (some 28) (Ev.move (show Oper.op _ = Op.move (Operand.tmp 1) from rfl) (by rfl)) (by rfl) (by rfl) ?_
  refine Ls.ev (some 29) (Ev.move (show Oper.op _ = Op.move (Operand.tmp 2) from rfl) (by rfl)) (by rfl) (by rfl) ?_
  refine Ls.ev (some 30) (Ev.loads 1 (show Oper.op _ = Op.load 39 (Operand.tmp 7) from rfl) (by rfl) (by rfl) (n := 4) (by kernel_rfl) (by rfl) (by rfl)) (by rfl) (by rfl) ?_
  refine Ls.does (some 31) (Does.call [2, 3, 4, 5, 0, 1] (show Oper.op _ = Op.call { callee := Callee.value (Operand.func 23), args := #[Operand.tmp 27, Operand.tmp 28, Operand.tmp 29, Operand.const (Value.bool true), Operand.tmp 30], argTypes := #[66, 3, 3, 4, 39] } from rfl) Try.func23 (by kernel_rfl) (by kernel_rfl) (load_yes g b n S q id code ep st A c xs hq h1 hn hx) (by rfl) (by rfl) (by rfl)) (by rfl) (by rfl) ?_
  intro p _
  refine Ls.nil ?_
  refine Cd.seq ?_
  refine Cd.region ?_
  refine Ls.ev (some 8) (Ev.assign (show Oper.op _ = Op.assign (Operand.const (Value.int IntKind.i64 0)) from rfl) (by rfl)) (by rfl) (by rfl) ?_
  refine Ls.nil ?_
  refine Cd.ret ?_
  refine Ent.ret (p) (trivial) (Res.tmp (by rfl) (by rfl)) ?_ [0, 1, 2] (by rfl) ?_
  · rfl
  · rfl
end Go.Proofs.Ytgidkjfakecniaa
