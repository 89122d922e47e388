/- PROVED HERE: RpcOwn: for every input the law of layer 11 answers true and its input reads as before: what is handed in isn't kept, and answers share no memory. No conditions. -/
import Derived.Test.YtgidkjfakecniaaRsI
import Derived.Test.YtgidkjfakecniaaRsE
import Derived.Test.YtgidkjfakecniaaRows
import Derived.Test.YtgidkjfakecniaaChecked
namespace Go.Proofs.Ytgidkjfakecniaa
open Go.RowKit
theorem clone_row (A : Option Addr) (n c : Nat) (xs : List Int) (hn : n ≤ 17592186044415) :
    Fn Try.prog 38 #[.slice A n c] [row A n c 3 1 (ints xs)] (Option Addr × Nat) (fun p => .slice p.1 n p.2) (fun p => [row p.1 n p.2 3 1 (ints xs), row A n c 3 1 (ints xs)]) (fun _ => True) := by
  refine Fn.enter Try.func38 rfl Try.ntmps38 (by rfl) ?_
  intro w0
  refine Cd.seq ?_
  refine Cd.region ?_
  refine Ls.ev (some 2) (Ev.assign (show Oper.op _ = Op.assign (Operand.const (Value.slice none 0 0)) from rfl) (by rfl)) (by rfl) (by rfl) ?_
  refine Ls.nil ?_
  refine Cd.seq ?_
  refine Cd.seq ?_
  refine Cd.region ?_
  refine Ls.ev (some 3) (Ev.move (show Oper.op _ = Op.move (Operand.tmp 0) from rfl) (by rfl)) (by rfl) (by rfl) ?_
  refine Ls.ev (some 4) (Ev.isNil (show Oper.op _ = Op.binOp BinOp.eql 23 (Operand.tmp 3) (Operand.const (Value.slice none 0 0)) 23 from rfl) (by rfl) (by rfl) Try.underlying23) (by rfl) (by rfl) ?_
  refine Ls.nil ?_
  refine Cd.cond _ (by rfl) (fun h => ?_) (fun h => ?_)
  · skip
    refine Cd.seq ?_
    refine Cd.region ?_
    refine Ls.ev (some 2) (Ev.assign (show Oper.op _ = Op.assign (Operand.const (Value.slice none 0 0)) from rfl) (by rfl)) (by rfl) (by rfl) ?_
    refine Ls.nil ?_
    have hA : A = none := by simpa using h
    subst hA
    refine Ent.fact 0 (by rfl) (p := n = 0 ∧ c = 0 ∧ xs = []) (fun w hw => ?_) ?_
    · rcases Own.form hw with ⟨_, h1, h2, h3⟩ | ⟨_, _, h, _⟩
      · exact ⟨h1, h2, by simpa [ints] using h3⟩
      · cases h
    rintro ⟨rfl, rfl, rfl⟩
    refine Ent.nil 3 1 ?_
    refine Cd.ret ?_
    refine Ent.ret ((none, 0)) (trivial) (Res.tmp (by rfl) (by rfl)) ?_ [0, 1] (by rfl) ?_
    · rfl
    · rfl
  · skip
    refine Cd.skip ?_
    refine Cd.seq ?_
    refine Cd.region ?_
    refine Ls.does (some 5) (Does.lit0 (sz := 1) (show Oper.op _ = Op.buildSlice 23 0 #[] from rfl) Try.underlying23 (by kernel_rfl)) (by rfl) (by rfl) ?_
    intro g1 _
    refine Ls.ev (some 6) (Ev.move (show Oper.op _ = Op.move (Operand.tmp 0) from rfl) (by rfl)) (by rfl) (by rfl) ?_
    refine Ls.does (some 7) (Does.app0 0 (show Oper.op _ = Op.call { callee := Callee.builtin Builtin.append, args := #[Operand.tmp 5, Operand.tmp 6], argTypes := #[23, 23] } from rfl) (by rfl) (by rfl) (by rfl) (ReadsIn.row 1 (by rfl)) elem_int (one_ints xs) (by omega)) (by rfl) (by rfl) ?_
    intro p _
    refine Ls.ev (some 2) (Ev.assign (show Oper.op _ = Op.assign (Operand.tmp 7) from rfl) (by rfl)) (by rfl) (by rfl) ?_
    refine Ls.nil ?_
    refine Cd.ret ?_
    refine Ent.ret (p) (trivial) (Res.tmp (by rfl) (by rfl)) ?_ [0, 1] (by rfl) ?_
    · rfl
    · rfl
theorem own_row (st : Int) (A : Option Addr) (n c : Nat) (xs : List Int) (hn : n ≤ 17592186044415) :
    Fn Try.prog 33 #[.agg #[.int .i64 st, .slice A n c]] [row A n c 3 1 (ints xs)] (Option Addr × Nat) (fun p => .agg #[.int .i64 st, .slice p.1 n p.2]) (fun p => [row p.1 n p.2 3 1 (ints xs), row A n c 3 1 (ints xs)]) (fun _ => True) := by
  refine Fn.enter Try.func33 rfl Try.ntmps33 (by rfl) ?_
  intro w0
  refine Cd.seq ?_
  refine Cd.region ?_
  refine Ls.does (some 1) (Does.box (show Oper.op _ = Op.box 25 (Operand.tmp 0) from rfl) (by rfl)) (by rfl) (by rfl) ?_
  intro g1 _
  refine Ls.does (some 2) (Does.alloc (cs := [.int .i64 0, .slice none 0 0]) (show Oper.op _ = Op.alloc 25 from rfl) (ZeroIs.mk (.agg #[.int .i64 0, .slice none 0 0]) (by kernel_rfl) (by rfl))) (by rfl) (by rfl) ?_
  intro g2 _
  refine Ls.nil ?_
  refine Cd.seq ?_
  refine Cd.region ?_
  refine Ls.ev (some 3) (Ev.fieldAddr (k := 1) (show Oper.op _ = Op.fieldAddr 25 (Operand.tmp 1) 1 from rfl) (by rfl) (by kernel_rfl) (by rfl)) (by rfl) (by rfl) ?_
  refine Ls.ev (some 4) (Ev.load 1 (show Oper.op _ = Op.load 23 (Operand.tmp 3) from rfl) (by rfl) (by rfl) (by kernel_rfl) (by rfl)) (by rfl) (by rfl) ?_
  refine Ls.does (some 5) (Does.call [2, 0, 1] (show Oper.op _ = Op.call { callee := Callee.value (Operand.func 38), args := #[Operand.tmp 4], argTypes := #[23] } from rfl) Try.func38 (by kernel_rfl) (by kernel_rfl) (clone_row A n c xs hn) (by rfl) (by rfl) (by rfl)) (by rfl) (by rfl) ?_
  intro p _
  refine Ls.ev (some 6) (Ev.fieldAddr (k := 1) (show Oper.op _ = Op.fieldAddr 25 (Operand.tmp 1) 1 from rfl) (by rfl) (by kernel_rfl) (by rfl)) (by rfl) (by rfl) ?_
  refine Ls.does none (Does.store 3 (show Oper.op _ = Op.store 23 (Operand.tmp 6) (Operand.tmp 5) from rfl) (by rfl) (by rfl) (by rfl) (by kernel_rfl) (by rfl) (by kernel_rfl) (by rfl)) (by rfl) (by rfl) ?_
  intro _ _
  refine Ls.nil ?_
  refine Cd.seq ?_
  refine Cd.region ?_
  refine Ls.ev (some 7) (Ev.loads 3 (show Oper.op _ = Op.load 25 (Operand.tmp 1) from rfl) (by rfl) (by rfl) (n := 2) (by kernel_rfl) (by rfl) (by rfl)) (by rfl) (by rfl) ?_
  refine Ls.does none (Does.store 2 (show Oper.op _ = Op.store 25 (Operand.tmp 2) (Operand.tmp 7) from rfl) (by rfl) (by rfl) (by rfl) (by kernel_rfl) (by rfl) (by kernel_rfl) (by rfl)) (by rfl) (by rfl) ?_
  intro _ _
  refine Ls.nil ?_
  refine Cd.ret ?_
  refine Ent.ret (p) (trivial) (Res.cell 2 (by rfl) (by rfl) (by rfl) (n := 2) (by kernel_rfl) (by rfl) (by rfl)) ?_ [0, 1] (by rfl) ?_
  · rfl
  · rfl
theorem call_row (g : Nat) (fr id : Int) (f0 to0 kd i0 vb0 ep0 st0 tr wt to vb ep st : Int) (A0 A : Option Addr) (n0 c0 n c : Nat) (xs : List Int) (hn : n ≤ 17592186044415) (hi : 0 ≤ id ∧ id ≤ 1000) :
    Fn Try.prog 10 #[.pointer (some ⟨g, 0, none⟩), .int .i64 to, .agg #[.int .i64 vb, .int .i64 ep, .int .i64 st, .slice A n c]] [blk g 90 (callC fr id false (msg f0 to0 kd i0 vb0 ep0 st0 A0 n0 c0) tr wt), row A n c 3 1 (ints xs)]
      ((Option Addr × Nat) × (Option Addr × Nat)) (fun p => .tuple #[.agg (msg fr to 6 (id + 1) vb ep st p.2.1 n p.2.2).toArray, .int .i64 0])
      (fun p => [blk g 90 (callC fr (id + 1) true (msg fr to 6 (id + 1) vb ep st p.1.1 n p.1.2) 1 2), rd p.1.1 n 1 (ints xs), row p.2.1 n p.2.2 3 1 (ints xs), row A n c 3 1 (ints xs)]) (fun _ => True) := by
  refine Fn.enter Try.func10 rfl Try.ntmps10 (by rfl) ?_
  intro w0
  refine Cd.seq ?_
  refine Cd.region ?_
  refine Ls.does (some 5) (Does.box (show Oper.op _ = Op.box 27 (Operand.tmp 2) from rfl) (by rfl)) (by rfl) (by rfl) ?_
  intro g1 _
  refine Ls.does (some 6) (Does.alloc (cs := [.int .i64 0, .int .i64 0, .int .i64 0, .int .i64 0, .int .i64 0, .int .i64 0, .int .i64 0, .slice none 0 0, .slice none 0 0, .bool false, .int .i64 0, .int .i64 0, .int .i64 0, .int .i64 0, .slice none 0 0, .int .i64 0, .int .i64 0, .int .i64 0, .slice none 0 0]) (show Oper.op _ = Op.alloc 41 from rfl) (ZeroIs.mk (.agg #[.int .i64 0, .int .i64 0, .int .i64 0, .int .i64 0, .int .i64 0, .int .i64 0, .int .i64 0, .slice none 0 0, .slice none 0 0, .bool false, .int .i64 0, .int .i64 0, .int .i64 0, .int .i64 0, .slice none 0 0, .int .i64 0, .int .i64 0, .int .i64 0, .slice none 0 0]) (by kernel_rfl) (by rfl))) (by rfl) (by rfl) ?_
  intro g2 _
  refine Ls.ev (some 7) (Ev.assign (show Oper.op _ = Op.assign (Operand.const (Value.int IntKind.i64 0)) from rfl) (by rfl)) (by rfl) (by rfl) ?_
  refine Ls.nil ?_
  refine Cd.seq ?_
  refine Cd.seq ?_
  refine Cd.region ?_
  refine Ls.ev (some 8) (Ev.move (show Oper.op _ = Op.move (Operand.tmp 0) from rfl) (by rfl)) (by rfl) (by rfl) ?_
  refine Ls.ev (some 9) (Ev.nilCheck (show Oper.op _ = Op.nilCheck (Operand.tmp 8) from rfl) (by rfl)) (by rfl) (by rfl) ?_
  refine Ls.ev (some 10) (Ev.fieldAddr (k := 2) (show Oper.op _ = Op.fieldAddr 90 (Operand.tmp 9) 2 from rfl) (by rfl) (by kernel_rfl) (by rfl)) (by rfl) (by rfl) ?_
  refine Ls.ev (some 11) (Ev.load 2 (show Oper.op _ = Op.load 4 (Operand.tmp 10) from rfl) (by rfl) (by rfl) (by kernel_rfl) (by rfl)) (by rfl) (by rfl) ?_
  refine Ls.nil ?_
  refine Cd.cond_false (by rfl) (rfl) ?_
  refine Cd.skip ?_
  refine Cd.seq ?_
  refine Cd.region ?_
  refine Ls.ev (some 13) (Ev.fieldAddr (k := 2) (show Oper.op _ = Op.fieldAddr 27 (Operand.tmp 5) 2 from rfl) (by rfl) (by kernel_rfl) (by rfl)) (by rfl) (by rfl) ?_
  refine Ls.ev (some 14) (Ev.loads 1 (show Oper.op _ = Op.load 25 (Operand.tmp 13) from rfl) (by rfl) (by rfl) (n := 2) (by kernel_rfl) (by rfl) (by rfl)) (by rfl) (by rfl) ?_
  refine Ls.does (some 15) (Does.call [3, 0, 1, 2] (show Oper.op _ = Op.call { callee := Callee.value (Operand.func 33), args := #[Operand.tmp 14], argTypes := #[25] } from rfl) Try.func33 (by kernel_rfl) (by kernel_rfl) (own_row st A n c xs hn) (by rfl) (by rfl) (by rfl)) (by rfl) (by rfl) ?_
  intro p _
  refine Ls.ev (some 16) (Ev.fieldAddr (k := 2) (show Oper.op _ = Op.fieldAddr 27 (Operand.tmp 5) 2 from rfl) (by rfl) (by kernel_rfl) (by rfl)) (by rfl) (by rfl) ?_
  refine Ls.does none (Does.store 3 (show Oper.op _ = Op.store 25 (Operand.tmp 16) (Operand.tmp 15) from rfl) (by rfl) (by rfl) (by rfl) (by kernel_rfl) (by rfl) (by kernel_rfl) (by rfl)) (by rfl) (by rfl) ?_
  intro _ _
  refine Ls.nil ?_
  refine Cd.seq ?_
  refine Cd.region ?_
  refine Ls.ev (some 17) (Ev.move (show Oper.op _ = Op.move (Operand.tmp 0) from rfl) (by rfl)) (by rfl) (by rfl) ?_
  refine Ls.ev (some 18) (Ev.nilCheck (show Oper.op _ = Op.nilCheck (Operand.tmp 17) from rfl) (by rfl)) (by rfl) (by rfl) ?_
  refine Ls.ev (some 19) (Ev.fieldAddr (k := 1) (show Oper.op _ = Op.fieldAddr 90 (Operand.tmp 18) 1 from rfl) (by rfl) (by kernel_rfl) (by rfl)) (by rfl) (by rfl) ?_
  refine Ls.ev (some 20) (Ev.load 4 (show Oper.op _ = Op.load 3 (Operand.tmp 19) from rfl) (by rfl) (by rfl) (by kernel_rfl) (by rfl)) (by rfl) (by rfl) ?_
  refine Ls.ev (some 21) (Ev.addI (show Oper.op _ = Op.binOp BinOp.add 3 (Operand.tmp 20) (Operand.const (Value.int IntKind.i64 1)) 3 from rfl) (by rfl) (by rfl) (by omega)) (by rfl) (by rfl) ?_
  refine Ls.ev (some 22) (Ev.nilCheck (show Oper.op _ = Op.nilCheck (Operand.tmp 17) from rfl) (by rfl)) (by rfl) (by rfl) ?_
  refine Ls.ev (some 23) (Ev.fieldAddr (k := 1) (show Oper.op _ = Op.fieldAddr 90 (Operand.tmp 22) 1 from rfl) (by rfl) (by kernel_rfl) (by rfl)) (by rfl) (by rfl) ?_
  refine Ls.does none (Does.store 4 (show Oper.op _ = Op.store 3 (Operand.tmp 23) (Operand.tmp 21) from rfl) (by rfl) (by rfl) (by rfl) (by kernel_rfl) (by rfl) (by kernel_rfl) (by rfl)) (by rfl) (by rfl) ?_
  intro _ _
  refine Ls.nil ?_
  refine Cd.seq ?_
  refine Cd.draw [14] (by kernel_rfl) ?_
  refine Rg.ev 0 (by rfl) (fun _ h => h) (Ev.move (show Oper.op _ = Op.move (Operand.tmp 0) from rfl) (by rfl)) (by rfl) (some 24) (by rfl) (by kernel_rfl) (by kernel_rfl) (by kernel_rfl) (by kernel_rfl) ?_
  refine Rg.ev 1 (by rfl) (fun _ h => h) (Ev.move (show Oper.op _ = Op.move (Operand.tmp 0) from rfl) (by rfl)) (by rfl) (some 25) (by rfl) (by kernel_rfl) (by kernel_rfl) (by kernel_rfl) (by kernel_rfl) ?_
  refine Rg.ev 2 (by rfl) (fun _ h => h) (Ev.nilCheck (show Oper.op _ = Op.nilCheck (Operand.tmp 25) from rfl) (by rfl)) (by rfl) (some 26) (by rfl) (by kernel_rfl) (by kernel_rfl) (by kernel_rfl) (by kernel_rfl) ?_
  refine Rg.ev 3 (by rfl) (fun _ h => h) (Ev.fieldAddr (k := 0) (show Oper.op _ = Op.fieldAddr 90 (Operand.tmp 26) 0 from rfl) (by rfl) (by kernel_rfl) (by rfl)) (by rfl) (some 27) (by rfl) (by kernel_rfl) (by kernel_rfl) (by kernel_rfl) (by kernel_rfl) ?_
  refine Rg.ev 4 (by rfl) (fun _ h => h) (Ev.load 4 (show Oper.op _ = Op.load 3 (Operand.tmp 27) from rfl) (by rfl) (by rfl) (by kernel_rfl) (by rfl)) (by rfl) (some 28) (by rfl) (by kernel_rfl) (by kernel_rfl) (by kernel_rfl) (by kernel_rfl) ?_
  refine Rg.ev 5 (by rfl) (fun _ h => h) (Ev.move (show Oper.op _ = Op.move (Operand.tmp 1) from rfl) (by rfl)) (by rfl) (some 29) (by rfl) (by kernel_rfl) (by kernel_rfl) (by kernel_rfl) (by kernel_rfl) ?_
  refine Rg.ev 6 (by rfl) (fun _ h => h) (Ev.move (show Oper.op _ = Op.move (Operand.tmp 0) from rfl) (by rfl)) (by rfl) (some 30) (by rfl) (by kernel_rfl) (by kernel_rfl) (by kernel_rfl) (by kernel_rfl) ?_
  refine Rg.ev 7 (by rfl) (fun _ h => h) (Ev.nilCheck (show Oper.op _ = Op.nilCheck (Operand.tmp 30) from rfl) (by rfl)) (by rfl) (some 31) (by rfl) (by kernel_rfl) (by kernel_rfl) (by kernel_rfl) (by kernel_rfl) ?_
  refine Rg.ev 8 (by rfl) (fun _ h => h) (Ev.fieldAddr (k := 1) (show Oper.op _ = Op.fieldAddr 90 (Operand.tmp 31) 1 from rfl) (by rfl) (by kernel_rfl) (by rfl)) (by rfl) (some 32) (by rfl) (by kernel_rfl) (by kernel_rfl) (by kernel_rfl) (by kernel_rfl) ?_
  refine Rg.ev 9 (by rfl) (fun _ h => h) (Ev.load 4 (show Oper.op _ = Op.load 3 (Operand.tmp 32) from rfl) (by rfl) (by rfl) (by kernel_rfl) (by rfl)) (by rfl) (some 33) (by rfl) (by kernel_rfl) (by kernel_rfl) (by kernel_rfl) (by kernel_rfl) ?_
  refine Rg.ev 10 (by rfl) (fun _ h => h) (Ev.loads 3 (show Oper.op _ = Op.load 27 (Operand.tmp 5) from rfl) (by rfl) (by rfl) (n := 4) (by kernel_rfl) (by rfl) (by rfl)) (by rfl) (some 34) (by rfl) (by kernel_rfl) (by kernel_rfl) (by kernel_rfl) (by kernel_rfl) ?_
  refine Rg.ev 11 (by rfl) (fun _ h => h) (Ev.buildP (pl := [(0, 1), (1, 1), (2, 1), (3, 3), (6, 3), (9, 1), (10, 1), (11, 4), (15, 4)]) (zs := [.int .i64 0, .int .i64 0, .int .i64 0, .int .i64 0, .int .i64 0, .int .i64 0, .int .i64 0, .slice none 0 0, .slice none 0 0, .bool false, .int .i64 0, .int .i64 0, .int .i64 0, .int .i64 0, .slice none 0 0, .int .i64 0, .int .i64 0, .int .i64 0, .slice none 0 0]) (show Oper.op _ = Op.build 41 #[(0, Operand.tmp 28), (1, Operand.tmp 29), (2, Operand.const (Value.int IntKind.i64 6)), (6, Operand.tmp 33), (7, Operand.tmp 34)] from rfl) (by rfl) (by kernel_rfl) (by rfl)) (by rfl) (some 35) (by rfl) (by kernel_rfl) (by kernel_rfl) (by kernel_rfl) (by kernel_rfl) ?_
  refine Rg.ev 12 (by rfl) (fun _ h => h) (Ev.nilCheck (show Oper.op _ = Op.nilCheck (Operand.tmp 24) from rfl) (by rfl)) (by rfl) (some 36) (by rfl) (by kernel_rfl) (by kernel_rfl) (by kernel_rfl) (by kernel_rfl) ?_
  refine Rg.ev 13 (by rfl) (fun _ h => h) (Ev.fieldAddr (k := 3) (show Oper.op _ = Op.fieldAddr 90 (Operand.tmp 36) 3 from rfl) (by rfl) (by kernel_rfl) (by rfl)) (by rfl) (some 37) (by rfl) (by kernel_rfl) (by kernel_rfl) (by kernel_rfl) (by kernel_rfl) ?_
  refine Rg.tail 14 [] (by rfl) (by kernel_rfl) (Does.store 4 (show Oper.op _ = Op.store 41 (Operand.tmp 37) (Operand.tmp 35) from rfl) (by rfl) (by rfl) (by rfl) (by kernel_rfl) (by rfl) (by kernel_rfl) (by rfl)) (by rfl) none (by rfl) (by kernel_rfl) (by kernel_rfl) ?_
  intro _ _
  refine Rg.done (by kernel_rfl) ?_ _
  refine Cd.seq ?_
  refine Cd.region ?_
  refine Ls.ev (some 38) (Ev.move (show Oper.op _ = Op.move (Operand.tmp 0) from rfl) (by rfl)) (by rfl) (by rfl) ?_
  refine Ls.ev (some 39) (Ev.move (show Oper.op _ = Op.move (Operand.tmp 0) from rfl) (by rfl)) (by rfl) (by rfl) ?_
  refine Ls.ev (some 40) (Ev.move (show Oper.op _ = Op.move (Operand.tmp 0) from rfl) (by rfl)) (by rfl) (by rfl) ?_
  refine Ls.ev (some 41) (Ev.nilCheck (show Oper.op _ = Op.nilCheck (Operand.tmp 38) from rfl) (by rfl)) (by rfl) (by rfl) ?_
  refine Ls.ev (some 42) (Ev.fieldAddr (k := 2) (show Oper.op _ = Op.fieldAddr 90 (Operand.tmp 41) 2 from rfl) (by rfl) (by kernel_rfl) (by rfl)) (by rfl) (by rfl) ?_
  refine Ls.does none (Does.store 4 (show Oper.op _ = Op.store 4 (Operand.tmp 42) (Operand.const (Value.bool true)) from rfl) (by rfl) (by rfl) (by rfl) (by kernel_rfl) (by rfl) (by kernel_rfl) (by rfl)) (by rfl) (by rfl) ?_
  intro _ _
  refine Ls.ev (some 43) (Ev.nilCheck (show Oper.op _ = Op.nilCheck (Operand.tmp 39) from rfl) (by rfl)) (by rfl) (by rfl) ?_
  refine Ls.ev (some 44) (Ev.fieldAddr (k := 22) (show Oper.op _ = Op.fieldAddr 90 (Operand.tmp 43) 4 from rfl) (by rfl) (by kernel_rfl) (by rfl)) (by rfl) (by rfl) ?_
  refine Ls.does none (Does.store 4 (show Oper.op _ = Op.store 3 (Operand.tmp 44) (Operand.const (Value.int IntKind.i64 1)) from rfl) (by rfl) (by rfl) (by rfl) (by kernel_rfl) (by rfl) (by kernel_rfl) (by rfl)) (by rfl) (by rfl) ?_
  intro _ _
  refine Ls.ev (some 45) (Ev.nilCheck (show Oper.op _ = Op.nilCheck (Operand.tmp 40) from rfl) (by rfl)) (by rfl) (by rfl) ?_
  refine Ls.ev (some 46) (Ev.fieldAddr (k := 23) (show Oper.op _ = Op.fieldAddr 90 (Operand.tmp 45) 5 from rfl) (by rfl) (by kernel_rfl) (by rfl)) (by rfl) (by rfl) ?_
  refine Ls.does none (Does.store 4 (show Oper.op _ = Op.store 3 (Operand.tmp 46) (Operand.const (Value.int IntKind.i64 2)) from rfl) (by rfl) (by rfl) (by rfl) (by kernel_rfl) (by rfl) (by kernel_rfl) (by rfl)) (by rfl) (by rfl) ?_
  intro _ _
  refine Ls.nil ?_
  refine Cd.seq ?_
  refine Cd.region ?_
  refine Ls.ev (some 47) (Ev.move (show Oper.op _ = Op.move (Operand.tmp 0) from rfl) (by rfl)) (by rfl) (by rfl) ?_
  refine Ent.see 0 (by rfl) ?_
  refine Ls.does (some 48) (Does.call [4, 0, 0, 1, 2, 3] (show Oper.op _ = Op.call { callee := Callee.value (Operand.func 34), args := #[Operand.tmp 47], argTypes := #[28] } from rfl) Try.func34 (by kernel_rfl) (by kernel_rfl) (sent_sl g fr (id + 1) true fr to 6 (id + 1) vb ep st 1 2 p.1 n p.2 xs hn) (by rfl) (by rfl) (by rfl)) (by rfl) (by rfl) ?_
  intro q _
  refine Ls.does none (Does.store 4 (show Oper.op _ = Op.store 41 (Operand.tmp 6) (Operand.tmp 48) from rfl) (by rfl) (by rfl) (by rfl) (by kernel_rfl) (by rfl) (by kernel_rfl) (by rfl)) (by rfl) (by rfl) ?_
  intro _ _
  refine Ls.ev (some 7) (Ev.assign (show Oper.op _ = Op.assign (Operand.const (Value.int IntKind.i64 0)) from rfl) (by rfl)) (by rfl) (by rfl) ?_
  refine Ls.nil ?_
  refine Cd.ret ?_
  refine Ent.ret ((p, q)) (trivial) (Res.cell_tmp 4 (by rfl) (by rfl) (by rfl) (n := 19) (by kernel_rfl) (by rfl) (by rfl) (by rfl)) ?_ [0, 2, 1, 3] (by rfl) ?_
  · rfl
  · rfl


def sO (rc re rs : Int) (A : Option Addr) (c : Nat) (ys : List Int) : Int → SeenD := upd (fun _ => SeenD.zero) 1 ⟨5, true, rc, re, rs, A, c, ys⟩
theorem see_own (g b : Nat) (rc re rs : Int) (A : Option Addr) (c : Nat) (ys : List Int) (hm : ys.length ≤ 17592186044415) :
    Fn Try.prog 25 #[.pointer (some ⟨g, 0, none⟩), .int .i64 1, .int .i64 5] [winB g b, winM b 1 (sO rc re rs A c ys), winS (sO rc re rs A c ys)] (Option Addr × Nat) (fun p => .tuple #[.int .i64 2, repV rc re rs p.1 ys.length p.2]) (fun p => [winB g b, winM b 1 (sO rc re rs A c ys), winS (sO rc re rs A c ys), row p.1 ys.length p.2 3 1 (ints ys)]) (fun _ => True) :=
  see_again g b 1 (sO rc re rs A c ys) 1 5 (by decide) rfl (by decide) rfl hm
theorem last_own (g b : Nat) (rc re rs : Int) (A : Option Addr) (c : Nat) (ys : List Int) (hm : ys.length ≤ 17592186044415) :
    Fn Try.prog 26 #[.pointer (some ⟨g, 0, none⟩), .int .i64 1] [winB g b, winM b 1 (sO rc re rs A c ys), winS (sO rc re rs A c ys)] (Option Addr × Nat) (fun p => .tuple #[.int .i64 5, .bool true, repV rc re rs p.1 ys.length p.2])
      (fun p => [winB g b, winM b 1 (sO rc re rs A c ys), winS (sO rc re rs A c ys), row p.1 ys.length p.2 3 1 (ints ys)]) (fun _ => True) :=
  last_sl g b 1 (sO rc re rs A c ys) 1 (by decide) hm
theorem ints_set (l : List Int) (k : Nat) (v : Int) : (ints l).set k (.int .i64 v) = ints (l.set k v) := by simp [ints]

set_option maxHeartbeats 4000000 in
theorem own11_sl (W : World) (vb ep st : Int) (B : Option Addr) (d : Nat) (xs : List Int) (hn : xs.length ≤ 17592186044415) (hr : Reads W W.heap.size 1 B xs.length (ints xs)) (rc re rs : Int) (D : Option Addr) (d' : Nat) (ys : List Int) (hm : ys.length ≤ 17592186044415) (hr2 : Reads W W.heap.size 1 D ys.length (ints ys)) :
    Fn Try.prog 5 #[.agg #[.int .i64 vb, .int .i64 ep, .int .i64 st, .slice B xs.length d], .agg #[.int .i64 rc, .int .i64 re, .int .i64 rs, .slice D ys.length d']] [argc W] Unit (fun _ => .bool true) (fun _ => []) (fun _ => True) := by
  refine Fn.enter Try.func5 rfl Try.ntmps5 (by rfl) ?_
  intro w0
  skip
  refine Cd.seq ?_
  refine Cd.region ?_
  refine Ls.does (some 2) (Does.box (show Oper.op _ = Op.box 27 (Operand.tmp 0) from rfl) (by rfl)) (by rfl) (by rfl) ?_
  intro g1 _
  refine Ls.does (some 3) (Does.box (show Oper.op _ = Op.box 39 (Operand.tmp 1) from rfl) (by rfl)) (by rfl) (by rfl) ?_
  intro g2 _
  refine Ls.ev (some 4) (Ev.assign (show Oper.op _ = Op.assign (Operand.const (Value.bool false)) from rfl) (by rfl)) (by rfl) (by rfl) ?_
  refine Ls.nil ?_
  refine Cd.seq ?_
  refine Cd.region ?_
  refine Ls.does (some 22) (Does.call [0, 1, 2] (show Oper.op _ = Op.call { callee := Callee.value (Operand.func 8), args := #[Operand.const (Value.int IntKind.i64 3)], argTypes := #[3] } from rfl) Try.func8 (by kernel_rfl) (by kernel_rfl) (new_sl 3) (by rfl) (by rfl) (by rfl)) (by rfl) (by rfl) ?_
  intro g _
  skip
  refine Ls.does (some 23) (Does.call [0, 1, 2, 3] (show Oper.op _ = Op.call { callee := Callee.value (Operand.func 22), args := #[], argTypes := #[] } from rfl) Try.func22 (by kernel_rfl) (by kernel_rfl) (newWindow_sl) (by rfl) (by rfl) (by rfl)) (by rfl) (by rfl) ?_
  rintro ⟨gw, b⟩ _
  refine Ls.ev (some 5) (Ev.assign (show Oper.op _ = Op.assign (Operand.tmp 22) from rfl) (by rfl)) (by rfl) (by rfl) ?_
  refine Ls.ev (some 6) (Ev.assign (show Oper.op _ = Op.assign (Operand.tmp 23) from rfl) (by rfl)) (by rfl) (by rfl) ?_
  refine Ls.nil ?_
  refine Cd.seq ?_
  refine Cd.seq ?_
  refine Cd.region ?_
  refine Ls.does (some 24) (Does.call [0, 1, 2, 3, 4, 5, 6] (show Oper.op _ = Op.call { callee := Callee.value (Operand.func 9), args := #[], argTypes := #[] } from rfl) Try.func9 (by kernel_rfl) (by kernel_rfl) (awake_sl) (by rfl) (by rfl) (by rfl)) (by rfl) (by rfl) ?_
  intro _ _
  refine Ls.ev (some 25) (Ev.not (show Oper.op _ = Op.unOp UnOp.not 4 (Operand.tmp 24) from rfl) (by rfl)) (by rfl) (by rfl) ?_
  refine Ls.ev (some 26) (Ev.move (show Oper.op _ = Op.move (Operand.tmp 25) from rfl) (by rfl)) (by rfl) (by rfl) ?_
  refine Ls.ev (some 27) (Ev.move (show Oper.op _ = Op.move (Operand.tmp 5) from rfl) (by rfl)) (by rfl) (by rfl) ?_
  refine Ls.ev (some 28) (Ev.ptrNil (show Oper.op _ = Op.binOp BinOp.eql 28 (Operand.tmp 27) (Operand.const (Value.pointer none)) 28 from rfl) (by rfl) (by rfl) Try.underlying28) (by rfl) (by rfl) ?_
  refine Ls.ev (some 29) (Ev.pickF (show Oper.op _ = Op.pick (Operand.tmp 26) (Operand.const (Value.bool true)) (Operand.tmp 28) from rfl) (by rfl) (by rfl)) (by rfl) (by rfl) ?_
  refine Ls.ev (some 30) (Ev.move (show Oper.op _ = Op.move (Operand.tmp 29) from rfl) (by rfl)) (by rfl) (by rfl) ?_
  refine Ls.ev (some 31) (Ev.move (show Oper.op _ = Op.move (Operand.tmp 6) from rfl) (by rfl)) (by rfl) (by rfl) ?_
  refine Ls.ev (some 32) (Ev.ptrNil (show Oper.op _ = Op.binOp BinOp.eql 66 (Operand.tmp 31) (Operand.const (Value.pointer none)) 66 from rfl) (by rfl) (by rfl) Try.underlying66) (by rfl) (by rfl) ?_
  refine Ls.ev (some 33) (Ev.pickF (show Oper.op _ = Op.pick (Operand.tmp 30) (Operand.const (Value.bool true)) (Operand.tmp 32) from rfl) (by rfl) (by rfl)) (by rfl) (by rfl) ?_
  refine Ls.nil ?_
  refine Cd.cond_false (by rfl) (rfl) ?_
  refine Cd.skip ?_
  refine Cd.seq ?_
  refine Cd.region ?_
  refine Ls.ev (some 34) (Ev.loads 5 (show Oper.op _ = Op.load 27 (Operand.tmp 2) from rfl) (by rfl) (by rfl) (n := 4) (by kernel_rfl) (by rfl) (by rfl)) (by rfl) (by rfl) ?_
  refine Ent.arg 6 (by rfl) hr ?_
  refine Ls.does (some 35) (Does.call [0, 4, 1, 2, 3, 5, 6, 7] (show Oper.op _ = Op.call { callee := Callee.value (Operand.func 11), args := #[Operand.tmp 34], argTypes := #[27] } from rfl) Try.func11 (by kernel_rfl) (by kernel_rfl) (ownC_sl vb ep st B d xs hn) (by rfl) (by rfl) (by rfl)) (by rfl) (by rfl) ?_
  rintro ⟨p1, p2⟩ _
  dsimp only
  refine Ls.does (some 7) (Does.alloc (cs := [.int .i64 0, .int .i64 0, .int .i64 0, .slice none 0 0]) (show Oper.op _ = Op.alloc 27 from rfl) (ZeroIs.mk (.agg #[.int .i64 0, .int .i64 0, .int .i64 0, .slice none 0 0]) (by kernel_rfl) (by rfl))) (by rfl) (by rfl) ?_
  intro g3 _
  refine Ls.does none (Does.store 0 (show Oper.op _ = Op.store 27 (Operand.tmp 7) (Operand.tmp 35) from rfl) (by rfl) (by rfl) (by rfl) (by kernel_rfl) (by rfl) (by kernel_rfl) (by rfl)) (by rfl) (by rfl) ?_
  intro _ _
  refine Ls.nil ?_
  refine Cd.seq ?_
  refine Cd.region ?_
  refine Ls.ev (some 37) (Ev.move (show Oper.op _ = Op.move (Operand.tmp 5) from rfl) (by rfl)) (by rfl) (by rfl) ?_
  refine Ls.ev (some 38) (Ev.loads 0 (show Oper.op _ = Op.load 27 (Operand.tmp 7) from rfl) (by rfl) (by rfl) (n := 4) (by kernel_rfl) (by rfl) (by rfl)) (by rfl) (by rfl) ?_
  refine Ls.does (some 39) (Does.call [2, 1, 0, 3, 4, 5, 6, 7, 8] (show Oper.op _ = Op.call { callee := Callee.value (Operand.func 10), args := #[Operand.tmp 37, Operand.const (Value.int IntKind.i64 1), Operand.tmp 38], argTypes := #[28, 3, 27] } from rfl) Try.func10 (by kernel_rfl) (by kernel_rfl) (call_row g 3 0 0 0 0 0 0 0 0 0 0 1 vb ep st none p1 0 0 xs.length p2 xs hn (by decide)) (by rfl) (by rfl) (by rfl)) (by rfl) (by rfl) ?_
  rintro ⟨⟨r1, r2⟩, ⟨s1, s2⟩⟩ _
  dsimp only
  refine Ent.pick [4, 3, 2, 8, 9, 10, 0, 1, 5, 6, 7] (by rfl) (Ent.arg 5 (by rfl) hr2 ?_)
  refine Ls.ev (some 36) (Ev.move (show Oper.op _ = Op.move (Operand.tmp 39) from rfl) (by rfl)) (by rfl) (by rfl) ?_
  refine Ls.ev (some 40) (Ev.extract (show Oper.op _ = Op.extract (Operand.tmp 36) 0 from rfl) (by rfl) (by rfl)) (by rfl) (by rfl) ?_
  refine Ls.ev (some 41) (Ev.extract (show Oper.op _ = Op.extract (Operand.tmp 36) 1 from rfl) (by rfl) (by rfl)) (by rfl) (by rfl) ?_
  refine Ls.does (some 8) (Does.alloc (cs := [.int .i64 0, .int .i64 0, .int .i64 0, .int .i64 0, .int .i64 0, .int .i64 0, .int .i64 0, .slice none 0 0, .slice none 0 0, .bool false, .int .i64 0, .int .i64 0, .int .i64 0, .int .i64 0, .slice none 0 0, .int .i64 0, .int .i64 0, .int .i64 0, .slice none 0 0]) (show Oper.op _ = Op.alloc 41 from rfl) (ZeroIs.mk (.agg #[.int .i64 0, .int .i64 0, .int .i64 0, .int .i64 0, .int .i64 0, .int .i64 0, .int .i64 0, .slice none 0 0, .slice none 0 0, .bool false, .int .i64 0, .int .i64 0, .int .i64 0, .int .i64 0, .slice none 0 0, .int .i64 0, .int .i64 0, .int .i64 0, .slice none 0 0]) (by kernel_rfl) (by rfl))) (by rfl) (by rfl) ?_
  intro g4 _
  refine Ls.does none (Does.store 0 (show Oper.op _ = Op.store 41 (Operand.tmp 8) (Operand.tmp 40) from rfl) (by rfl) (by rfl) (by rfl) (by kernel_rfl) (by rfl) (by kernel_rfl) (by rfl)) (by rfl) (by rfl) ?_
  intro _ _
  refine Ls.ev (some 9) (Ev.assign (show Oper.op _ = Op.assign (Operand.tmp 41) from rfl) (by rfl)) (by rfl) (by rfl) ?_
  refine Ls.nil ?_
  refine Cd.seq ?_
  refine Cd.draw [11] (by kernel_rfl) ?_
  refine Rg.ev 0 (by rfl) (fun _ h => h) (Ev.move (show Oper.op _ = Op.move (Operand.tmp 6) from rfl) (by rfl)) (by rfl) (some 42) (by rfl) (by kernel_rfl) (by kernel_rfl) (by kernel_rfl) (by kernel_rfl) ?_
  refine Rg.ev 1 (by rfl) (fun _ h => h) (Ev.fieldAddr (k := 0) (show Oper.op _ = Op.fieldAddr 39 (Operand.tmp 3) 0 from rfl) (by rfl) (by kernel_rfl) (by rfl)) (by rfl) (some 43) (by rfl) (by kernel_rfl) (by kernel_rfl) (by kernel_rfl) (by kernel_rfl) ?_
  refine Rg.ev 2 (by rfl) (fun _ h => h) (Ev.load 5 (show Oper.op _ = Op.load 37 (Operand.tmp 43) from rfl) (by rfl) (by rfl) (by kernel_rfl) (by rfl)) (by rfl) (some 44) (by rfl) (by kernel_rfl) (by kernel_rfl) (by kernel_rfl) (by kernel_rfl) ?_
  refine Rg.ev 3 (by rfl) (fun _ h => h) (Ev.fieldAddr (k := 1) (show Oper.op _ = Op.fieldAddr 39 (Operand.tmp 3) 1 from rfl) (by rfl) (by kernel_rfl) (by rfl)) (by rfl) (some 45) (by rfl) (by kernel_rfl) (by kernel_rfl) (by kernel_rfl) (by kernel_rfl) ?_
  refine Rg.ev 4 (by rfl) (fun _ h => h) (Ev.load 5 (show Oper.op _ = Op.load 3 (Operand.tmp 45) from rfl) (by rfl) (by rfl) (by kernel_rfl) (by rfl)) (by rfl) (some 46) (by rfl) (by kernel_rfl) (by kernel_rfl) (by kernel_rfl) (by kernel_rfl) ?_
  refine Rg.ev 5 (by rfl) (fun _ h => h) (Ev.fieldAddr (k := 2) (show Oper.op _ = Op.fieldAddr 39 (Operand.tmp 3) 2 from rfl) (by rfl) (by kernel_rfl) (by rfl)) (by rfl) (some 47) (by rfl) (by kernel_rfl) (by kernel_rfl) (by kernel_rfl) (by kernel_rfl) ?_
  refine Rg.ev 6 (by rfl) (fun _ h => h) (Ev.loads 5 (show Oper.op _ = Op.load 25 (Operand.tmp 47) from rfl) (by rfl) (by rfl) (n := 2) (by kernel_rfl) (by rfl) (by rfl)) (by rfl) (some 48) (by rfl) (by kernel_rfl) (by kernel_rfl) (by kernel_rfl) (by kernel_rfl) ?_
  refine Rg.ev 7 (by rfl) (fun _ h => h) (Ev.buildP (pl := [(0, 1), (1, 1), (2, 2)]) (zs := [.int .i64 0, .int .i64 0, .int .i64 0, .slice none 0 0]) (show Oper.op _ = Op.build 27 #[(2, Operand.tmp 48)] from rfl) (by rfl) (by kernel_rfl) (by rfl)) (by rfl) (some 49) (by rfl) (by kernel_rfl) (by kernel_rfl) (by kernel_rfl) (by kernel_rfl) ?_
  refine Rg.does 8 (by rfl) (by kernel_rfl) (Does.call [1, 0, 1, 2, 3, 4, 5, 6, 7, 8, 9, 10, 11, 12] (show Oper.op _ = Op.call { callee := Callee.value (Operand.func 11), args := #[Operand.tmp 49], argTypes := #[27] } from rfl) Try.func11 (by kernel_rfl) (by kernel_rfl) (ownC_sl 0 0 rs D d' ys hm) (by rfl) (by rfl) (by rfl)) (by rfl) (some 50) (by rfl) (fun _ _ h => h.tail_) ?_
  rintro ⟨t1, t2⟩ _
  dsimp only
  refine Rg.ev 9 (by rfl) (fun _ h => h) (Ev.fieldA (k := 2) (m := 2) (show Oper.op _ = Op.field 27 (Operand.tmp 50) 2 from rfl) (by rfl) Try.underlying27 (by rfl) (by kernel_rfl) (by rfl) (by rfl)) (by rfl) (some 51) (by rfl) (by kernel_rfl) (by kernel_rfl) (by kernel_rfl) (by kernel_rfl) ?_
  refine Rg.ev 10 (by rfl) (fun _ h => h) (Ev.buildP (pl := [(0, 1), (1, 1), (2, 2)]) (zs := [.int .i64 0, .int .i64 0, .int .i64 0, .slice none 0 0]) (show Oper.op _ = Op.build 39 #[(0, Operand.tmp 44), (1, Operand.tmp 46), (2, Operand.tmp 51)] from rfl) (by rfl) (by kernel_rfl) (by rfl)) (by rfl) (some 52) (by rfl) (by kernel_rfl) (by kernel_rfl) (by kernel_rfl) (by kernel_rfl) ?_
  refine Ent.see 0 (by rfl) ?_
  refine Rg.tail 11 [] (by rfl) (by kernel_rfl) (Does.call [11, 12, 13, 0, 4, 3, 1, 5, 6, 7, 8, 9, 10] (show Oper.op _ = Op.call { callee := Callee.value (Operand.func 23), args := #[Operand.tmp 42, Operand.const (Value.int IntKind.i64 1), Operand.const (Value.int IntKind.i64 5), Operand.const (Value.bool true), Operand.tmp 52], argTypes := #[66, 3, 3, 4, 39] } from rfl) Try.func23 (by kernel_rfl) (by kernel_rfl) (load_yes gw b 0 (fun _ => SeenD.zero) 1 5 rc re rs t1 t2 ys (by decide) (by decide) (by decide) hm) (by rfl) (by rfl) (by rfl)) (by rfl) (some 53) (by rfl) (by kernel_rfl) (by kernel_rfl) ?_
  rintro ⟨u1, u2⟩ _
  dsimp only
  refine Rg.done (by kernel_rfl) ?_ _
  refine Cd.seq ?_
  refine Cd.seq ?_
  refine Cd.region ?_
  refine Ls.ev (some 54) (Ev.fieldAddr (k := 2) (show Oper.op _ = Op.fieldAddr 27 (Operand.tmp 7) 2 from rfl) (by rfl) (by kernel_rfl) (by rfl)) (by rfl) (by rfl) ?_
  refine Ls.ev (some 55) (Ev.fieldAddr (k := 1) (show Oper.op _ = Op.fieldAddr 25 (Operand.tmp 54) 1 from rfl) (by rfl) (by kernel_rfl) (by rfl)) (by rfl) (by rfl) ?_
  refine Ls.ev (some 56) (Ev.load 4 (show Oper.op _ = Op.load 23 (Operand.tmp 55) from rfl) (by rfl) (by rfl) (by kernel_rfl) (by rfl)) (by rfl) (by rfl) ?_
  refine Ls.ev (some 57) (Ev.len (show Oper.op _ = Op.call { callee := Callee.builtin Builtin.len, args := #[Operand.tmp 56], argTypes := #[23] } from rfl) (by rfl) Try.underlying23) (by rfl) (by rfl) ?_
  refine Ls.ev (some 58) (Ev.move (show Oper.op _ = Op.move (Operand.const (Value.int IntKind.i64 0)) from rfl) (by rfl)) (by rfl) (by rfl) ?_
  refine Ls.nil ?_
  refine Cd.block ?_
  refine Ent.pick [3, 4, 5, 6, 7, 8, 9, 10, 11, 0, 1, 2] (by rfl) ?_
  refine Cd.loop (ι := Nat × List Int) (fun j => [(2, .pointer (some ⟨g1, 0, none⟩)), (3, .pointer (some ⟨g2, 0, none⟩)), (5, .pointer (some ⟨g, 0, none⟩)), (6, .pointer (some ⟨gw, 0, none⟩)), (7, .pointer (some ⟨g3, 0, none⟩)), (8, .pointer (some ⟨g4, 0, none⟩)), (57, .int .i64 xs.length), (58, .int .i64 j.1)]) (fun j => [row p1 xs.length p2 3 1 (ints j.2), blk g3 27 [.int .i64 vb, .int .i64 ep, .int .i64 st, .slice p1 xs.length p2], blk g4 41 (msg 3 1 6 1 vb ep st s1 xs.length s2), row s1 xs.length s2 3 1 (ints xs), blk g2 39 [.int .i64 rc, .int .i64 re, .int .i64 rs, .slice D ys.length d'], blk g1 27 [.int .i64 vb, .int .i64 ep, .int .i64 st, .slice B xs.length d], argc W, blk g 90 (callC 3 1 true (msg 3 1 6 1 vb ep st r1 xs.length r2) 1 2), rd r1 xs.length 1 (ints xs), winB gw b, winM b 1 (sO rc re rs u1 u2 ys), winS (sO rc re rs u1 u2 ys)]) (fun j => j.1 ≤ xs.length ∧ j.2.length = xs.length) (fun j => xs.length - j.1) ((0, xs)) (⟨Nat.zero_le _, rfl⟩) ?_ rfl ?_
  · (repeat (first | exact trivial | refine ⟨by rfl, ?_⟩))
  rintro ⟨k, l⟩ ⟨hk, hl⟩
  dsimp only at hk hl ⊢
  refine Cd.seq ?_
  refine Cd.region ?_
  refine Ls.ev (some 59) (Ev.lss (show Oper.op _ = Op.binOp BinOp.lss 3 (Operand.tmp 58) (Operand.tmp 57) 3 from rfl) (by rfl) (by rfl)) (by rfl) (by rfl) ?_
  refine Ls.nil ?_
  refine Cd.seq ?_
  refine Cd.cond _ (by rfl) (fun hlj => ?_) (fun hlj => ?_)
  · skip
    have hlj : k < xs.length := by have := of_decide_eq_true hlj; omega
    refine Ent.rowSome 0 (by rfl) (by omega) (fun ad had => ?_)
    subst had
    refine Cd.skip ?_
    refine Cd.seq ?_
    refine Cd.block ?_
    refine Cd.seq ?_
    refine Cd.region ?_
    refine Ls.ev (some 60) (Ev.move (show Oper.op _ = Op.move (Operand.tmp 58) from rfl) (by rfl)) (by rfl) (by rfl) ?_
    refine Ls.ev (some 10) (Ev.assign (show Oper.op _ = Op.assign (Operand.tmp 60) from rfl) (by rfl)) (by rfl) (by rfl) ?_
    refine Ls.nil ?_
    refine Cd.region ?_
    refine Ls.ev (some 61) (Ev.fieldAddr (k := 2) (show Oper.op _ = Op.fieldAddr 27 (Operand.tmp 7) 2 from rfl) (by rfl) (by kernel_rfl) (by rfl)) (by rfl) (by rfl) ?_
    refine Ls.ev (some 62) (Ev.fieldAddr (k := 1) (show Oper.op _ = Op.fieldAddr 25 (Operand.tmp 61) 1 from rfl) (by rfl) (by kernel_rfl) (by rfl)) (by rfl) (by rfl) ?_
    refine Ls.ev (some 63) (Ev.load 1 (show Oper.op _ = Op.load 23 (Operand.tmp 62) from rfl) (by rfl) (by rfl) (by kernel_rfl) (by rfl)) (by rfl) (by rfl) ?_
    refine Ls.ev (some 64) (Ev.move (show Oper.op _ = Op.move (Operand.tmp 10) from rfl) (by rfl)) (by rfl) (by rfl) ?_
    refine Ls.ev (some 65) (Ev.indexAt (sz := 1) (show Oper.op _ = Op.indexAddr 23 (Operand.tmp 63) (Operand.tmp 64) from rfl) (by rfl) (by rfl) Try.underlying23 (by kernel_rfl) (by omega)) (by rfl) (by rfl) ?_
    refine Ls.does none (Does.storeEl (k := k) 0 (show Oper.op _ = Op.store 3 (Operand.tmp 65) (Operand.const (Value.int IntKind.i64 (-1))) from rfl) (by rfl) (by rfl) (by rfl) rfl (by kernel_rfl) rfl hlj (ints_set l k (-1))) (by rfl) (by rfl) ?_
    intro _ _
    refine Ls.nil ?_
    refine Cd.region ?_
    refine Ls.ev (some 66) (Ev.addI (show Oper.op _ = Op.binOp BinOp.add 3 (Operand.tmp 58) (Operand.const (Value.int IntKind.i64 1)) 3 from rfl) (by rfl) (by rfl) (by omega)) (by rfl) (by rfl) ?_
    refine Ls.ev (some 58) (Ev.move (show Oper.op _ = Op.move (Operand.tmp 66) from rfl) (by rfl)) (by rfl) (by rfl) ?_
    refine Ls.nil ?_
    refine Ent.inv ((k + 1, l.set k (-1))) ?_ ?_ ?_
    · (try dsimp only); exact ⟨⟨hlj, by rw [List.length_set]; exact hl⟩, by show xs.length - (k + 1) < xs.length - k; omega⟩
    · (repeat (first | exact trivial | refine ⟨by rfl, ?_⟩ | refine ⟨by simp only [List.length_append, List.length_cons, List.length_nil]; rfl, ?_⟩ | refine ⟨by push_cast; rfl, ?_⟩))
    · rfl
  skip
  clear hlj hk hl
  refine Cd.exit ?_
  refine Cd.seq ?_
  refine Cd.seq ?_
  refine Cd.region ?_
  refine Ls.ev (some 67) (Ev.fieldAddr (k := 11) (show Oper.op _ = Op.fieldAddr 41 (Operand.tmp 8) 7 from rfl) (by rfl) (by kernel_rfl) (by rfl)) (by rfl) (by rfl) ?_
  refine Ls.ev (some 68) (Ev.fieldAddr (k := 2) (show Oper.op _ = Op.fieldAddr 27 (Operand.tmp 67) 2 from rfl) (by rfl) (by kernel_rfl) (by rfl)) (by rfl) (by rfl) ?_
  refine Ls.ev (some 69) (Ev.fieldAddr (k := 1) (show Oper.op _ = Op.fieldAddr 25 (Operand.tmp 68) 1 from rfl) (by rfl) (by kernel_rfl) (by rfl)) (by rfl) (by rfl) ?_
  refine Ls.ev (some 70) (Ev.load 2 (show Oper.op _ = Op.load 23 (Operand.tmp 69) from rfl) (by rfl) (by rfl) (by kernel_rfl) (by rfl)) (by rfl) (by rfl) ?_
  refine Ls.ev (some 71) (Ev.len (show Oper.op _ = Op.call { callee := Callee.builtin Builtin.len, args := #[Operand.tmp 70], argTypes := #[23] } from rfl) (by rfl) Try.underlying23) (by rfl) (by rfl) ?_
  refine Ls.ev (some 72) (Ev.move (show Oper.op _ = Op.move (Operand.const (Value.int IntKind.i64 0)) from rfl) (by rfl)) (by rfl) (by rfl) ?_
  refine Ls.nil ?_
  refine Cd.block ?_
  refine Ent.pick [3, 2, 4, 5, 6, 7, 8, 9, 10, 11] (by rfl) ?_
  refine Cd.loop (ι := Nat × List Int) (fun j => [(2, .pointer (some ⟨g1, 0, none⟩)), (3, .pointer (some ⟨g2, 0, none⟩)), (5, .pointer (some ⟨g, 0, none⟩)), (6, .pointer (some ⟨gw, 0, none⟩)), (8, .pointer (some ⟨g4, 0, none⟩)), (71, .int .i64 xs.length), (72, .int .i64 j.1)]) (fun j => [row s1 xs.length s2 3 1 (ints j.2), blk g4 41 (msg 3 1 6 1 vb ep st s1 xs.length s2), blk g2 39 [.int .i64 rc, .int .i64 re, .int .i64 rs, .slice D ys.length d'], blk g1 27 [.int .i64 vb, .int .i64 ep, .int .i64 st, .slice B xs.length d], argc W, blk g 90 (callC 3 1 true (msg 3 1 6 1 vb ep st r1 xs.length r2) 1 2), rd r1 xs.length 1 (ints xs), winB gw b, winM b 1 (sO rc re rs u1 u2 ys), winS (sO rc re rs u1 u2 ys)]) (fun j => j.1 ≤ xs.length ∧ j.2.length = xs.length) (fun j => xs.length - j.1) ((0, xs)) (⟨Nat.zero_le _, rfl⟩) ?_ rfl ?_
  · (repeat (first | exact trivial | refine ⟨by rfl, ?_⟩))
  rintro ⟨k, l⟩ ⟨hk, hl⟩
  dsimp only at hk hl ⊢
  refine Cd.seq ?_
  refine Cd.region ?_
  refine Ls.ev (some 73) (Ev.lss (show Oper.op _ = Op.binOp BinOp.lss 3 (Operand.tmp 72) (Operand.tmp 71) 3 from rfl) (by rfl) (by rfl)) (by rfl) (by rfl) ?_
  refine Ls.nil ?_
  refine Cd.seq ?_
  refine Cd.cond _ (by rfl) (fun hlj => ?_) (fun hlj => ?_)
  · skip
    have hlj : k < xs.length := by have := of_decide_eq_true hlj; omega
    refine Ent.rowSome 0 (by rfl) (by omega) (fun ad had => ?_)
    subst had
    refine Cd.skip ?_
    refine Cd.seq ?_
    refine Cd.block ?_
    refine Cd.seq ?_
    refine Cd.region ?_
    refine Ls.ev (some 74) (Ev.move (show Oper.op _ = Op.move (Operand.tmp 72) from rfl) (by rfl)) (by rfl) (by rfl) ?_
    refine Ls.ev (some 11) (Ev.assign (show Oper.op _ = Op.assign (Operand.tmp 74) from rfl) (by rfl)) (by rfl) (by rfl) ?_
    refine Ls.nil ?_
    refine Cd.region ?_
    refine Ls.ev (some 75) (Ev.fieldAddr (k := 11) (show Oper.op _ = Op.fieldAddr 41 (Operand.tmp 8) 7 from rfl) (by rfl) (by kernel_rfl) (by rfl)) (by rfl) (by rfl) ?_
    refine Ls.ev (some 76) (Ev.fieldAddr (k := 2) (show Oper.op _ = Op.fieldAddr 27 (Operand.tmp 75) 2 from rfl) (by rfl) (by kernel_rfl) (by rfl)) (by rfl) (by rfl) ?_
    refine Ls.ev (some 77) (Ev.fieldAddr (k := 1) (show Oper.op _ = Op.fieldAddr 25 (Operand.tmp 76) 1 from rfl) (by rfl) (by kernel_rfl) (by rfl)) (by rfl) (by rfl) ?_
    refine Ls.ev (some 78) (Ev.load 1 (show Oper.op _ = Op.load 23 (Operand.tmp 77) from rfl) (by rfl) (by rfl) (by kernel_rfl) (by rfl)) (by rfl) (by rfl) ?_
    refine Ls.ev (some 79) (Ev.move (show Oper.op _ = Op.move (Operand.tmp 11) from rfl) (by rfl)) (by rfl) (by rfl) ?_
    refine Ls.ev (some 80) (Ev.indexAt (sz := 1) (show Oper.op _ = Op.indexAddr 23 (Operand.tmp 78) (Operand.tmp 79) from rfl) (by rfl) (by rfl) Try.underlying23 (by kernel_rfl) (by omega)) (by rfl) (by rfl) ?_
    refine Ls.does none (Does.storeEl (k := k) 0 (show Oper.op _ = Op.store 3 (Operand.tmp 80) (Operand.const (Value.int IntKind.i64 (-2))) from rfl) (by rfl) (by rfl) (by rfl) rfl (by kernel_rfl) rfl hlj (ints_set l k (-2))) (by rfl) (by rfl) ?_
    intro _ _
    refine Ls.nil ?_
    refine Cd.region ?_
    refine Ls.ev (some 81) (Ev.addI (show Oper.op _ = Op.binOp BinOp.add 3 (Operand.tmp 72) (Operand.const (Value.int IntKind.i64 1)) 3 from rfl) (by rfl) (by rfl) (by omega)) (by rfl) (by rfl) ?_
    refine Ls.ev (some 72) (Ev.move (show Oper.op _ = Op.move (Operand.tmp 81) from rfl) (by rfl)) (by rfl) (by rfl) ?_
    refine Ls.nil ?_
    refine Ent.inv ((k + 1, l.set k (-2))) ?_ ?_ ?_
    · (try dsimp only); exact ⟨⟨hlj, by rw [List.length_set]; exact hl⟩, by show xs.length - (k + 1) < xs.length - k; omega⟩
    · (repeat (first | exact trivial | refine ⟨by rfl, ?_⟩ | refine ⟨by simp only [List.length_append, List.length_cons, List.length_nil]; rfl, ?_⟩ | refine ⟨by push_cast; rfl, ?_⟩))
    · rfl
  skip
  clear hlj hk hl
  refine Cd.exit ?_
  refine Cd.seq ?_
  refine Cd.region ?_
  refine Ls.ev (some 82) (Ev.move (show Oper.op _ = Op.move (Operand.tmp 5) from rfl) (by rfl)) (by rfl) (by rfl) ?_
  refine Ls.does (some 83) (Does.call [5, 6, 2, 3, 4, 7, 8, 9] (show Oper.op _ = Op.call { callee := Callee.value (Operand.func 12), args := #[Operand.tmp 82, Operand.const (Value.int IntKind.i64 6)], argTypes := #[28, 3] } from rfl) Try.func12 (by kernel_rfl) (by kernel_rfl) (tick_sl g 3 1 true 3 1 6 1 vb ep st 1 2 6 r1 xs.length r2 xs hn (fun _ => by decide) (by decide)) (by rfl) (by rfl) (by rfl)) (by rfl) (by rfl) ?_
  rintro ⟨⟨am, cm⟩, ms⟩ hms
  have hms2 : ms.length = 2 := hms.trans (by decide)
  obtain ⟨⟨x0, d0⟩, ⟨x1, d1⟩, rfl⟩ : ∃ a b, ms = [a, b] := by match ms, hms2 with | [a, b], _ => exact ⟨a, b, rfl⟩
  clear hms hms2
  dsimp only [List.length_cons, List.length_nil]
  refine Ent.rowSome 1 (by rfl) (Nat.zero_lt_succ _) (fun ad had => ?_)
  subst had
  have hq0 : ([(x0, d0), (x1, d1)] : List (Option Addr × Nat))[0]? = some (x0, d0) := rfl
  have hq1 : ([(x0, d0), (x1, d1)] : List (Option Addr × Nat))[1]? = some (x1, d1) := rfl
  refine Ent.pick [2, 1, 3, 4, 5, 6, 7, 8] (by rfl) (Ent.map (fun w h => h.starx_open) (Ent.arg 5 (by rfl) hr ?_))
  skip
  refine Ls.ev (some 12) (Ev.assign (show Oper.op _ = Op.assign (Operand.tmp 83) from rfl) (by rfl)) (by rfl) (by rfl) ?_
  refine Ls.nil ?_
  refine Cd.seq ?_
  refine Cd.seq ?_
  refine Cd.draw [] (by kernel_rfl) ?_
  refine Rg.ev 0 (by rfl) (fun _ h => h) (Ev.move (show Oper.op _ = Op.move (Operand.tmp 12) from rfl) (by rfl)) (by rfl) (some 84) (by rfl) (by kernel_rfl) (by kernel_rfl) (by kernel_rfl) (by kernel_rfl) ?_
  refine Rg.ev 1 (by rfl) (fun _ h => h) (Ev.len (show Oper.op _ = Op.call { callee := Callee.builtin Builtin.len, args := #[Operand.tmp 84], argTypes := #[46] } from rfl) (by rfl) Try.underlying46) (by rfl) (some 85) (by rfl) (by kernel_rfl) (by kernel_rfl) (by kernel_rfl) (by kernel_rfl) ?_
  refine Rg.ev 2 (by rfl) (fun _ h => h) (Ev.neq (show Oper.op _ = Op.binOp BinOp.neq 3 (Operand.tmp 85) (Operand.const (Value.int IntKind.i64 2)) 3 from rfl) (by rfl) (by rfl)) (by rfl) (some 86) (by rfl) (by kernel_rfl) (by kernel_rfl) (by kernel_rfl) (by kernel_rfl) ?_
  refine Rg.ev 3 (by rfl) (fun _ h => h) (Ev.move (show Oper.op _ = Op.move (Operand.tmp 86) from rfl) (by rfl)) (by rfl) (some 87) (by rfl) (by kernel_rfl) (by kernel_rfl) (by kernel_rfl) (by kernel_rfl) ?_
  refine Rg.ev 4 (by rfl) (fun _ h => h) (Ev.move (show Oper.op _ = Op.move (Operand.tmp 12) from rfl) (by rfl)) (by rfl) (some 88) (by rfl) (by kernel_rfl) (by kernel_rfl) (by kernel_rfl) (by kernel_rfl) ?_
  refine Rg.ev 5 (by rfl) (fun _ h => h) (Ev.indexAddr (sz := 19) (show Oper.op _ = Op.indexAddr 46 (Operand.tmp 88) (Operand.const (Value.int IntKind.i64 0)) from rfl) (by rfl) (by rfl) Try.underlying46 (by kernel_rfl) (by omega)) (by rfl) (some 89) (by rfl) (by kernel_rfl) (by kernel_rfl) (by kernel_rfl) (by kernel_rfl) ?_
  refine Rg.ev 6 (by rfl) (fun _ h => h) (Ev.fieldAddrE0 (k := 11) (show Oper.op _ = Op.fieldAddr 41 (Operand.tmp 89) 7 from rfl) (by rfl) (by kernel_rfl)) (by rfl) (some 90) (by rfl) (by kernel_rfl) (by kernel_rfl) (by kernel_rfl) (by kernel_rfl) ?_
  refine Rg.ev 7 (by rfl) (fun _ h => h) (Ev.loadElS (m := 4) (show Oper.op _ = Op.load 27 (Operand.tmp 90) from rfl) (by rfl) (ReadsIn.row 3 (by rfl)) (by kernel_rfl) (by intro _; rfl) (by assumption) (by rfl) (by rfl)) (by rfl) (some 91) (by rfl) (by kernel_rfl) (by kernel_rfl) (by kernel_rfl) (by kernel_rfl) ?_
  refine Rg.ev 8 (by rfl) (fun _ h => h) (Ev.loads 5 (show Oper.op _ = Op.load 27 (Operand.tmp 2) from rfl) (by rfl) (by rfl) (n := 4) (by kernel_rfl) (by rfl) (by rfl)) (by rfl) (some 92) (by rfl) (by kernel_rfl) (by kernel_rfl) (by kernel_rfl) (by kernel_rfl) ?_
  refine Rg.does 9 (by rfl) (by kernel_rfl) (Does.read (show Oper.op _ = Op.call { callee := Callee.value (Operand.func 24), args := #[Operand.tmp 91, Operand.tmp 92], argTypes := #[27, 27] } from rfl) Try.func24 (by kernel_rfl) (by kernel_rfl) (sameCall_sl vb vb ep ep st st x0 B d0 d xs xs hn) (by rfl) (by rfl) ⟨ReadsIn.row 1 (by rfl), ReadsIn.rd 0 (by rfl), trivial⟩) (by rfl) (some 93) (by rfl) (fun _ _ h => h) ?_
  intro _ _
  refine Rg.ev 10 (by rfl) (fun _ h => h) (Ev.not (show Oper.op _ = Op.unOp UnOp.not 4 (Operand.tmp 93) from rfl) (by rfl)) (by rfl) (some 94) (by rfl) (by kernel_rfl) (by kernel_rfl) (by kernel_rfl) (by kernel_rfl) ?_
  refine Rg.ev 11 (by rfl) (fun _ h => h) (Ev.pickF (show Oper.op _ = Op.pick (Operand.tmp 87) (Operand.const (Value.bool true)) (Operand.tmp 94) from rfl) (by rfl) (by rfl)) (by rfl) (some 95) (by rfl) (by kernel_rfl) (by kernel_rfl) (by kernel_rfl) (by kernel_rfl) ?_
  refine Rg.done (by kernel_rfl) ?_ _
  refine Cd.cond_false (by rfl) (by rw [decide_eq_true ⟨rfl, rfl, rfl, rfl⟩]; rfl) ?_
  refine Cd.skip ?_
  refine Cd.seq ?_
  refine Cd.seq ?_
  refine Cd.region ?_
  refine Ls.ev (some 96) (Ev.move (show Oper.op _ = Op.move (Operand.tmp 12) from rfl) (by rfl)) (by rfl) (by rfl) ?_
  refine Ls.ev (some 97) (Ev.indexAddr (sz := 19) (show Oper.op _ = Op.indexAddr 46 (Operand.tmp 96) (Operand.const (Value.int IntKind.i64 0)) from rfl) (by rfl) (by rfl) Try.underlying46 (by kernel_rfl) (by omega)) (by rfl) (by rfl) ?_
  refine Ls.ev (some 98) (Ev.fieldAddrE0 (k := 11) (show Oper.op _ = Op.fieldAddr 41 (Operand.tmp 97) 7 from rfl) (by rfl) (by kernel_rfl)) (by rfl) (by rfl) ?_
  refine Ls.ev (some 99) (Ev.fieldAddrE1 (k := 2) (show Oper.op _ = Op.fieldAddr 27 (Operand.tmp 98) 2 from rfl) (by rfl) (by kernel_rfl)) (by rfl) (by rfl) ?_
  refine Ls.ev (some 100) (Ev.fieldAddrE1 (k := 1) (show Oper.op _ = Op.fieldAddr 25 (Operand.tmp 99) 1 from rfl) (by rfl) (by kernel_rfl)) (by rfl) (by rfl) ?_
  refine Ls.ev (some 101) (Ev.loadElF (show Oper.op _ = Op.load 23 (Operand.tmp 100) from rfl) (by rfl) (ReadsIn.row 3 (by rfl)) (by kernel_rfl) (by intro _; rfl) (by assumption) (by rfl)) (by rfl) (by rfl) ?_
  refine Ls.ev (some 102) (Ev.len (show Oper.op _ = Op.call { callee := Callee.builtin Builtin.len, args := #[Operand.tmp 101], argTypes := #[23] } from rfl) (by rfl) Try.underlying23) (by rfl) (by rfl) ?_
  refine Ls.ev (some 103) (Ev.move (show Oper.op _ = Op.move (Operand.const (Value.int IntKind.i64 0)) from rfl) (by rfl)) (by rfl) (by rfl) ?_
  refine Ls.nil ?_
  refine Cd.block ?_
  refine Ent.pick [1, 3, 2, 4, 5, 6, 7, 8, 9] (by rfl) ?_
  refine Cd.loop (ι := Nat × List Int) (fun j => [(2, .pointer (some ⟨g1, 0, none⟩)), (3, .pointer (some ⟨g2, 0, none⟩)), (6, .pointer (some ⟨gw, 0, none⟩)), (12, .slice (some ad) 2 cm), (102, .int .i64 xs.length), (103, .int .i64 j.1)]) (fun j => [row x0 xs.length d0 3 1 (ints j.2), row (some ad) 2 cm 41 19 (flatM 3 1 6 1 vb ep st xs.length [(x0, d0), (x1, d1)]), row x1 xs.length d1 3 1 (ints xs), blk g2 39 [.int .i64 rc, .int .i64 re, .int .i64 rs, .slice D ys.length d'], blk g1 27 [.int .i64 vb, .int .i64 ep, .int .i64 st, .slice B xs.length d], argc W, winB gw b, winM b 1 (sO rc re rs u1 u2 ys), winS (sO rc re rs u1 u2 ys)]) (fun j => j.1 ≤ xs.length ∧ j.2.length = xs.length) (fun j => xs.length - j.1) ((0, xs)) (⟨Nat.zero_le _, rfl⟩) ?_ rfl ?_
  · (repeat (first | exact trivial | refine ⟨by rfl, ?_⟩))
  rintro ⟨k, l⟩ ⟨hk, hl⟩
  dsimp only at hk hl ⊢
  refine Cd.seq ?_
  refine Cd.region ?_
  refine Ls.ev (some 104) (Ev.lss (show Oper.op _ = Op.binOp BinOp.lss 3 (Operand.tmp 103) (Operand.tmp 102) 3 from rfl) (by rfl) (by rfl)) (by rfl) (by rfl) ?_
  refine Ls.nil ?_
  refine Cd.seq ?_
  refine Cd.cond _ (by rfl) (fun hlj => ?_) (fun hlj => ?_)
  · skip
    have hlj : k < xs.length := by have := of_decide_eq_true hlj; omega
    refine Ent.rowSome 0 (by rfl) (by omega) (fun ad0 had => ?_)
    subst had
    refine Cd.skip ?_
    refine Cd.seq ?_
    refine Cd.block ?_
    refine Cd.seq ?_
    refine Cd.region ?_
    refine Ls.ev (some 105) (Ev.move (show Oper.op _ = Op.move (Operand.tmp 103) from rfl) (by rfl)) (by rfl) (by rfl) ?_
    refine Ls.ev (some 13) (Ev.assign (show Oper.op _ = Op.assign (Operand.tmp 105) from rfl) (by rfl)) (by rfl) (by rfl) ?_
    refine Ls.nil ?_
    refine Cd.region ?_
    refine Ls.ev (some 106) (Ev.move (show Oper.op _ = Op.move (Operand.tmp 12) from rfl) (by rfl)) (by rfl) (by rfl) ?_
    refine Ls.ev (some 107) (Ev.indexAddr (sz := 19) (show Oper.op _ = Op.indexAddr 46 (Operand.tmp 106) (Operand.const (Value.int IntKind.i64 0)) from rfl) (by rfl) (by rfl) Try.underlying46 (by kernel_rfl) (by omega)) (by rfl) (by rfl) ?_
    refine Ls.ev (some 108) (Ev.fieldAddrE0 (k := 11) (show Oper.op _ = Op.fieldAddr 41 (Operand.tmp 107) 7 from rfl) (by rfl) (by kernel_rfl)) (by rfl) (by rfl) ?_
    refine Ls.ev (some 109) (Ev.fieldAddrE1 (k := 2) (show Oper.op _ = Op.fieldAddr 27 (Operand.tmp 108) 2 from rfl) (by rfl) (by kernel_rfl)) (by rfl) (by rfl) ?_
    refine Ls.ev (some 110) (Ev.fieldAddrE1 (k := 1) (show Oper.op _ = Op.fieldAddr 25 (Operand.tmp 109) 1 from rfl) (by rfl) (by kernel_rfl)) (by rfl) (by rfl) ?_
    refine Ls.ev (some 111) (Ev.loadElF (show Oper.op _ = Op.load 23 (Operand.tmp 110) from rfl) (by rfl) (ReadsIn.row 1 (by rfl)) (by kernel_rfl) (by intro _; rfl) (by assumption) (by rfl)) (by rfl) (by rfl) ?_
    refine Ls.ev (some 112) (Ev.move (show Oper.op _ = Op.move (Operand.tmp 13) from rfl) (by rfl)) (by rfl) (by rfl) ?_
    refine Ls.ev (some 113) (Ev.indexAt (sz := 1) (show Oper.op _ = Op.indexAddr 23 (Operand.tmp 111) (Operand.tmp 112) from rfl) (by rfl) (by rfl) Try.underlying23 (by kernel_rfl) (by omega)) (by rfl) (by rfl) ?_
    refine Ls.does none (Does.storeEl (k := k) 0 (show Oper.op _ = Op.store 3 (Operand.tmp 113) (Operand.const (Value.int IntKind.i64 (-3))) from rfl) (by rfl) (by rfl) (by rfl) rfl (by kernel_rfl) rfl hlj (ints_set l k (-3))) (by rfl) (by rfl) ?_
    intro _ _
    refine Ls.nil ?_
    refine Cd.region ?_
    refine Ls.ev (some 114) (Ev.addI (show Oper.op _ = Op.binOp BinOp.add 3 (Operand.tmp 103) (Operand.const (Value.int IntKind.i64 1)) 3 from rfl) (by rfl) (by rfl) (by omega)) (by rfl) (by rfl) ?_
    refine Ls.ev (some 103) (Ev.move (show Oper.op _ = Op.move (Operand.tmp 114) from rfl) (by rfl)) (by rfl) (by rfl) ?_
    refine Ls.nil ?_
    refine Ent.inv ((k + 1, l.set k (-3))) ?_ ?_ ?_
    · (try dsimp only); exact ⟨⟨hlj, by rw [List.length_set]; exact hl⟩, by show xs.length - (k + 1) < xs.length - k; omega⟩
    · (repeat (first | exact trivial | refine ⟨by rfl, ?_⟩ | refine ⟨by simp only [List.length_append, List.length_cons, List.length_nil]; rfl, ?_⟩ | refine ⟨by push_cast; rfl, ?_⟩))
    · rfl
  skip
  clear hlj hk hl
  refine Cd.exit ?_
  refine Cd.seq ?_
  refine Cd.region ?_
  refine Ls.ev (some 116) (Ev.move (show Oper.op _ = Op.move (Operand.tmp 6) from rfl) (by rfl)) (by rfl) (by rfl) ?_
  skip
  refine Ls.does (some 117) (Does.call [6, 7, 8, 2, 1, 3, 4, 5] (show Oper.op _ = Op.call { callee := Callee.value (Operand.func 25), args := #[Operand.tmp 116, Operand.const (Value.int IntKind.i64 1), Operand.const (Value.int IntKind.i64 5)], argTypes := #[66, 3, 3] } from rfl) Try.func25 (by kernel_rfl) (by kernel_rfl) (see_own gw b rc re rs u1 u2 ys hm) (by rfl) (by rfl) (by rfl)) (by rfl) (by rfl) ?_
  rintro ⟨a1, a2⟩ _
  dsimp only
  refine Ls.ev (some 115) (Ev.move (show Oper.op _ = Op.move (Operand.tmp 117) from rfl) (by rfl)) (by rfl) (by rfl) ?_
  refine Ls.ev (some 118) (Ev.extract (show Oper.op _ = Op.extract (Operand.tmp 115) 0 from rfl) (by rfl) (by rfl)) (by rfl) (by rfl) ?_
  refine Ls.ev (some 119) (Ev.extract (show Oper.op _ = Op.extract (Operand.tmp 115) 1 from rfl) (by rfl) (by rfl)) (by rfl) (by rfl) ?_
  refine Ls.does (some 15) (Does.alloc (cs := [.int .i64 0, .int .i64 0, .int .i64 0, .slice none 0 0]) (show Oper.op _ = Op.alloc 39 from rfl) (ZeroIs.mk (.agg #[.int .i64 0, .int .i64 0, .int .i64 0, .slice none 0 0]) (by kernel_rfl) (by rfl))) (by rfl) (by rfl) ?_
  intro g5 _
  refine Ls.ev (some 14) (Ev.assign (show Oper.op _ = Op.assign (Operand.tmp 118) from rfl) (by rfl)) (by rfl) (by rfl) ?_
  refine Ls.does none (Does.store 0 (show Oper.op _ = Op.store 39 (Operand.tmp 15) (Operand.tmp 119) from rfl) (by rfl) (by rfl) (by rfl) (by kernel_rfl) (by rfl) (by kernel_rfl) (by rfl)) (by rfl) (by rfl) ?_
  intro _ _
  refine Ls.nil ?_
  refine Cd.seq ?_
  refine Cd.region ?_
  refine Ls.ev (some 121) (Ev.move (show Oper.op _ = Op.move (Operand.tmp 6) from rfl) (by rfl)) (by rfl) (by rfl) ?_
  refine Ls.does (some 122) (Does.call [1, 2, 3, 0, 4, 5, 6, 7, 8, 9] (show Oper.op _ = Op.call { callee := Callee.value (Operand.func 26), args := #[Operand.tmp 121, Operand.const (Value.int IntKind.i64 1)], argTypes := #[66, 3] } from rfl) Try.func26 (by kernel_rfl) (by kernel_rfl) (last_own gw b rc re rs u1 u2 ys hm) (by rfl) (by rfl) (by rfl)) (by rfl) (by rfl) ?_
  rintro ⟨b1, b2⟩ _
  dsimp only
  refine Ls.ev (some 120) (Ev.move (show Oper.op _ = Op.move (Operand.tmp 122) from rfl) (by rfl)) (by rfl) (by rfl) ?_
  refine Ls.ev (some 123) (Ev.extract (show Oper.op _ = Op.extract (Operand.tmp 120) 0 from rfl) (by rfl) (by rfl)) (by rfl) (by rfl) ?_
  refine Ls.ev (some 124) (Ev.extract (show Oper.op _ = Op.extract (Operand.tmp 120) 1 from rfl) (by rfl) (by rfl)) (by rfl) (by rfl) ?_
  refine Ls.ev (some 125) (Ev.extract (show Oper.op _ = Op.extract (Operand.tmp 120) 2 from rfl) (by rfl) (by rfl)) (by rfl) (by rfl) ?_
  refine Ls.does (some 18) (Does.alloc (cs := [.int .i64 0, .int .i64 0, .int .i64 0, .slice none 0 0]) (show Oper.op _ = Op.alloc 39 from rfl) (ZeroIs.mk (.agg #[.int .i64 0, .int .i64 0, .int .i64 0, .slice none 0 0]) (by kernel_rfl) (by rfl))) (by rfl) (by rfl) ?_
  intro g6 _
  refine Ls.ev (some 16) (Ev.assign (show Oper.op _ = Op.assign (Operand.tmp 123) from rfl) (by rfl)) (by rfl) (by rfl) ?_
  refine Ls.ev (some 17) (Ev.assign (show Oper.op _ = Op.assign (Operand.tmp 124) from rfl) (by rfl)) (by rfl) (by rfl) ?_
  refine Ls.does none (Does.store 0 (show Oper.op _ = Op.store 39 (Operand.tmp 18) (Operand.tmp 125) from rfl) (by rfl) (by rfl) (by rfl) (by kernel_rfl) (by rfl) (by kernel_rfl) (by rfl)) (by rfl) (by rfl) ?_
  intro _ _
  refine Ls.nil ?_
  refine Cd.seq ?_
  refine Cd.seq ?_
  refine Cd.region ?_
  refine Ls.ev (some 126) (Ev.fieldAddr (k := 2) (show Oper.op _ = Op.fieldAddr 39 (Operand.tmp 15) 2 from rfl) (by rfl) (by kernel_rfl) (by rfl)) (by rfl) (by rfl) ?_
  refine Ls.ev (some 127) (Ev.fieldAddr (k := 1) (show Oper.op _ = Op.fieldAddr 25 (Operand.tmp 126) 1 from rfl) (by rfl) (by kernel_rfl) (by rfl)) (by rfl) (by rfl) ?_
  refine Ls.ev (some 128) (Ev.load 5 (show Oper.op _ = Op.load 23 (Operand.tmp 127) from rfl) (by rfl) (by rfl) (by kernel_rfl) (by rfl)) (by rfl) (by rfl) ?_
  refine Ls.ev (some 129) (Ev.len (show Oper.op _ = Op.call { callee := Callee.builtin Builtin.len, args := #[Operand.tmp 128], argTypes := #[23] } from rfl) (by rfl) Try.underlying23) (by rfl) (by rfl) ?_
  refine Ls.ev (some 130) (Ev.move (show Oper.op _ = Op.move (Operand.const (Value.int IntKind.i64 0)) from rfl) (by rfl)) (by rfl) (by rfl) ?_
  refine Ls.nil ?_
  refine Cd.block ?_
  refine Ent.pick [6, 5, 0, 1, 2, 3, 4, 7, 8, 9, 10, 11] (by rfl) ?_
  refine Cd.loop (ι := Nat × List Int) (fun j => [(2, .pointer (some ⟨g1, 0, none⟩)), (3, .pointer (some ⟨g2, 0, none⟩)), (6, .pointer (some ⟨gw, 0, none⟩)), (12, .slice (some ad) 2 cm), (15, .pointer (some ⟨g5, 0, none⟩)), (18, .pointer (some ⟨g6, 0, none⟩)), (129, .int .i64 ys.length), (130, .int .i64 j.1)]) (fun j => [row a1 ys.length a2 3 1 (ints j.2), blk g5 39 [.int .i64 rc, .int .i64 re, .int .i64 rs, .slice a1 ys.length a2], blk g6 39 [.int .i64 rc, .int .i64 re, .int .i64 rs, .slice b1 ys.length b2], winB gw b, winM b 1 (sO rc re rs u1 u2 ys), winS (sO rc re rs u1 u2 ys), row b1 ys.length b2 3 1 (ints ys), row x1 xs.length d1 3 1 (ints xs), row (some ad) 2 cm 41 19 (flatM 3 1 6 1 vb ep st xs.length [(x0, d0), (x1, d1)]), blk g2 39 [.int .i64 rc, .int .i64 re, .int .i64 rs, .slice D ys.length d'], blk g1 27 [.int .i64 vb, .int .i64 ep, .int .i64 st, .slice B xs.length d], argc W]) (fun j => j.1 ≤ ys.length ∧ j.2.length = ys.length) (fun j => ys.length - j.1) ((0, ys)) (⟨Nat.zero_le _, rfl⟩) ?_ rfl ?_
  · (repeat (first | exact trivial | refine ⟨by rfl, ?_⟩))
  rintro ⟨k, l⟩ ⟨hk, hl⟩
  dsimp only at hk hl ⊢
  refine Cd.seq ?_
  refine Cd.region ?_
  refine Ls.ev (some 131) (Ev.lss (show Oper.op _ = Op.binOp BinOp.lss 3 (Operand.tmp 130) (Operand.tmp 129) 3 from rfl) (by rfl) (by rfl)) (by rfl) (by rfl) ?_
  refine Ls.nil ?_
  refine Cd.seq ?_
  refine Cd.cond _ (by rfl) (fun hlj => ?_) (fun hlj => ?_)
  · skip
    have hlj : k < ys.length := by have := of_decide_eq_true hlj; omega
    refine Ent.rowSome 0 (by rfl) (by omega) (fun ad0 had => ?_)
    subst had
    refine Cd.skip ?_
    refine Cd.seq ?_
    refine Cd.block ?_
    refine Cd.seq ?_
    refine Cd.region ?_
    refine Ls.ev (some 132) (Ev.move (show Oper.op _ = Op.move (Operand.tmp 130) from rfl) (by rfl)) (by rfl) (by rfl) ?_
    refine Ls.ev (some 19) (Ev.assign (show Oper.op _ = Op.assign (Operand.tmp 132) from rfl) (by rfl)) (by rfl) (by rfl) ?_
    refine Ls.nil ?_
    refine Cd.region ?_
    refine Ls.ev (some 133) (Ev.fieldAddr (k := 2) (show Oper.op _ = Op.fieldAddr 39 (Operand.tmp 15) 2 from rfl) (by rfl) (by kernel_rfl) (by rfl)) (by rfl) (by rfl) ?_
    refine Ls.ev (some 134) (Ev.fieldAddr (k := 1) (show Oper.op _ = Op.fieldAddr 25 (Operand.tmp 133) 1 from rfl) (by rfl) (by kernel_rfl) (by rfl)) (by rfl) (by rfl) ?_
    refine Ls.ev (some 135) (Ev.load 1 (show Oper.op _ = Op.load 23 (Operand.tmp 134) from rfl) (by rfl) (by rfl) (by kernel_rfl) (by rfl)) (by rfl) (by rfl) ?_
    refine Ls.ev (some 136) (Ev.move (show Oper.op _ = Op.move (Operand.tmp 19) from rfl) (by rfl)) (by rfl) (by rfl) ?_
    refine Ls.ev (some 137) (Ev.indexAt (sz := 1) (show Oper.op _ = Op.indexAddr 23 (Operand.tmp 135) (Operand.tmp 136) from rfl) (by rfl) (by rfl) Try.underlying23 (by kernel_rfl) (by omega)) (by rfl) (by rfl) ?_
    refine Ls.does none (Does.storeEl (k := k) 0 (show Oper.op _ = Op.store 3 (Operand.tmp 137) (Operand.const (Value.int IntKind.i64 (-4))) from rfl) (by rfl) (by rfl) (by rfl) rfl (by kernel_rfl) rfl hlj (ints_set l k (-4))) (by rfl) (by rfl) ?_
    intro _ _
    refine Ls.nil ?_
    refine Cd.region ?_
    refine Ls.ev (some 138) (Ev.addI (show Oper.op _ = Op.binOp BinOp.add 3 (Operand.tmp 130) (Operand.const (Value.int IntKind.i64 1)) 3 from rfl) (by rfl) (by rfl) (by omega)) (by rfl) (by rfl) ?_
    refine Ls.ev (some 130) (Ev.move (show Oper.op _ = Op.move (Operand.tmp 138) from rfl) (by rfl)) (by rfl) (by rfl) ?_
    refine Ls.nil ?_
    refine Ent.inv ((k + 1, l.set k (-4))) ?_ ?_ ?_
    · (try dsimp only); exact ⟨⟨hlj, by rw [List.length_set]; exact hl⟩, by show ys.length - (k + 1) < ys.length - k; omega⟩
    · (repeat (first | exact trivial | refine ⟨by rfl, ?_⟩ | refine ⟨by simp only [List.length_append, List.length_cons, List.length_nil]; rfl, ?_⟩ | refine ⟨by push_cast; rfl, ?_⟩))
    · rfl
  skip
  clear hlj hk hl
  refine Cd.exit ?_
  refine Cd.seq ?_
  refine Cd.region ?_
  refine Ls.ev (some 140) (Ev.move (show Oper.op _ = Op.move (Operand.tmp 6) from rfl) (by rfl)) (by rfl) (by rfl) ?_
  refine Ls.does (some 141) (Does.call [3, 4, 5, 2, 6, 7, 8, 9, 10, 11] (show Oper.op _ = Op.call { callee := Callee.value (Operand.func 25), args := #[Operand.tmp 140, Operand.const (Value.int IntKind.i64 1), Operand.const (Value.int IntKind.i64 5)], argTypes := #[66, 3, 3] } from rfl) Try.func25 (by kernel_rfl) (by kernel_rfl) (see_own gw b rc re rs u1 u2 ys hm) (by rfl) (by rfl) (by rfl)) (by rfl) (by rfl) ?_
  rintro ⟨c1, c2⟩ _
  dsimp only
  refine Ent.pick [4, 3, 5, 6, 7, 8, 9, 10] (by rfl) (Ent.arg 7 (by rfl) hr (Ent.arg 8 (by rfl) hr2 (Ent.pick [2, 7, 8, 6, 1, 0, 3, 4, 5] (by rfl) ?_)))
  skip
  refine Ls.ev (some 139) (Ev.move (show Oper.op _ = Op.move (Operand.tmp 141) from rfl) (by rfl)) (by rfl) (by rfl) ?_
  refine Ls.ev (some 142) (Ev.extract (show Oper.op _ = Op.extract (Operand.tmp 139) 0 from rfl) (by rfl) (by rfl)) (by rfl) (by rfl) ?_
  refine Ls.ev (some 143) (Ev.extract (show Oper.op _ = Op.extract (Operand.tmp 139) 1 from rfl) (by rfl) (by rfl)) (by rfl) (by rfl) ?_
  refine Ls.does (some 21) (Does.alloc (cs := [.int .i64 0, .int .i64 0, .int .i64 0, .slice none 0 0]) (show Oper.op _ = Op.alloc 39 from rfl) (ZeroIs.mk (.agg #[.int .i64 0, .int .i64 0, .int .i64 0, .slice none 0 0]) (by kernel_rfl) (by rfl))) (by rfl) (by rfl) ?_
  intro g7 _
  refine Ls.ev (some 20) (Ev.assign (show Oper.op _ = Op.assign (Operand.tmp 142) from rfl) (by rfl)) (by rfl) (by rfl) ?_
  refine Ls.does none (Does.store 0 (show Oper.op _ = Op.store 39 (Operand.tmp 21) (Operand.tmp 143) from rfl) (by rfl) (by rfl) (by rfl) (by kernel_rfl) (by rfl) (by kernel_rfl) (by rfl)) (by rfl) (by rfl) ?_
  intro _ _
  refine Ls.nil ?_
  refine Cd.seq ?_
  refine Cd.draw [] (by kernel_rfl) ?_
  refine Rg.ev 0 (by rfl) (fun _ h => h) (Ev.move (show Oper.op _ = Op.move (Operand.tmp 12) from rfl) (by rfl)) (by rfl) (some 144) (by rfl) (by kernel_rfl) (by kernel_rfl) (by kernel_rfl) (by kernel_rfl) ?_
  refine Rg.ev 1 (by rfl) (fun _ h => h) (Ev.indexAddr (sz := 19) (show Oper.op _ = Op.indexAddr 46 (Operand.tmp 144) (Operand.const (Value.int IntKind.i64 1)) from rfl) (by rfl) (by rfl) Try.underlying46 (by kernel_rfl) (by omega)) (by rfl) (some 145) (by rfl) (by kernel_rfl) (by kernel_rfl) (by kernel_rfl) (by kernel_rfl) ?_
  refine Rg.ev 2 (by rfl) (fun _ h => h) (Ev.fieldAddrE0 (k := 11) (show Oper.op _ = Op.fieldAddr 41 (Operand.tmp 145) 7 from rfl) (by rfl) (by kernel_rfl)) (by rfl) (some 146) (by rfl) (by kernel_rfl) (by kernel_rfl) (by kernel_rfl) (by kernel_rfl) ?_
  refine Rg.ev 3 (by rfl) (fun _ h => h) (Ev.loadElS (m := 4) (show Oper.op _ = Op.load 27 (Operand.tmp 146) from rfl) (by rfl) (ReadsIn.row 4 (by rfl)) (by kernel_rfl) (by intro _; rfl) (by assumption) (by rfl) (by rfl)) (by rfl) (some 147) (by rfl) (by kernel_rfl) (by kernel_rfl) (by kernel_rfl) (by kernel_rfl) ?_
  refine Rg.ev 4 (by rfl) (fun _ h => h) (Ev.loads 3 (show Oper.op _ = Op.load 27 (Operand.tmp 2) from rfl) (by rfl) (by rfl) (n := 4) (by kernel_rfl) (by rfl) (by rfl)) (by rfl) (some 148) (by rfl) (by kernel_rfl) (by kernel_rfl) (by kernel_rfl) (by kernel_rfl) ?_
  refine Rg.does 5 (by rfl) (by kernel_rfl) (Does.read (show Oper.op _ = Op.call { callee := Callee.value (Operand.func 24), args := #[Operand.tmp 147, Operand.tmp 148], argTypes := #[27, 27] } from rfl) Try.func24 (by kernel_rfl) (by kernel_rfl) (sameCall_sl vb vb ep ep st st x1 B d1 d xs xs hn) (by rfl) (by rfl) ⟨ReadsIn.row 9 (by rfl), ReadsIn.rd 5 (by rfl), trivial⟩) (by rfl) (some 149) (by rfl) (fun _ _ h => h) ?_
  intro _ _
  refine Rg.ev 6 (by rfl) (fun _ h => h) (Ev.move (show Oper.op _ = Op.move (Operand.tmp 149) from rfl) (by rfl)) (by rfl) (some 150) (by rfl) (by kernel_rfl) (by kernel_rfl) (by kernel_rfl) (by kernel_rfl) ?_
  refine Ent.known 150 true (by rfl) (by exact (decide_eq_true ⟨rfl, rfl, rfl, rfl⟩)) ?_
  refine Rg.ev 7 (by rfl) (fun _ h => h) (Ev.loads 1 (show Oper.op _ = Op.load 39 (Operand.tmp 18) from rfl) (by rfl) (by rfl) (n := 4) (by kernel_rfl) (by rfl) (by rfl)) (by rfl) (some 151) (by rfl) (by kernel_rfl) (by kernel_rfl) (by kernel_rfl) (by kernel_rfl) ?_
  refine Rg.ev 8 (by rfl) (fun _ h => h) (Ev.loads 2 (show Oper.op _ = Op.load 39 (Operand.tmp 3) from rfl) (by rfl) (by rfl) (n := 4) (by kernel_rfl) (by rfl) (by rfl)) (by rfl) (some 152) (by rfl) (by kernel_rfl) (by kernel_rfl) (by kernel_rfl) (by kernel_rfl) ?_
  refine Rg.does 9 (by rfl) (by kernel_rfl) (Does.read (show Oper.op _ = Op.call { callee := Callee.value (Operand.func 27), args := #[Operand.tmp 151, Operand.tmp 152], argTypes := #[39, 39] } from rfl) Try.func27 (by kernel_rfl) (by kernel_rfl) (sameReply_sl rc rc re re rs rs b1 D b2 d' ys ys hm) (by rfl) (by rfl) ⟨ReadsIn.row 8 (by rfl), ReadsIn.rd 6 (by rfl), trivial⟩) (by rfl) (some 153) (by rfl) (fun _ _ h => h) ?_
  intro _ _
  refine Rg.ev 10 (by rfl) (fun _ h => h) (Ev.pickT (show Oper.op _ = Op.pick (Operand.tmp 150) (Operand.tmp 153) (Operand.const (Value.bool false)) from rfl) (by rfl) (by rfl)) (by rfl) (some 154) (by rfl) (by kernel_rfl) (by kernel_rfl) (by kernel_rfl) (by kernel_rfl) ?_
  refine Rg.ev 11 (by rfl) (fun _ h => h) (Ev.move (show Oper.op _ = Op.move (Operand.tmp 154) from rfl) (by rfl)) (by rfl) (some 155) (by rfl) (by kernel_rfl) (by kernel_rfl) (by kernel_rfl) (by kernel_rfl) ?_
  refine Ent.known 155 true (by rfl) (by exact (decide_eq_true ⟨rfl, rfl, rfl, rfl⟩)) ?_
  refine Rg.ev 12 (by rfl) (fun _ h => h) (Ev.loads 0 (show Oper.op _ = Op.load 39 (Operand.tmp 21) from rfl) (by rfl) (by rfl) (n := 4) (by kernel_rfl) (by rfl) (by rfl)) (by rfl) (some 156) (by rfl) (by kernel_rfl) (by kernel_rfl) (by kernel_rfl) (by kernel_rfl) ?_
  refine Rg.ev 13 (by rfl) (fun _ h => h) (Ev.loads 2 (show Oper.op _ = Op.load 39 (Operand.tmp 3) from rfl) (by rfl) (by rfl) (n := 4) (by kernel_rfl) (by rfl) (by rfl)) (by rfl) (some 157) (by rfl) (by kernel_rfl) (by kernel_rfl) (by kernel_rfl) (by kernel_rfl) ?_
  refine Rg.does 14 (by rfl) (by kernel_rfl) (Does.read (show Oper.op _ = Op.call { callee := Callee.value (Operand.func 27), args := #[Operand.tmp 156, Operand.tmp 157], argTypes := #[39, 39] } from rfl) Try.func27 (by kernel_rfl) (by kernel_rfl) (sameReply_sl rc rc re re rs rs c1 D c2 d' ys ys hm) (by rfl) (by rfl) ⟨ReadsIn.row 7 (by rfl), ReadsIn.rd 6 (by rfl), trivial⟩) (by rfl) (some 158) (by rfl) (fun _ _ h => h) ?_
  intro _ _
  refine Rg.ev 15 (by rfl) (fun _ h => h) (Ev.pickT (show Oper.op _ = Op.pick (Operand.tmp 155) (Operand.tmp 158) (Operand.const (Value.bool false)) from rfl) (by rfl) (by rfl)) (by rfl) (some 159) (by rfl) (by kernel_rfl) (by kernel_rfl) (by kernel_rfl) (by kernel_rfl) ?_
  refine Rg.ev 16 (by rfl) (fun _ h => h) (Ev.assign (show Oper.op _ = Op.assign (Operand.tmp 159) from rfl) (by rfl)) (by rfl) (some 4) (by rfl) (by kernel_rfl) (by kernel_rfl) (by kernel_rfl) (by kernel_rfl) ?_
  refine Rg.done (by kernel_rfl) ?_ _
  refine Cd.ret ?_
  refine Ent.ret (()) (trivial) (Res.tmp (by rfl) (by rfl)) ?_ [] (by rfl) ?_
  · exact congrArg Value.bool (decide_eq_true ⟨rfl, rfl, rfl, rfl⟩)
  · rfl
theorem own11_vals (W : World) (args : Array Value) (hv : Vals Try.prog W [27, 39] args.toList) :
    Calls Try.prog 5 args W fun e W' => e = .returned (.bool true) ∧ Below W.heap.size W W' := by
  obtain ⟨v0, r0, e0, h0, v1, r1, rfl, h1, rfl⟩ := hv
  obtain rfl : args = #[v0, v1] := by cases args; simp_all
  obtain ⟨cs, n, rfl, hc⟩ := val_celS Try.underlying27 h0
  obtain ⟨⟨vb, ep, ⟨st, A, c, xs⟩⟩, hcs, ⟨_, _, _, hr, _, hl⟩⟩ := cel_calla _ _ hc
  obtain rfl : cs = #[.int .i64 vb, .int .i64 ep, .int .i64 st, .slice A xs.length c] := by
    apply Array.ext'
    exact hcs
  obtain ⟨ds, m, rfl, hd⟩ := val_celS Try.underlying39 h1
  obtain ⟨⟨rc, re, ⟨rs, D, c', ys⟩⟩, hds, ⟨_, _, _, hr2, _, hm⟩⟩ := cel_replya _ _ hd
  obtain rfl : ds = #[.int .i64 rc, .int .i64 re, .int .i64 rs, .slice D ys.length c'] := by
    apply Array.ext'
    exact hds
  exact Fn.law (own11_sl W vb ep st A c xs hl hr rc re rs D c' ys hm hr2)

set_option maxRecDepth 100000 in
theorem own11_lifted (os : Os) (started : os.Started) (H : Type) (enc : TypeId × Value → H) :
    ReturnsInHanded {} Try.checked os 5 .any (Rows.rpcOwnSpec.pre6 enc Try.prog Try.f5 Rows.rpcOwnRow.domain false) (Rows.rpcOwnSpec.post enc Try.prog Try.f5 false true false false) :=
  lift_law (C := Try.checked) #[27, 39] (by kernel_rfl) (by kernel_rfl) started (by kernel_rfl) Try.func5
    (ChangeSpec.witness6 (enc := enc) (C := Try.checked) false ⟨#[], #[.agg #[.int .i64 0, .int .i64 0, .int .i64 0, .slice none 0 0], .agg #[.int .i64 0, .int .i64 0, .int .i64 0, .slice none 0 0]], []⟩ 8 (by kernel_rfl) (by kernel_rfl) (by kernel_rfl) (by kernel_rfl))
    Try.params5 (by kernel_rfl) rfl rfl Try.underlying4 (fun ds hl => match ds, hl with | [_, _], _ => rfl) (fun W args hv => own11_vals W args hv)

theorem own11_holds : Rows.RpcOwnSaid :=
  OpenClaim.holds_of_wide 5 Try.f5 rfl rfl rfl rfl rfl rfl rfl ⟨rfl, rfl, rfl, rfl, rfl⟩ rfl rfl rfl rfl rfl (by kernel_rfl) Try.func5 (by kernel_rfl)
    (of_decide_eq_true (by kernel_rfl)) (by unfold Func.isWrapper; rw [if_neg (of_decide_eq_false (by kernel_rfl))]; exact ⟨rfl, rfl⟩)
    (fun os started H enc _ => own11_lifted os started H enc)

end Go.Proofs.Ytgidkjfakecniaa
