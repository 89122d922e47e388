/- messages that are the same; a law's own copy of a call -/
import Derived.Test.YtgidkjfakecniaaRsF
import Derived.Test.YtgidkjfakecniaaRsV
import Derived.Test.YtgidkjfakecniaaLibN
namespace Go.Proofs.Ytgidkjfakecniaa
open Go.RowKit
theorem stood_txn : Try.prog.stoodInHeld 33 = false := by kernel_rfl
theorem fields_txn : fieldRows Try.prog 33 = [(true, 3, 0), (true, 3, 1), (true, 3, 2)] := by kernel_rfl
theorem guard_txn (x y : Operand) (a b : Array Value) (w : World) : (eqGuard .eql 33 x y (.agg a) (.agg b)).run Try.prog w = .ok () w := by
  have h : Try.prog.eqGuardType Try.prog.depth 33 = false := by kernel_rfl
  simp [eqGuard, h]
theorem txn_eql (a b c a' b' c' : Int) (w : World) : (binOp .eql 33 (.agg #[.int .i64 a, .int .i64 b, .int .i64 c]) (.agg #[.int .i64 a', .int .i64 b', .int .i64 c'])).run Try.prog w = .ok (.bool (a == a' && (b == b' && c == c'))) w := by
  refine run_eql_of ?_
  rw [run_equal_rows w 9999 33 _ _ (by kernel_rfl) stood_txn fields_txn]
  simp only [eqRows]
  cases h1 : (a == a') <;> cases h2 : (b == b') <;> cases h3 : (c == c') <;> simp [go_sem, *]

theorem sameWork_nil : Fn Try.prog 35 #[.agg #[.int .i64 0, .slice none 0 0, .slice none 0 0], .agg #[.int .i64 0, .slice none 0 0, .slice none 0 0]] [] Unit (fun _ => .bool true) (fun _ => []) (fun _ => True) := by
  refine Fn.enter Try.func35 rfl Try.ntmps35 (by rfl) ?_
  intro w0
  refine Cd.seq ?_
  refine Cd.region ?_
  refine Ls.does (some 2) (Does.box (show Oper.op _ = Op.box 36 (Operand.tmp 0) from rfl) (by rfl)) (by rfl) (by rfl) ?_
  intro g1 _
  refine Ls.does (some 3) (Does.box (show Oper.op _ = Op.box 36 (Operand.tmp 1) from rfl) (by rfl)) (by rfl) (by rfl) ?_
  intro g2 _
  refine Ls.ev (some 4) (Ev.assign (show Oper.op _ = Op.assign (Operand.const (Value.bool false)) from rfl) (by rfl)) (by rfl) (by rfl) ?_
  refine Ls.nil ?_
  refine Cd.seq ?_
  refine Cd.region ?_
  refine Ls.ev (some 5) (Ev.fieldAddr (k := 0) (show Oper.op _ = Op.fieldAddr 36 (Operand.tmp 2) 0 from rfl) (by rfl) (by kernel_rfl) (by rfl)) (by rfl) (by rfl) ?_
  refine Ls.ev (some 6) (Ev.load 1 (show Oper.op _ = Op.load 3 (Operand.tmp 5) from rfl) (by rfl) (by rfl) (by kernel_rfl) (by rfl)) (by rfl) (by rfl) ?_
  refine Ls.ev (some 7) (Ev.fieldAddr (k := 0) (show Oper.op _ = Op.fieldAddr 36 (Operand.tmp 3) 0 from rfl) (by rfl) (by kernel_rfl) (by rfl)) (by rfl) (by rfl) ?_
  refine Ls.ev (some 8) (Ev.load 0 (show Oper.op _ = Op.load 3 (Operand.tmp 7) from rfl) (by rfl) (by rfl) (by kernel_rfl) (by rfl)) (by rfl) (by rfl) ?_
  refine Ls.ev (some 9) (Ev.eql (show Oper.op _ = Op.binOp BinOp.eql 3 (Operand.tmp 6) (Operand.tmp 8) 3 from rfl) (by rfl) (by rfl)) (by rfl) (by rfl) ?_
  refine Ls.ev (some 10) (Ev.move (show Oper.op _ = Op.move (Operand.tmp 9) from rfl) (by rfl)) (by rfl) (by rfl) ?_
  refine Ls.ev (some 11) (Ev.fieldAddr (k := 1) (show Oper.op _ = Op.fieldAddr 36 (Operand.tmp 2) 1 from rfl) (by rfl) (by kernel_rfl) (by rfl)) (by rfl) (by rfl) ?_
  refine Ls.ev (some 12) (Ev.load 1 (show Oper.op _ = Op.load 34 (Operand.tmp 11) from rfl) (by rfl) (by rfl) (by kernel_rfl) (by rfl)) (by rfl) (by rfl) ?_
  refine Ls.ev (some 13) (Ev.fieldAddr (k := 1) (show Oper.op _ = Op.fieldAddr 36 (Operand.tmp 3) 1 from rfl) (by rfl) (by kernel_rfl) (by rfl)) (by rfl) (by rfl) ?_
  refine Ls.ev (some 14) (Ev.load 0 (show Oper.op _ = Op.load 34 (Operand.tmp 13) from rfl) (by rfl) (by rfl) (by kernel_rfl) (by rfl)) (by rfl) (by rfl) ?_
  refine Ent.map (fun w h => h.free (C := rd none 0 1 (strs [])) rfl (fun k hk => absurd hk.1 (Nat.lt_irrefl 0)) ⟨rfl, fun hn => absurd hn (Nat.lt_irrefl 0)⟩) ?_
  refine Ls.does (some 15) (Does.call [0, 0, 0, 1, 2] (show Oper.op _ = Op.call { callee := Callee.value (Operand.func 39), args := #[Operand.tmp 12, Operand.tmp 14], argTypes := #[34, 34] } from rfl) Try.func39 (by kernel_rfl) (by kernel_rfl) (texts_sl none none 0 0 [] [] (by decide)) (by rfl) (by rfl) (by rfl)) (by rfl) (by rfl) ?_
  intro _ _
  refine Ls.ev (some 16) (Ev.pickT (show Oper.op _ = Op.pick (Operand.tmp 10) (Operand.tmp 15) (Operand.const (Value.bool false)) from rfl) (by rfl) (by rfl)) (by rfl) (by rfl) ?_
  refine Ls.ev (some 17) (Ev.move (show Oper.op _ = Op.move (Operand.tmp 16) from rfl) (by rfl)) (by rfl) (by rfl) ?_
  refine Ls.ev (some 18) (Ev.fieldAddr (k := 2) (show Oper.op _ = Op.fieldAddr 36 (Operand.tmp 2) 2 from rfl) (by rfl) (by kernel_rfl) (by rfl)) (by rfl) (by rfl) ?_
  refine Ls.ev (some 19) (Ev.load 2 (show Oper.op _ = Op.load 34 (Operand.tmp 18) from rfl) (by rfl) (by rfl) (by kernel_rfl) (by rfl)) (by rfl) (by rfl) ?_
  refine Ls.ev (some 20) (Ev.fieldAddr (k := 2) (show Oper.op _ = Op.fieldAddr 36 (Operand.tmp 3) 2 from rfl) (by rfl) (by kernel_rfl) (by rfl)) (by rfl) (by rfl) ?_
  refine Ls.ev (some 21) (Ev.load 1 (show Oper.op _ = Op.load 34 (Operand.tmp 20) from rfl) (by rfl) (by rfl) (by kernel_rfl) (by rfl)) (by rfl) (by rfl) ?_
  refine Ls.does (some 22) (Does.call [0, 0] (show Oper.op _ = Op.call { callee := Callee.value (Operand.func 39), args := #[Operand.tmp 19, Operand.tmp 21], argTypes := #[34, 34] } from rfl) Try.func39 (by kernel_rfl) (by kernel_rfl) (texts_sl none none 0 0 [] [] (by decide)) (by rfl) (by rfl) (by rfl)) (by rfl) (by rfl) ?_
  intro _ _
  refine Ls.ev (some 23) (Ev.pickT (show Oper.op _ = Op.pick (Operand.tmp 17) (Operand.tmp 22) (Operand.const (Value.bool false)) from rfl) (by rfl) (by rfl)) (by rfl) (by rfl) ?_
  refine Ls.ev (some 4) (Ev.assign (show Oper.op _ = Op.assign (Operand.tmp 23) from rfl) (by rfl)) (by rfl) (by rfl) ?_
  refine Ls.nil ?_
  refine Cd.ret ?_
  refine Ent.ret (()) (trivial) (Res.tmp (by rfl) (by rfl)) ?_ [] (by rfl) ?_
  · rfl
  · rfl

set_option maxHeartbeats 1000000 in
theorem same_true (fr to kd id vb ep st : Int) (A D : Option Addr) (c d : Nat) (xs : List Int) (hn : xs.length ≤ 17592186044415) :
    Fn Try.prog 13 #[.agg (msg fr to kd id vb ep st A xs.length c).toArray, .agg (msg fr to kd id vb ep st D xs.length d).toArray] [rd A xs.length 1 (ints xs), rd D xs.length 1 (ints xs)] Unit (fun _ => .bool true) (fun _ => []) (fun _ => True) := by
  refine Fn.enter Try.func13 rfl Try.ntmps13 (by rfl) ?_
  intro w0
  refine Cd.seq ?_
  refine Cd.region ?_
  refine Ls.does (some 2) (Does.box (show Oper.op _ = Op.box 41 (Operand.tmp 0) from rfl) (by rfl)) (by rfl) (by rfl) ?_
  intro g1 _
  refine Ls.does (some 3) (Does.box (show Oper.op _ = Op.box 41 (Operand.tmp 1) from rfl) (by rfl)) (by rfl) (by rfl) ?_
  intro g2 _
  refine Ls.ev (some 4) (Ev.assign (show Oper.op _ = Op.assign (Operand.const (Value.bool false)) from rfl) (by rfl)) (by rfl) (by rfl) ?_
  refine Ls.nil ?_
  refine Cd.seq ?_
  refine Cd.region ?_
  refine Ls.ev (some 5) (Ev.fieldAddr (k := 0) (show Oper.op _ = Op.fieldAddr 41 (Operand.tmp 2) 0 from rfl) (by rfl) (by kernel_rfl) (by rfl)) (by rfl) (by rfl) ?_
  refine Ls.ev (some 6) (Ev.load 1 (show Oper.op _ = Op.load 3 (Operand.tmp 5) from rfl) (by rfl) (by rfl) (by kernel_rfl) (by rfl)) (by rfl) (by rfl) ?_
  refine Ls.ev (some 7) (Ev.fieldAddr (k := 0) (show Oper.op _ = Op.fieldAddr 41 (Operand.tmp 3) 0 from rfl) (by rfl) (by kernel_rfl) (by rfl)) (by rfl) (by rfl) ?_
  refine Ls.ev (some 8) (Ev.load 0 (show Oper.op _ = Op.load 3 (Operand.tmp 7) from rfl) (by rfl) (by rfl) (by kernel_rfl) (by rfl)) (by rfl) (by rfl) ?_
  refine Ls.ev (some 9) (Ev.eql (show Oper.op _ = Op.binOp BinOp.eql 3 (Operand.tmp 6) (Operand.tmp 8) 3 from rfl) (by rfl) (by rfl)) (by rfl) (by rfl) ?_
  refine Ls.ev (some 10) (Ev.move (show Oper.op _ = Op.move (Operand.tmp 9) from rfl) (by rfl)) (by rfl) (by rfl) ?_
  refine Ent.known 10 true (by rfl) (by exact (decide_eq_true rfl)) ?_
  refine Ls.ev (some 11) (Ev.fieldAddr (k := 1) (show Oper.op _ = Op.fieldAddr 41 (Operand.tmp 2) 1 from rfl) (by rfl) (by kernel_rfl) (by rfl)) (by rfl) (by rfl) ?_
  refine Ls.ev (some 12) (Ev.load 1 (show Oper.op _ = Op.load 3 (Operand.tmp 11) from rfl) (by rfl) (by rfl) (by kernel_rfl) (by rfl)) (by rfl) (by rfl) ?_
  refine Ls.ev (some 13) (Ev.fieldAddr (k := 1) (show Oper.op _ = Op.fieldAddr 41 (Operand.tmp 3) 1 from rfl) (by rfl) (by kernel_rfl) (by rfl)) (by rfl) (by rfl) ?_
  refine Ls.ev (some 14) (Ev.load 0 (show Oper.op _ = Op.load 3 (Operand.tmp 13) from rfl) (by rfl) (by rfl) (by kernel_rfl) (by rfl)) (by rfl) (by rfl) ?_
  refine Ls.ev (some 15) (Ev.eql (show Oper.op _ = Op.binOp BinOp.eql 3 (Operand.tmp 12) (Operand.tmp 14) 3 from rfl) (by rfl) (by rfl)) (by rfl) (by rfl) ?_
  refine Ls.ev (some 16) (Ev.pickT (show Oper.op _ = Op.pick (Operand.tmp 10) (Operand.tmp 15) (Operand.const (Value.bool false)) from rfl) (by rfl) (by rfl)) (by rfl) (by rfl) ?_
  refine Ls.ev (some 17) (Ev.move (show Oper.op _ = Op.move (Operand.tmp 16) from rfl) (by rfl)) (by rfl) (by rfl) ?_
  refine Ent.known 17 true (by rfl) (by exact (decide_eq_true rfl)) ?_
  refine Ls.ev (some 18) (Ev.fieldAddr (k := 2) (show Oper.op _ = Op.fieldAddr 41 (Operand.tmp 2) 2 from rfl) (by rfl) (by kernel_rfl) (by rfl)) (by rfl) (by rfl) ?_
  refine Ls.ev (some 19) (Ev.load 1 (show Oper.op _ = Op.load 31 (Operand.tmp 18) from rfl) (by rfl) (by rfl) (by kernel_rfl) (by rfl)) (by rfl) (by rfl) ?_
  refine Ls.ev (some 20) (Ev.fieldAddr (k := 2) (show Oper.op _ = Op.fieldAddr 41 (Operand.tmp 3) 2 from rfl) (by rfl) (by kernel_rfl) (by rfl)) (by rfl) (by rfl) ?_
  refine Ls.ev (some 21) (Ev.load 0 (show Oper.op _ = Op.load 31 (Operand.tmp 20) from rfl) (by rfl) (by rfl) (by kernel_rfl) (by rfl)) (by rfl) (by rfl) ?_
  refine Ls.ev (some 22) (Ev.eql (show Oper.op _ = Op.binOp BinOp.eql 31 (Operand.tmp 19) (Operand.tmp 21) 31 from rfl) (by rfl) (by rfl)) (by rfl) (by rfl) ?_
  refine Ls.ev (some 23) (Ev.pickT (show Oper.op _ = Op.pick (Operand.tmp 17) (Operand.tmp 22) (Operand.const (Value.bool false)) from rfl) (by rfl) (by rfl)) (by rfl) (by rfl) ?_
  refine Ls.ev (some 24) (Ev.move (show Oper.op _ = Op.move (Operand.tmp 23) from rfl) (by rfl)) (by rfl) (by rfl) ?_
  refine Ent.known 24 true (by rfl) (by exact (decide_eq_true rfl)) ?_
  refine Ls.ev (some 25) (Ev.fieldAddr (k := 3) (show Oper.op _ = Op.fieldAddr 41 (Operand.tmp 2) 3 from rfl) (by rfl) (by kernel_rfl) (by rfl)) (by rfl) (by rfl) ?_
  refine Ls.ev (some 26) (Ev.loads 1 (show Oper.op _ = Op.load 33 (Operand.tmp 25) from rfl) (by rfl) (by rfl) (n := 3) (by kernel_rfl) (by rfl) (by rfl)) (by rfl) (by rfl) ?_
  refine Ls.ev (some 27) (Ev.fieldAddr (k := 3) (show Oper.op _ = Op.fieldAddr 41 (Operand.tmp 3) 3 from rfl) (by rfl) (by kernel_rfl) (by rfl)) (by rfl) (by rfl) ?_
  refine Ls.ev (some 28) (Ev.loads 0 (show Oper.op _ = Op.load 33 (Operand.tmp 27) from rfl) (by rfl) (by rfl) (n := 3) (by kernel_rfl) (by rfl) (by rfl)) (by rfl) (by rfl) ?_
  refine Ls.ev (some 29) (Ev.eqlG (show Oper.op _ = Op.binOp BinOp.eql 33 (Operand.tmp 26) (Operand.tmp 28) 33 from rfl) (by rfl) (by rfl) (guard_txn _ _ _ _) (txn_eql 0 0 0 0 0 0)) (by rfl) (by rfl) ?_
  refine Ls.ev (some 30) (Ev.pickT (show Oper.op _ = Op.pick (Operand.tmp 24) (Operand.tmp 29) (Operand.const (Value.bool false)) from rfl) (by rfl) (by rfl)) (by rfl) (by rfl) ?_
  refine Ls.ev (some 31) (Ev.move (show Oper.op _ = Op.move (Operand.tmp 30) from rfl) (by rfl)) (by rfl) (by rfl) ?_
  refine Ent.known 31 true (by rfl) (by exact (rfl)) ?_
  refine Ls.ev (some 32) (Ev.fieldAddr (k := 9) (show Oper.op _ = Op.fieldAddr 41 (Operand.tmp 2) 5 from rfl) (by rfl) (by kernel_rfl) (by rfl)) (by rfl) (by rfl) ?_
  refine Ls.ev (some 33) (Ev.load 1 (show Oper.op _ = Op.load 4 (Operand.tmp 32) from rfl) (by rfl) (by rfl) (by kernel_rfl) (by rfl)) (by rfl) (by rfl) ?_
  refine Ls.ev (some 34) (Ev.fieldAddr (k := 9) (show Oper.op _ = Op.fieldAddr 41 (Operand.tmp 3) 5 from rfl) (by rfl) (by kernel_rfl) (by rfl)) (by rfl) (by rfl) ?_
  refine Ls.ev (some 35) (Ev.load 0 (show Oper.op _ = Op.load 4 (Operand.tmp 34) from rfl) (by rfl) (by rfl) (by kernel_rfl) (by rfl)) (by rfl) (by rfl) ?_
  refine Ls.ev (some 36) (Ev.eqlB (show Oper.op _ = Op.binOp BinOp.eql 4 (Operand.tmp 33) (Operand.tmp 35) 4 from rfl) (by rfl) (by rfl) Try.underlying4) (by rfl) (by rfl) ?_
  refine Ls.ev (some 37) (Ev.pickT (show Oper.op _ = Op.pick (Operand.tmp 31) (Operand.tmp 36) (Operand.const (Value.bool false)) from rfl) (by rfl) (by rfl)) (by rfl) (by rfl) ?_
  refine Ls.ev (some 38) (Ev.move (show Oper.op _ = Op.move (Operand.tmp 37) from rfl) (by rfl)) (by rfl) (by rfl) ?_
  refine Ent.known 38 true (by rfl) (by exact (rfl)) ?_
  refine Ls.ev (some 39) (Ev.fieldAddr (k := 10) (show Oper.op _ = Op.fieldAddr 41 (Operand.tmp 2) 6 from rfl) (by rfl) (by kernel_rfl) (by rfl)) (by rfl) (by rfl) ?_
  refine Ls.ev (some 40) (Ev.load 1 (show Oper.op _ = Op.load 3 (Operand.tmp 39) from rfl) (by rfl) (by rfl) (by kernel_rfl) (by rfl)) (by rfl) (by rfl) ?_
  refine Ls.ev (some 41) (Ev.fieldAddr (k := 10) (show Oper.op _ = Op.fieldAddr 41 (Operand.tmp 3) 6 from rfl) (by rfl) (by kernel_rfl) (by rfl)) (by rfl) (by rfl) ?_
  refine Ls.ev (some 42) (Ev.load 0 (show Oper.op _ = Op.load 3 (Operand.tmp 41) from rfl) (by rfl) (by rfl) (by kernel_rfl) (by rfl)) (by rfl) (by rfl) ?_
  refine Ls.ev (some 43) (Ev.eql (show Oper.op _ = Op.binOp BinOp.eql 3 (Operand.tmp 40) (Operand.tmp 42) 3 from rfl) (by rfl) (by rfl)) (by rfl) (by rfl) ?_
  refine Ls.ev (some 44) (Ev.pickT (show Oper.op _ = Op.pick (Operand.tmp 38) (Operand.tmp 43) (Operand.const (Value.bool false)) from rfl) (by rfl) (by rfl)) (by rfl) (by rfl) ?_
  refine Ls.ev (some 45) (Ev.move (show Oper.op _ = Op.move (Operand.tmp 44) from rfl) (by rfl)) (by rfl) (by rfl) ?_
  refine Ent.known 45 true (by rfl) (by exact (decide_eq_true rfl)) ?_
  refine Ls.ev (some 46) (Ev.fieldAddr (k := 6) (show Oper.op _ = Op.fieldAddr 41 (Operand.tmp 2) 4 from rfl) (by rfl) (by kernel_rfl) (by rfl)) (by rfl) (by rfl) ?_
  refine Ls.ev (some 47) (Ev.loads 1 (show Oper.op _ = Op.load 36 (Operand.tmp 46) from rfl) (by rfl) (by rfl) (n := 3) (by kernel_rfl) (by rfl) (by rfl)) (by rfl) (by rfl) ?_
  refine Ls.ev (some 48) (Ev.fieldAddr (k := 6) (show Oper.op _ = Op.fieldAddr 41 (Operand.tmp 3) 4 from rfl) (by rfl) (by kernel_rfl) (by rfl)) (by rfl) (by rfl) ?_
  refine Ls.ev (some 49) (Ev.loads 0 (show Oper.op _ = Op.load 36 (Operand.tmp 48) from rfl) (by rfl) (by rfl) (n := 3) (by kernel_rfl) (by rfl) (by rfl)) (by rfl) (by rfl) ?_
  refine Ls.does (some 50) (Does.call [0, 1, 2, 3] (show Oper.op _ = Op.call { callee := Callee.value (Operand.func 35), args := #[Operand.tmp 47, Operand.tmp 49], argTypes := #[36, 36] } from rfl) Try.func35 (by kernel_rfl) (by kernel_rfl) (sameWork_nil) (by rfl) (by rfl) (by rfl)) (by rfl) (by rfl) ?_
  intro _ _
  refine Ls.ev (some 51) (Ev.pickT (show Oper.op _ = Op.pick (Operand.tmp 45) (Operand.tmp 50) (Operand.const (Value.bool false)) from rfl) (by rfl) (by rfl)) (by rfl) (by rfl) ?_
  refine Ls.ev (some 52) (Ev.move (show Oper.op _ = Op.move (Operand.tmp 51) from rfl) (by rfl)) (by rfl) (by rfl) ?_
  refine Ent.known 52 true (by rfl) (by exact (rfl)) ?_
  refine Ls.ev (some 53) (Ev.fieldAddr (k := 11) (show Oper.op _ = Op.fieldAddr 41 (Operand.tmp 2) 7 from rfl) (by rfl) (by kernel_rfl) (by rfl)) (by rfl) (by rfl) ?_
  refine Ls.ev (some 54) (Ev.loads 1 (show Oper.op _ = Op.load 27 (Operand.tmp 53) from rfl) (by rfl) (by rfl) (n := 4) (by kernel_rfl) (by rfl) (by rfl)) (by rfl) (by rfl) ?_
  refine Ls.ev (some 55) (Ev.fieldAddr (k := 11) (show Oper.op _ = Op.fieldAddr 41 (Operand.tmp 3) 7 from rfl) (by rfl) (by kernel_rfl) (by rfl)) (by rfl) (by rfl) ?_
  refine Ls.ev (some 56) (Ev.loads 0 (show Oper.op _ = Op.load 27 (Operand.tmp 55) from rfl) (by rfl) (by rfl) (n := 4) (by kernel_rfl) (by rfl) (by rfl)) (by rfl) (by rfl) ?_
  refine Ls.does (some 57) (Does.call [2, 3, 0, 1] (show Oper.op _ = Op.call { callee := Callee.value (Operand.func 24), args := #[Operand.tmp 54, Operand.tmp 56], argTypes := #[27, 27] } from rfl) Try.func24 (by kernel_rfl) (by kernel_rfl) (sameCall_sl vb vb ep ep st st A D c d xs xs hn) (by rfl) (by rfl) (by rfl)) (by rfl) (by rfl) ?_
  intro _ _
  refine Ls.ev (some 58) (Ev.pickT (show Oper.op _ = Op.pick (Operand.tmp 52) (Operand.tmp 57) (Operand.const (Value.bool false)) from rfl) (by rfl) (by rfl)) (by rfl) (by rfl) ?_
  refine Ls.ev (some 59) (Ev.move (show Oper.op _ = Op.move (Operand.tmp 58) from rfl) (by rfl)) (by rfl) (by rfl) ?_
  refine Ent.known 59 true (by rfl) (by exact (decide_eq_true ⟨rfl, rfl, rfl, rfl⟩)) ?_
  refine Ls.ev (some 60) (Ev.fieldAddr (k := 15) (show Oper.op _ = Op.fieldAddr 41 (Operand.tmp 2) 8 from rfl) (by rfl) (by kernel_rfl) (by rfl)) (by rfl) (by rfl) ?_
  refine Ls.ev (some 61) (Ev.loads 1 (show Oper.op _ = Op.load 39 (Operand.tmp 60) from rfl) (by rfl) (by rfl) (n := 4) (by kernel_rfl) (by rfl) (by rfl)) (by rfl) (by rfl) ?_
  refine Ls.ev (some 62) (Ev.fieldAddr (k := 15) (show Oper.op _ = Op.fieldAddr 41 (Operand.tmp 3) 8 from rfl) (by rfl) (by kernel_rfl) (by rfl)) (by rfl) (by rfl) ?_
  refine Ls.ev (some 63) (Ev.loads 0 (show Oper.op _ = Op.load 39 (Operand.tmp 62) from rfl) (by rfl) (by rfl) (n := 4) (by kernel_rfl) (by rfl) (by rfl)) (by rfl) (by rfl) ?_
  refine Ent.map (fun w h => h.rdNil) ?_
  refine Ls.does (some 64) (Does.call [0, 0] (show Oper.op _ = Op.call { callee := Callee.value (Operand.func 27), args := #[Operand.tmp 61, Operand.tmp 63], argTypes := #[39, 39] } from rfl) Try.func27 (by kernel_rfl) (by kernel_rfl) (sameReply_sl 0 0 0 0 0 0 none none 0 0 [] [] (by decide)) (by rfl) (by rfl) (by rfl)) (by rfl) (by rfl) ?_
  intro _ _
  refine Ls.ev (some 65) (Ev.pickT (show Oper.op _ = Op.pick (Operand.tmp 59) (Operand.tmp 64) (Operand.const (Value.bool false)) from rfl) (by rfl) (by rfl)) (by rfl) (by rfl) ?_
  refine Ls.ev (some 4) (Ev.assign (show Oper.op _ = Op.assign (Operand.tmp 65) from rfl) (by rfl)) (by rfl) (by rfl) ?_
  refine Ls.nil ?_
  refine Cd.ret ?_
  refine Ent.ret (()) (trivial) (Res.tmp (by rfl) (by rfl)) ?_ [] (by rfl) ?_
  · rfl
  · rfl

theorem elem_str : Elem Try.prog 34 9 1 16 := elem_of (by kernel_rfl)
/-- A law's own copy of a call. -/
theorem ownC_sl (vb ep st : Int) (A : Option Addr) (c : Nat) (xs : List Int) (hn : xs.length ≤ 17592186044415) :
    Fn Try.prog 11 #[.agg #[.int .i64 vb, .int .i64 ep, .int .i64 st, .slice A xs.length c]] [rd A xs.length 1 (ints xs)] (Option Addr × Nat) (fun p => .agg #[.int .i64 vb, .int .i64 ep, .int .i64 st, .slice p.1 xs.length p.2]) (fun p => [row p.1 xs.length p.2 3 1 (ints xs)]) (fun _ => True) := by
  refine Fn.enter Try.func11 rfl Try.ntmps11 (by rfl) ?_
  intro w0
  refine Cd.seq ?_
  refine Cd.region ?_
  refine Ls.does (some 1) (Does.box (show Oper.op _ = Op.box 27 (Operand.tmp 0) from rfl) (by rfl)) (by rfl) (by rfl) ?_
  intro g1 _
  refine Ls.does (some 2) (Does.alloc (cs := [.int .i64 0, .int .i64 0, .int .i64 0, .slice none 0 0]) (show Oper.op _ = Op.alloc 27 from rfl) (ZeroIs.mk (.agg #[.int .i64 0, .int .i64 0, .int .i64 0, .slice none 0 0]) (by kernel_rfl) (by rfl))) (by rfl) (by rfl) ?_
  intro g2 _
  refine Ls.nil ?_
  refine Cd.seq ?_
  refine Cd.region ?_
  refine Ls.does (some 3) (Does.lit0 (sz := 1) (show Oper.op _ = Op.buildSlice 23 0 #[] from rfl) Try.underlying23 (by kernel_rfl)) (by rfl) (by rfl) ?_
  intro g3 _
  refine Ls.ev (some 4) (Ev.fieldAddr (k := 2) (show Oper.op _ = Op.fieldAddr 27 (Operand.tmp 1) 2 from rfl) (by rfl) (by kernel_rfl) (by rfl)) (by rfl) (by rfl) ?_
  refine Ls.ev (some 5) (Ev.fieldAddr (k := 1) (show Oper.op _ = Op.fieldAddr 25 (Operand.tmp 4) 1 from rfl) (by rfl) (by kernel_rfl) (by rfl)) (by rfl) (by rfl) ?_
  refine Ls.ev (some 6) (Ev.load 2 (show Oper.op _ = Op.load 23 (Operand.tmp 5) from rfl) (by rfl) (by rfl) (by kernel_rfl) (by rfl)) (by rfl) (by rfl) ?_
  refine Ls.does (some 7) (Does.app0 0 (show Oper.op _ = Op.call { callee := Callee.builtin Builtin.append, args := #[Operand.tmp 3, Operand.tmp 6], argTypes := #[23, 23] } from rfl) (by rfl) (by rfl) (by rfl) (ReadsIn.rd 3 (by rfl)) elem_int (one_ints xs) (by omega)) (by rfl) (by rfl) ?_
  intro p _
  refine Ls.ev (some 8) (Ev.fieldAddr (k := 2) (show Oper.op _ = Op.fieldAddr 27 (Operand.tmp 1) 2 from rfl) (by rfl) (by kernel_rfl) (by rfl)) (by rfl) (by rfl) ?_
  refine Ls.ev (some 9) (Ev.fieldAddr (k := 1) (show Oper.op _ = Op.fieldAddr 25 (Operand.tmp 8) 1 from rfl) (by rfl) (by kernel_rfl) (by rfl)) (by rfl) (by rfl) ?_
  refine Ls.does none (Does.store 2 (show Oper.op _ = Op.store 23 (Operand.tmp 9) (Operand.tmp 7) from rfl) (by rfl) (by rfl) (by rfl) (by kernel_rfl) (by rfl) (by kernel_rfl) (by rfl)) (by rfl) (by rfl) ?_
  intro _ _
  refine Ls.nil ?_
  refine Cd.seq ?_
  refine Cd.region ?_
  refine Ls.ev (some 10) (Ev.loads 2 (show Oper.op _ = Op.load 27 (Operand.tmp 1) from rfl) (by rfl) (by rfl) (n := 4) (by kernel_rfl) (by rfl) (by rfl)) (by rfl) (by rfl) ?_
  refine Ls.does none (Does.store 1 (show Oper.op _ = Op.store 27 (Operand.tmp 2) (Operand.tmp 10) from rfl) (by rfl) (by rfl) (by rfl) (by kernel_rfl) (by rfl) (by kernel_rfl) (by rfl)) (by rfl) (by rfl) ?_
  intro _ _
  refine Ls.nil ?_
  refine Cd.ret ?_
  refine Ent.ret (p) (trivial) (Res.cell 1 (by rfl) (by rfl) (by rfl) (n := 4) (by kernel_rfl) (by rfl) (by rfl)) ?_ [0] (by rfl) ?_
  · rfl
  · rfl
end Go.Proofs.Ytgidkjfakecniaa
