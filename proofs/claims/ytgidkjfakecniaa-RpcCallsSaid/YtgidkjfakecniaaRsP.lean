/- the document's Call where no call is under way -/
import Derived.Test.YtgidkjfakecniaaRsO
namespace Go.Proofs.Ytgidkjfakecniaa
open Go.RowKit
section
variable {Γ : Ctx} {N : Nat} {P : Program} {E : Env} {H : List Chunk} {κ : Cont} {ops : Array Oper}
theorem Cd.drawS {id : Nat} (is : List Nat) (T : List Nat) (hm : P.follows .mixedOrders = true) (h : Rg Γ N P E H (picks H is) T ops ops.size (Array.replicate ops.size false) κ) : Cd Γ N P E H (.region id ops true) κ := fun a _ hr hs =>
  wp_region_any hm (wpAny_of_L _ _ _ _ (h a _ hr hs.drew))
theorem Ent.restate {A : Asrt} (H' : List Chunk) (e : H = H') (h : Ent Γ N E H' A) : Ent Γ N E H A := e ▸ h
end
set_option maxHeartbeats 4000000 in
theorem refCall_free (fr id f0 to0 kd i0 vb0 ep0 st0 tr s to vb ep st : Int) (A0 A : Option Addr) (n0 c0 n c : Nat) (hi : 0 ≤ id ∧ id ≤ 1000) :
    Fn Try.prog 16 #[.agg (callC fr id false (msg f0 to0 kd i0 vb0 ep0 st0 A0 n0 c0) tr s).toArray, .int .i64 to, .agg #[.int .i64 vb, .int .i64 ep, .int .i64 st, .slice A n c]] [] Unit
      (fun _ => .tuple #[.agg (callC fr (id + 1) true (msg fr to 6 (id + 1) vb ep st A n c) 1 0).toArray, .agg (msg fr to 6 (id + 1) vb ep st A n c).toArray, .int .i64 0]) (fun _ => []) (fun _ => True) := by
  refine Fn.enter Try.func16 rfl Try.ntmps16 (by rfl) ?_
  intro w0
  refine Cd.seq ?_
  refine Cd.region ?_
  refine Ls.does (some 3) (Does.box (show Oper.op _ = Op.box 53 (Operand.tmp 0) from rfl) (by rfl)) (by rfl) (by rfl) ?_
  intro g1 _
  refine Ls.does (some 5) (Does.box (show Oper.op _ = Op.box 27 (Operand.tmp 2) from rfl) (by rfl)) (by rfl) (by rfl) ?_
  intro g2 _
  refine Ls.does (some 6) (Does.alloc (cs := [.int .i64 0, .int .i64 0, .bool false, .int .i64 0, .int .i64 0, .int .i64 0, .int .i64 0, .int .i64 0, .int .i64 0, .int .i64 0, .slice none 0 0, .slice none 0 0, .bool false, .int .i64 0, .int .i64 0, .int .i64 0, .int .i64 0, .slice none 0 0, .int .i64 0, .int .i64 0, .int .i64 0, .slice none 0 0, .int .i64 0, .int .i64 0]) (show Oper.op _ = Op.alloc 53 from rfl) (ZeroIs.mk (.agg #[.int .i64 0, .int .i64 0, .bool false, .int .i64 0, .int .i64 0, .int .i64 0, .int .i64 0, .int .i64 0, .int .i64 0, .int .i64 0, .slice none 0 0, .slice none 0 0, .bool false, .int .i64 0, .int .i64 0, .int .i64 0, .int .i64 0, .slice none 0 0, .int .i64 0, .int .i64 0, .int .i64 0, .slice none 0 0, .int .i64 0, .int .i64 0]) (by kernel_rfl) (by rfl))) (by rfl) (by rfl) ?_
  intro g3 _
  refine Ls.does (some 7) (Does.alloc (cs := [.int .i64 0, .int .i64 0, .int .i64 0, .int .i64 0, .int .i64 0, .int .i64 0, .int .i64 0, .slice none 0 0, .slice none 0 0, .bool false, .int .i64 0, .int .i64 0, .int .i64 0, .int .i64 0, .slice none 0 0, .int .i64 0, .int .i64 0, .int .i64 0, .slice none 0 0]) (show Oper.op _ = Op.alloc 41 from rfl) (ZeroIs.mk (.agg #[.int .i64 0, .int .i64 0, .int .i64 0, .int .i64 0, .int .i64 0, .int .i64 0, .int .i64 0, .slice none 0 0, .slice none 0 0, .bool false, .int .i64 0, .int .i64 0, .int .i64 0, .int .i64 0, .slice none 0 0, .int .i64 0, .int .i64 0, .int .i64 0, .slice none 0 0]) (by kernel_rfl) (by rfl))) (by rfl) (by rfl) ?_
  intro g4 _
  refine Ls.ev (some 8) (Ev.assign (show Oper.op _ = Op.assign (Operand.const (Value.int IntKind.i64 0)) from rfl) (by rfl)) (by rfl) (by rfl) ?_
  refine Ls.nil ?_
  refine Cd.seq ?_
  refine Cd.seq ?_
  refine Cd.region ?_
  refine Ls.ev (some 9) (Ev.fieldAddr (k := 2) (show Oper.op _ = Op.fieldAddr 53 (Operand.tmp 3) 2 from rfl) (by rfl) (by kernel_rfl) (by rfl)) (by rfl) (by rfl) ?_
  refine Ls.ev (some 10) (Ev.load 3 (show Oper.op _ = Op.load 4 (Operand.tmp 9) from rfl) (by rfl) (by rfl) (by kernel_rfl) (by rfl)) (by rfl) (by rfl) ?_
  refine Ls.nil ?_
  refine Cd.cond_false (by rfl) (rfl) ?_
  refine Cd.skip ?_
  refine Cd.seq ?_
  refine Cd.region ?_
  refine Ls.ev (some 13) (Ev.fieldAddr (k := 1) (show Oper.op _ = Op.fieldAddr 53 (Operand.tmp 3) 1 from rfl) (by rfl) (by kernel_rfl) (by rfl)) (by rfl) (by rfl) ?_
  refine Ls.ev (some 14) (Ev.load 3 (show Oper.op _ = Op.load 3 (Operand.tmp 13) from rfl) (by rfl) (by rfl) (by kernel_rfl) (by rfl)) (by rfl) (by rfl) ?_
  refine Ls.ev (some 15) (Ev.addI (show Oper.op _ = Op.binOp BinOp.add 3 (Operand.tmp 14) (Operand.const (Value.int IntKind.i64 1)) 3 from rfl) (by rfl) (by rfl) (by omega)) (by rfl) (by rfl) ?_
  refine Ls.ev (some 16) (Ev.fieldAddr (k := 1) (show Oper.op _ = Op.fieldAddr 53 (Operand.tmp 3) 1 from rfl) (by rfl) (by kernel_rfl) (by rfl)) (by rfl) (by rfl) ?_
  refine Ls.does none (Does.store 3 (show Oper.op _ = Op.store 3 (Operand.tmp 16) (Operand.tmp 15) from rfl) (by rfl) (by rfl) (by rfl) (by kernel_rfl) (by rfl) (by kernel_rfl) (by rfl)) (by rfl) (by rfl) ?_
  intro _ _
  refine Ent.restate [blk g4 41 (msg 0 0 0 0 0 0 0 none 0 0), blk g3 53 (callC 0 0 false (msg 0 0 0 0 0 0 0 none 0 0) 0 0), blk g2 27 [.int .i64 vb, .int .i64 ep, .int .i64 st, .slice A n c], blk g1 53 (callC fr (id + 1) false (msg f0 to0 kd i0 vb0 ep0 st0 A0 n0 c0) tr s)] (by rfl) ?_
  refine Ls.nil ?_
  refine Cd.seq ?_
  refine Cd.region ?_
  refine Ls.ev (some 17) (Ev.fieldAddr (k := 0) (show Oper.op _ = Op.fieldAddr 53 (Operand.tmp 3) 0 from rfl) (by rfl) (by kernel_rfl) (by rfl)) (by rfl) (by rfl) ?_
  refine Ls.ev (some 18) (Ev.load 3 (show Oper.op _ = Op.load 3 (Operand.tmp 17) from rfl) (by rfl) (by rfl) (by kernel_rfl) (by rfl)) (by rfl) (by rfl) ?_
  refine Ls.ev (some 19) (Ev.move (show Oper.op _ = Op.move (Operand.tmp 1) from rfl) (by rfl)) (by rfl) (by rfl) ?_
  refine Ls.ev (some 20) (Ev.fieldAddr (k := 1) (show Oper.op _ = Op.fieldAddr 53 (Operand.tmp 3) 1 from rfl) (by rfl) (by kernel_rfl) (by rfl)) (by rfl) (by rfl) ?_
  refine Ls.ev (some 21) (Ev.load 3 (show Oper.op _ = Op.load 3 (Operand.tmp 20) from rfl) (by rfl) (by rfl) (by kernel_rfl) (by rfl)) (by rfl) (by rfl) ?_
  refine Ls.ev (some 22) (Ev.loads 2 (show Oper.op _ = Op.load 27 (Operand.tmp 5) from rfl) (by rfl) (by rfl) (n := 4) (by kernel_rfl) (by rfl) (by rfl)) (by rfl) (by rfl) ?_
  refine Ls.ev (some 23) (Ev.buildP (pl := [(0, 1), (1, 1), (2, 1), (3, 3), (6, 3), (9, 1), (10, 1), (11, 4), (15, 4)]) (zs := [.int .i64 0, .int .i64 0, .int .i64 0, .int .i64 0, .int .i64 0, .int .i64 0, .int .i64 0, .slice none 0 0, .slice none 0 0, .bool false, .int .i64 0, .int .i64 0, .int .i64 0, .int .i64 0, .slice none 0 0, .int .i64 0, .int .i64 0, .int .i64 0, .slice none 0 0]) (show Oper.op _ = Op.build 41 #[(0, Operand.tmp 18), (1, Operand.tmp 19), (2, Operand.const (Value.int IntKind.i64 6)), (6, Operand.tmp 21), (7, Operand.tmp 22)] from rfl) (by rfl) (by kernel_rfl) (by rfl)) (by rfl) (by rfl) ?_
  refine Ls.ev (some 24) (Ev.fieldAddr (k := 3) (show Oper.op _ = Op.fieldAddr 53 (Operand.tmp 3) 3 from rfl) (by rfl) (by kernel_rfl) (by rfl)) (by rfl) (by rfl) ?_
  refine Ls.does none (Does.store 3 (show Oper.op _ = Op.store 41 (Operand.tmp 24) (Operand.tmp 23) from rfl) (by rfl) (by rfl) (by rfl) (by kernel_rfl) (by rfl) (by kernel_rfl) (by rfl)) (by rfl) (by rfl) ?_
  intro _ _
  refine Ent.restate [blk g4 41 (msg 0 0 0 0 0 0 0 none 0 0), blk g3 53 (callC 0 0 false (msg 0 0 0 0 0 0 0 none 0 0) 0 0), blk g2 27 [.int .i64 vb, .int .i64 ep, .int .i64 st, .slice A n c], blk g1 53 (callC fr (id + 1) false (msg fr to 6 (id + 1) vb ep st A n c) tr s)] (by rfl) ?_
  refine Ls.nil ?_
  refine Cd.seq ?_
  refine Cd.region ?_
  refine Ls.ev (some 25) (Ev.fieldAddr (k := 2) (show Oper.op _ = Op.fieldAddr 53 (Operand.tmp 3) 2 from rfl) (by rfl) (by kernel_rfl) (by rfl)) (by rfl) (by rfl) ?_
  refine Ls.does none (Does.store 3 (show Oper.op _ = Op.store 4 (Operand.tmp 25) (Operand.const (Value.bool true)) from rfl) (by rfl) (by rfl) (by rfl) (by kernel_rfl) (by rfl) (by kernel_rfl) (by rfl)) (by rfl) (by rfl) ?_
  intro _ _
  refine Ent.restate [blk g4 41 (msg 0 0 0 0 0 0 0 none 0 0), blk g3 53 (callC 0 0 false (msg 0 0 0 0 0 0 0 none 0 0) 0 0), blk g2 27 [.int .i64 vb, .int .i64 ep, .int .i64 st, .slice A n c], blk g1 53 (callC fr (id + 1) true (msg fr to 6 (id + 1) vb ep st A n c) tr s)] (by rfl) ?_
  refine Ls.nil ?_
  refine Cd.seq ?_
  refine Cd.region ?_
  refine Ls.ev (some 26) (Ev.fieldAddr (k := 22) (show Oper.op _ = Op.fieldAddr 53 (Operand.tmp 3) 4 from rfl) (by rfl) (by kernel_rfl) (by rfl)) (by rfl) (by rfl) ?_
  refine Ls.does none (Does.store 3 (show Oper.op _ = Op.store 3 (Operand.tmp 26) (Operand.const (Value.int IntKind.i64 1)) from rfl) (by rfl) (by rfl) (by rfl) (by kernel_rfl) (by rfl) (by kernel_rfl) (by rfl)) (by rfl) (by rfl) ?_
  intro _ _
  refine Ent.restate [blk g4 41 (msg 0 0 0 0 0 0 0 none 0 0), blk g3 53 (callC 0 0 false (msg 0 0 0 0 0 0 0 none 0 0) 0 0), blk g2 27 [.int .i64 vb, .int .i64 ep, .int .i64 st, .slice A n c], blk g1 53 (callC fr (id + 1) true (msg fr to 6 (id + 1) vb ep st A n c) 1 s)] (by rfl) ?_
  refine Ls.nil ?_
  refine Cd.seq ?_
  refine Cd.region ?_
  refine Ls.ev (some 27) (Ev.fieldAddr (k := 23) (show Oper.op _ = Op.fieldAddr 53 (Operand.tmp 3) 5 from rfl) (by rfl) (by kernel_rfl) (by rfl)) (by rfl) (by rfl) ?_
  refine Ls.does none (Does.store 3 (show Oper.op _ = Op.store 3 (Operand.tmp 27) (Operand.const (Value.int IntKind.i64 0)) from rfl) (by rfl) (by rfl) (by rfl) (by kernel_rfl) (by rfl) (by kernel_rfl) (by rfl)) (by rfl) (by rfl) ?_
  intro _ _
  refine Ent.restate [blk g4 41 (msg 0 0 0 0 0 0 0 none 0 0), blk g3 53 (callC 0 0 false (msg 0 0 0 0 0 0 0 none 0 0) 0 0), blk g2 27 [.int .i64 vb, .int .i64 ep, .int .i64 st, .slice A n c], blk g1 53 (callC fr (id + 1) true (msg fr to 6 (id + 1) vb ep st A n c) 1 0)] (by rfl) ?_
  skip
  refine Ls.nil ?_
  refine Cd.seq ?_
  refine Cd.drawS [0, 2, 3] [4] (by kernel_rfl) ?_
  refine Rg.ev 0 (by rfl) (fun _ h => h.pick [0, 2, 3] rfl) (Ev.loads 2 (show Oper.op _ = Op.load 53 (Operand.tmp 3) from rfl) (by rfl) (by rfl) (n := 24) (by kernel_rfl) (by rfl) (by rfl)) (by rfl) (some 28) (by rfl) (by kernel_rfl) (by kernel_rfl) (by kernel_rfl) (by kernel_rfl) ?_
  refine Rg.ev 1 (by rfl) (fun _ h => h.pick [0, 2, 3] rfl) (Ev.fieldAddr (k := 3) (show Oper.op _ = Op.fieldAddr 53 (Operand.tmp 3) 3 from rfl) (by rfl) (by kernel_rfl) (by rfl)) (by rfl) (some 29) (by rfl) (by kernel_rfl) (by kernel_rfl) (by kernel_rfl) (by kernel_rfl) ?_
  refine Rg.ev 2 (by rfl) (fun _ h => h.pick [0, 2, 3] rfl) (Ev.loads 2 (show Oper.op _ = Op.load 41 (Operand.tmp 29) from rfl) (by rfl) (by rfl) (n := 19) (by kernel_rfl) (by rfl) (by rfl)) (by rfl) (some 30) (by rfl) (by kernel_rfl) (by kernel_rfl) (by kernel_rfl) (by kernel_rfl) ?_
  refine Rg.does 3 (by rfl) (by kernel_rfl) (Does.store 1 (show Oper.op _ = Op.store 53 (Operand.tmp 6) (Operand.tmp 28) from rfl) (by rfl) (by rfl) (by rfl) (by kernel_rfl) (by rfl) (by kernel_rfl) (by rfl)) (by rfl) none (by rfl) (fun _ _ h => by have h2 := h.pick [0, 2, 3] (by rfl); exact h2) ?_
  intro _ _
  refine Rg.tail 4 [] (by rfl) (by kernel_rfl) (Does.store 0 (show Oper.op _ = Op.store 41 (Operand.tmp 7) (Operand.tmp 30) from rfl) (by rfl) (by rfl) (by rfl) (by kernel_rfl) (by rfl) (by kernel_rfl) (by rfl)) (by rfl) none (by rfl) (by kernel_rfl) (by kernel_rfl) ?_
  intro _ _
  refine Rg.ev 5 (by rfl) (fun _ h => h) (Ev.assign (show Oper.op _ = Op.assign (Operand.const (Value.int IntKind.i64 0)) from rfl) (by rfl)) (by rfl) (some 8) (by rfl) (by kernel_rfl) (by kernel_rfl) (by kernel_rfl) (by kernel_rfl) ?_
  refine Rg.done (by kernel_rfl) ?_ _
  refine Cd.ret ?_
  refine Ent.ret (()) (trivial) (Res.cell2_tmp 1 0 (by rfl) (by rfl) (by rfl) (by rfl) (by rfl) (n := 24) (n' := 19) (by kernel_rfl) (by kernel_rfl) (by rfl) (by rfl) (by rfl) (by rfl) (by rfl)) ?_ [] (by rfl) ?_
  · rfl
  · rfl
end Go.Proofs.Ytgidkjfakecniaa
