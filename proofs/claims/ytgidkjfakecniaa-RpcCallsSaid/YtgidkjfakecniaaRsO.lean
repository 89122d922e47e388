/- Call and Hear: the document's, and the program's Hear -/
import Derived.Test.YtgidkjfakecniaaRsN
import Derived.Test.YtgidkjfakecniaaRsV
namespace Go.Proofs.Ytgidkjfakecniaa
open Go.RowKit
theorem Res.cell2_tmp {Γ : Ctx} {N : Nat} {P : Program} {E : Env} {H : List Chunk} {fn : Func} {p p' q t t' n n' g g' m m' u u' : Nat} {cs cs' vs vs' : List Value} {v : Value} (i i' : Nat) (h : fn.results = #[.cell p t, .cell p' t', .tmp q]) (hp : E.get p = some (.pointer (some ⟨g, m, none⟩))) (hp' : E.get p' = some (.pointer (some ⟨g', m', none⟩))) (hi : H[i]? = some (blk g u cs)) (hi' : H[i']? = some (blk g' u' cs')) (ht : agg P t n = true) (ht' : agg P t' n' = true) (hv : rangeOf cs m n = vs) (hv' : rangeOf cs' m' n' = vs') (hn : vs.length = n) (hn' : vs'.length = n') (hq : E.get q = some v) : Res Γ N P fn E H (.tuple #[.agg vs.toArray, .agg vs'.toArray, v]) := fun a w hr hs => by
  simp [results, h, hr.get p _ hp, hr.get p' _ hp', hr.get q _ hq, asAddr, run_cell i hs hi ht hv hn, run_cell i' hs hi' ht' hv' hn']
theorem refCall_busy (fr id f0 to0 kd i0 vb0 ep0 st0 tr s to vb ep st : Int) (A0 A : Option Addr) (n0 c0 n c : Nat) :
    Fn Try.prog 16 #[.agg (callC fr id true (msg f0 to0 kd i0 vb0 ep0 st0 A0 n0 c0) tr s).toArray, .int .i64 to, .agg #[.int .i64 vb, .int .i64 ep, .int .i64 st, .slice A n c]] [] Unit
      (fun _ => .tuple #[.agg (callC fr id true (msg f0 to0 kd i0 vb0 ep0 st0 A0 n0 c0) tr s).toArray, .agg (msg 0 0 0 0 0 0 0 none 0 0).toArray, .int .i64 8]) (fun _ => []) (fun _ => True) := by
  refine Fn.enter Try.func16 rfl Try.ntmps16 (by rfl) ?_
  intro w0
  refine Cd.seq ?_
  refine Cd.region ?_
  refine Ls.does (some 3) (Does.box (show Oper.op _ = Op.box 53 (Operand.tmp 0) from rfl) (by rfl)) (by rfl) (by rfl) ?_
  intro g1 _
  refine Ls.does (some 5) (Does.box (show Oper.op _ = Op.box 27 (Operand.tmp 2) from rfl) (by rfl)) (by rfl) (by rfl) ?_
  intro g2 _
  refine Ls.does (some 6) (Does.alloc (cs := [.int .i64 0, .int .i64 0, .bool false, .int .i64 0, .int .i64 0, .int .i64 0, .int .i64 0, .int .i64 0, .int .i64 0, .int .i64 0, .slice none 0 0, .slice none 0 0, .bool false, .int .i64 0, .int .i64 0, .int .i64 0, .int .i64 0, .slice none 0 0, .int .i64 0, .int .i64 0, .int .i64 0, .slice none 0 0, .int .i64 0, .int .i64 0]) (show Oper.op _ = Op.alloc 53 from rfl) (ZeroIs.mk (.agg #[.int .i64 0, .int .i64 0, .bool false, .int .i64 0, .int .i64 0, .int .i64 0, .int .i64 0, .int .i64 0, .int .i64 0, .int .i64 0, .slice none 0 0, .slice none 0 0, .bool false, .int .i64 0, .int .i64 0, .int .i64 0, .int .i64 0, .slice none 0 0, .int .i64 0, .int .i64 0, .int .i64 0, .slice none 0 0, .int .i64 0, .int .i64 0]) (by kernel_rfl) (by rfl))) (by rfl) (by rfl) ?_
  intro g3 _
  refine Ls.does (some 7) (Does.alloc (cs := [.int .i64 0, .int .i64 0, .int .i64 0, .int .i64 0, .int .i64 0, .int .i64 0, .int .i64 0, .slice none 0 0, .slice none 0 0, .bool false, .int .i64 0, .int .i64 0, .int .i64 0, .int .i64 0, .slice none 0 0, .int .i64 0, .int .i64 0, .int .i64 0, .slice none 0 0]) (show Oper.op _ = Op.alloc 41 from rfl) (ZeroIs.mk (.agg #[.int .i64 0, .int .i64 0, .int .i64 0, .int .i64 0, .int .i64 0, .int .i64 0, .int .i64 0, .slice none 0 0, .slice none 0 0, .bool false, .int .i64 0, .int .i64 0, .int .i64 0, .int .i64 0, .slice none 0 0, .int .i64 0, .int .i64 0, .int .i64 0, .slice none 0 0]) (by kernel_rfl) (by rfl))) (by rfl) (by rfl) ?_
  intro g4 _
  refine Ls.ev (some 8) (Ev.assign (show Oper.op _ = Op.assign (Operand.const (Value.int IntKind.i64 0)) from rfl) (by rfl)) (by rfl) (by rfl) ?_
  refine Ls.nil ?_
  refine Cd.seq ?_
  refine Cd.seq ?_
  refine Cd.region ?_
  refine Ls.ev (some 9) (Ev.fieldAddr (k := 2) (show Oper.op _ = Op.fieldAddr 53 (Operand.tmp 3) 2 from rfl) (by rfl) (by kernel_rfl) (by rfl)) (by rfl) (by rfl) ?_
  refine Ls.ev (some 10) (Ev.load 3 (show Oper.op _ = Op.load 4 (Operand.tmp 9) from rfl) (by rfl) (by rfl) (by kernel_rfl) (by rfl)) (by rfl) (by rfl) ?_
  refine Ls.nil ?_
  refine Cd.cond_true (by rfl) (rfl) ?_
  refine Cd.seq ?_
  refine Cd.region ?_
  refine Ls.ev (some 11) (Ev.loads 3 (show Oper.op _ = Op.load 53 (Operand.tmp 3) from rfl) (by rfl) (by rfl) (n := 24) (by kernel_rfl) (by rfl) (by rfl)) (by rfl) (by rfl) ?_
  refine Ls.ev (some 12) (Ev.buildP (pl := [(0, 1), (1, 1), (2, 1), (3, 3), (6, 3), (9, 1), (10, 1), (11, 4), (15, 4)]) (zs := [.int .i64 0, .int .i64 0, .int .i64 0, .int .i64 0, .int .i64 0, .int .i64 0, .int .i64 0, .slice none 0 0, .slice none 0 0, .bool false, .int .i64 0, .int .i64 0, .int .i64 0, .int .i64 0, .slice none 0 0, .int .i64 0, .int .i64 0, .int .i64 0, .slice none 0 0]) (show Oper.op _ = Op.build 41 #[] from rfl) (by rfl) (by kernel_rfl) (by rfl)) (by rfl) (by rfl) ?_
  refine Ls.does none (Does.store 1 (show Oper.op _ = Op.store 53 (Operand.tmp 6) (Operand.tmp 11) from rfl) (by rfl) (by rfl) (by rfl) (by kernel_rfl) (by rfl) (by kernel_rfl) (by rfl)) (by rfl) (by rfl) ?_
  intro _ _
  refine Ls.does none (Does.store 0 (show Oper.op _ = Op.store 41 (Operand.tmp 7) (Operand.tmp 12) from rfl) (by rfl) (by rfl) (by rfl) (by kernel_rfl) (by rfl) (by kernel_rfl) (by rfl)) (by rfl) (by rfl) ?_
  intro _ _
  refine Ls.ev (some 8) (Ev.assign (show Oper.op _ = Op.assign (Operand.const (Value.int IntKind.i64 8)) from rfl) (by rfl)) (by rfl) (by rfl) ?_
  refine Ls.nil ?_
  refine Cd.ret ?_
  refine Ent.ret (()) (trivial) (Res.cell2_tmp 1 0 (by rfl) (by rfl) (by rfl) (by rfl) (by rfl) (n := 24) (n' := 19) (by kernel_rfl) (by kernel_rfl) (by rfl) (by rfl) (by rfl) (by rfl) (by rfl)) ?_ [] (by rfl) ?_
  · rfl
  · rfl
/-- Whether a message is the reply. -/
def heardB (b : Bool) (fr id to : Int) (M : MsgA) : Bool := b && (decide (M.kind = 7) && (decide (M.to = fr) && (decide (M.fr = to) && decide (M.iD = id))))
set_option maxHeartbeats 4000000 in
theorem refHear_sl (fr id f0 to kd i0 vb ep st tr s : Int) (b : Bool) (A : Option Addr) (n c : Nat) (M : MsgA) :
    Fn Try.prog 19 #[.agg (callC fr id b (msg f0 to kd i0 vb ep st A n c) tr s).toArray, .agg M.enc.toArray] [] Unit
      (fun _ => .tuple #[.agg (callC fr id (b && !heardB b fr id to M) (msg f0 to kd i0 vb ep st A n c) tr s).toArray, .bool (heardB b fr id to M)]) (fun _ => []) (fun _ => True) := by
  refine Fn.enter Try.func19 rfl Try.ntmps19 (by rfl) ?_
  intro w0
  refine Cd.seq ?_
  refine Cd.region ?_
  refine Ls.does (some 2) (Does.box (show Oper.op _ = Op.box 53 (Operand.tmp 0) from rfl) (by rfl)) (by rfl) (by rfl) ?_
  intro g1 _
  refine Ls.does (some 3) (Does.box (show Oper.op _ = Op.box 41 (Operand.tmp 1) from rfl) (by rfl)) (by rfl) (by rfl) ?_
  intro g2 _
  refine Ls.does (some 4) (Does.alloc (cs := [.int .i64 0, .int .i64 0, .bool false, .int .i64 0, .int .i64 0, .int .i64 0, .int .i64 0, .int .i64 0, .int .i64 0, .int .i64 0, .slice none 0 0, .slice none 0 0, .bool false, .int .i64 0, .int .i64 0, .int .i64 0, .int .i64 0, .slice none 0 0, .int .i64 0, .int .i64 0, .int .i64 0, .slice none 0 0, .int .i64 0, .int .i64 0]) (show Oper.op _ = Op.alloc 53 from rfl) (ZeroIs.mk (.agg #[.int .i64 0, .int .i64 0, .bool false, .int .i64 0, .int .i64 0, .int .i64 0, .int .i64 0, .int .i64 0, .int .i64 0, .int .i64 0, .slice none 0 0, .slice none 0 0, .bool false, .int .i64 0, .int .i64 0, .int .i64 0, .int .i64 0, .slice none 0 0, .int .i64 0, .int .i64 0, .int .i64 0, .slice none 0 0, .int .i64 0, .int .i64 0]) (by kernel_rfl) (by rfl))) (by rfl) (by rfl) ?_
  intro g3 _
  refine Ls.ev (some 5) (Ev.assign (show Oper.op _ = Op.assign (Operand.const (Value.bool false)) from rfl) (by rfl)) (by rfl) (by rfl) ?_
  refine Ls.nil ?_
  refine Cd.seq ?_
  refine Cd.seq ?_
  refine Cd.region ?_
  refine Ls.ev (some 6) (Ev.fieldAddr (k := 2) (show Oper.op _ = Op.fieldAddr 53 (Operand.tmp 2) 2 from rfl) (by rfl) (by kernel_rfl) (by rfl)) (by rfl) (by rfl) ?_
  refine Ls.ev (some 7) (Ev.load 2 (show Oper.op _ = Op.load 4 (Operand.tmp 6) from rfl) (by rfl) (by rfl) (by kernel_rfl) (by rfl)) (by rfl) (by rfl) ?_
  refine Ls.ev (some 8) (Ev.not (show Oper.op _ = Op.unOp UnOp.not 4 (Operand.tmp 7) from rfl) (by rfl)) (by rfl) (by rfl) ?_
  refine Ls.ev (some 9) (Ev.move (show Oper.op _ = Op.move (Operand.tmp 8) from rfl) (by rfl)) (by rfl) (by rfl) ?_
  refine Ent.split 9 (by rfl) (fun h1 => ?_) (fun h1 => ?_)
  · skip
    refine Ls.ev (some 10) (Ev.fieldAddr (k := 2) (show Oper.op _ = Op.fieldAddr 41 (Operand.tmp 3) 2 from rfl) (by rfl) (by kernel_rfl) (by rfl)) (by rfl) (by rfl) ?_
    refine Ls.ev (some 11) (Ev.load 1 (show Oper.op _ = Op.load 31 (Operand.tmp 10) from rfl) (by rfl) (by rfl) (by kernel_rfl) (by rfl)) (by rfl) (by rfl) ?_
    refine Ls.ev (some 12) (Ev.neq (show Oper.op _ = Op.binOp BinOp.neq 3 (Operand.tmp 11) (Operand.const (Value.int IntKind.i64 7)) 3 from rfl) (by rfl) (by rfl)) (by rfl) (by rfl) ?_
    refine Ls.ev (some 13) (Ev.pickF (show Oper.op _ = Op.pick (Operand.tmp 9) (Operand.const (Value.bool true)) (Operand.tmp 12) from rfl) (by rfl) (by rfl)) (by rfl) (by rfl) ?_
    refine Ls.ev (some 14) (Ev.move (show Oper.op _ = Op.move (Operand.tmp 13) from rfl) (by rfl)) (by rfl) (by rfl) ?_
    refine Ent.split 14 (by rfl) (fun h2 => ?_) (fun h2 => ?_)
    · skip
      refine Ls.ev (some 15) (Ev.fieldAddr (k := 1) (show Oper.op _ = Op.fieldAddr 41 (Operand.tmp 3) 1 from rfl) (by rfl) (by kernel_rfl) (by rfl)) (by rfl) (by rfl) ?_
      refine Ls.ev (some 16) (Ev.load 1 (show Oper.op _ = Op.load 3 (Operand.tmp 15) from rfl) (by rfl) (by rfl) (by kernel_rfl) (by rfl)) (by rfl) (by rfl) ?_
      refine Ls.ev (some 17) (Ev.fieldAddr (k := 0) (show Oper.op _ = Op.fieldAddr 53 (Operand.tmp 2) 0 from rfl) (by rfl) (by kernel_rfl) (by rfl)) (by rfl) (by rfl) ?_
      refine Ls.ev (some 18) (Ev.load 2 (show Oper.op _ = Op.load 3 (Operand.tmp 17) from rfl) (by rfl) (by rfl) (by kernel_rfl) (by rfl)) (by rfl) (by rfl) ?_
      refine Ls.ev (some 19) (Ev.neq (show Oper.op _ = Op.binOp BinOp.neq 3 (Operand.tmp 16) (Operand.tmp 18) 3 from rfl) (by rfl) (by rfl)) (by rfl) (by rfl) ?_
      refine Ls.ev (some 20) (Ev.pickF (show Oper.op _ = Op.pick (Operand.tmp 14) (Operand.const (Value.bool true)) (Operand.tmp 19) from rfl) (by rfl) (by rfl)) (by rfl) (by rfl) ?_
      refine Ls.ev (some 21) (Ev.move (show Oper.op _ = Op.move (Operand.tmp 20) from rfl) (by rfl)) (by rfl) (by rfl) ?_
      refine Ent.split 21 (by rfl) (fun h3 => ?_) (fun h3 => ?_)
      · skip
        refine Ls.ev (some 22) (Ev.fieldAddr (k := 0) (show Oper.op _ = Op.fieldAddr 41 (Operand.tmp 3) 0 from rfl) (by rfl) (by kernel_rfl) (by rfl)) (by rfl) (by rfl) ?_
        refine Ls.ev (some 23) (Ev.load 1 (show Oper.op _ = Op.load 3 (Operand.tmp 22) from rfl) (by rfl) (by rfl) (by kernel_rfl) (by rfl)) (by rfl) (by rfl) ?_
        refine Ls.ev (some 24) (Ev.fieldAddr (k := 3) (show Oper.op _ = Op.fieldAddr 53 (Operand.tmp 2) 3 from rfl) (by rfl) (by kernel_rfl) (by rfl)) (by rfl) (by rfl) ?_
        refine Ls.ev (some 25) (Ev.fieldAddr (k := 1) (show Oper.op _ = Op.fieldAddr 41 (Operand.tmp 24) 1 from rfl) (by rfl) (by kernel_rfl) (by rfl)) (by rfl) (by rfl) ?_
        refine Ls.ev (some 26) (Ev.load 2 (show Oper.op _ = Op.load 3 (Operand.tmp 25) from rfl) (by rfl) (by rfl) (by kernel_rfl) (by rfl)) (by rfl) (by rfl) ?_
        refine Ls.ev (some 27) (Ev.neq (show Oper.op _ = Op.binOp BinOp.neq 3 (Operand.tmp 23) (Operand.tmp 26) 3 from rfl) (by rfl) (by rfl)) (by rfl) (by rfl) ?_
        refine Ls.ev (some 28) (Ev.pickF (show Oper.op _ = Op.pick (Operand.tmp 21) (Operand.const (Value.bool true)) (Operand.tmp 27) from rfl) (by rfl) (by rfl)) (by rfl) (by rfl) ?_
        refine Ls.ev (some 29) (Ev.move (show Oper.op _ = Op.move (Operand.tmp 28) from rfl) (by rfl)) (by rfl) (by rfl) ?_
        refine Ent.split 29 (by rfl) (fun h4 => ?_) (fun h4 => ?_)
        · skip
          refine Ls.ev (some 30) (Ev.fieldAddr (k := 10) (show Oper.op _ = Op.fieldAddr 41 (Operand.tmp 3) 6 from rfl) (by rfl) (by kernel_rfl) (by rfl)) (by rfl) (by rfl) ?_
          refine Ls.ev (some 31) (Ev.load 1 (show Oper.op _ = Op.load 3 (Operand.tmp 30) from rfl) (by rfl) (by rfl) (by kernel_rfl) (by rfl)) (by rfl) (by rfl) ?_
          refine Ls.ev (some 32) (Ev.fieldAddr (k := 1) (show Oper.op _ = Op.fieldAddr 53 (Operand.tmp 2) 1 from rfl) (by rfl) (by kernel_rfl) (by rfl)) (by rfl) (by rfl) ?_
          refine Ls.ev (some 33) (Ev.load 2 (show Oper.op _ = Op.load 3 (Operand.tmp 32) from rfl) (by rfl) (by rfl) (by kernel_rfl) (by rfl)) (by rfl) (by rfl) ?_
          refine Ls.ev (some 34) (Ev.neq (show Oper.op _ = Op.binOp BinOp.neq 3 (Operand.tmp 31) (Operand.tmp 33) 3 from rfl) (by rfl) (by rfl)) (by rfl) (by rfl) ?_
          refine Ls.ev (some 35) (Ev.pickF (show Oper.op _ = Op.pick (Operand.tmp 29) (Operand.const (Value.bool true)) (Operand.tmp 34) from rfl) (by rfl) (by rfl)) (by rfl) (by rfl) ?_
          refine Ls.nil ?_
          refine Cd.cond _ (by rfl) (fun h5 => ?_) (fun h5 => ?_)
          · skip
            have e : heardB b fr id to M = false := by simp_all [heardB]
            rw [e, Bool.not_false, Bool.and_true]
            refine Cd.seq ?_
            refine Cd.region ?_
            refine Ls.ev (some 36) (Ev.loads 2 (show Oper.op _ = Op.load 53 (Operand.tmp 2) from rfl) (by rfl) (by rfl) (n := 24) (by kernel_rfl) (by rfl) (by rfl)) (by rfl) (by rfl) ?_
            refine Ls.does none (Does.store 0 (show Oper.op _ = Op.store 53 (Operand.tmp 4) (Operand.tmp 36) from rfl) (by rfl) (by rfl) (by rfl) (by kernel_rfl) (by rfl) (by kernel_rfl) (by rfl)) (by rfl) (by rfl) ?_
            intro _ _
            refine Ls.ev (some 5) (Ev.assign (show Oper.op _ = Op.assign (Operand.const (Value.bool false)) from rfl) (by rfl)) (by rfl) (by rfl) ?_
            refine Ls.nil ?_
            refine Cd.ret ?_
            refine Ent.ret (()) (trivial) (Res.cell_tmp 0 (by rfl) (by rfl) (by rfl) (n := 24) (by kernel_rfl) (by rfl) (by rfl) (by rfl)) ?_ [] (by rfl) ?_
            · rfl
            · rfl
          · skip
            have e : heardB b fr id to M = true := by simp_all [heardB]
            rw [e, Bool.not_true, Bool.and_false]
            refine Cd.skip ?_
            refine Cd.seq ?_
            refine Cd.region ?_
            refine Ls.ev (some 37) (Ev.fieldAddr (k := 2) (show Oper.op _ = Op.fieldAddr 53 (Operand.tmp 2) 2 from rfl) (by rfl) (by kernel_rfl) (by rfl)) (by rfl) (by rfl) ?_
            refine Ls.does none (Does.store 2 (show Oper.op _ = Op.store 4 (Operand.tmp 37) (Operand.const (Value.bool false)) from rfl) (by rfl) (by rfl) (by rfl) (by kernel_rfl) (by rfl) (by kernel_rfl) (by rfl)) (by rfl) (by rfl) ?_
            intro _ _
            refine Ls.nil ?_
            refine Cd.seq ?_
            refine Cd.region ?_
            refine Ls.ev (some 38) (Ev.loads 2 (show Oper.op _ = Op.load 53 (Operand.tmp 2) from rfl) (by rfl) (by rfl) (n := 24) (by kernel_rfl) (by rfl) (by rfl)) (by rfl) (by rfl) ?_
            refine Ls.does none (Does.store 0 (show Oper.op _ = Op.store 53 (Operand.tmp 4) (Operand.tmp 38) from rfl) (by rfl) (by rfl) (by rfl) (by kernel_rfl) (by rfl) (by kernel_rfl) (by rfl)) (by rfl) (by rfl) ?_
            intro _ _
            refine Ls.ev (some 5) (Ev.assign (show Oper.op _ = Op.assign (Operand.const (Value.bool true)) from rfl) (by rfl)) (by rfl) (by rfl) ?_
            refine Ls.nil ?_
            refine Cd.ret ?_
            refine Ent.ret (()) (trivial) (Res.cell_tmp 0 (by rfl) (by rfl) (by rfl) (n := 24) (by kernel_rfl) (by rfl) (by rfl) (by rfl)) ?_ [] (by rfl) ?_
            · rfl
            · rfl
        · skip
          have e : heardB b fr id to M = false := by simp_all [heardB]
          rw [e, Bool.not_false, Bool.and_true]
          refine Ls.pass (some 30) (by rfl) (by rfl) ?_
          refine Ls.pass (some 31) (by rfl) (by rfl) ?_
          refine Ls.pass (some 32) (by rfl) (by rfl) ?_
          refine Ls.pass (some 33) (by rfl) (by rfl) ?_
          refine Ls.pass (some 34) (by rfl) (by rfl) ?_
          refine Ls.ev (some 35) (Ev.pickT (show Oper.op _ = Op.pick (Operand.tmp 29) (Operand.const (Value.bool true)) (Operand.tmp 34) from rfl) (by rfl) (by rfl)) (by rfl) (by rfl) ?_
          refine Ls.nil ?_
          refine Cd.cond_true (by rfl) (rfl) ?_
          refine Cd.seq ?_
          refine Cd.region ?_
          refine Ls.ev (some 36) (Ev.loads 2 (show Oper.op _ = Op.load 53 (Operand.tmp 2) from rfl) (by rfl) (by rfl) (n := 24) (by kernel_rfl) (by rfl) (by rfl)) (by rfl) (by rfl) ?_
          refine Ls.does none (Does.store 0 (show Oper.op _ = Op.store 53 (Operand.tmp 4) (Operand.tmp 36) from rfl) (by rfl) (by rfl) (by rfl) (by kernel_rfl) (by rfl) (by kernel_rfl) (by rfl)) (by rfl) (by rfl) ?_
          intro _ _
          refine Ls.ev (some 5) (Ev.assign (show Oper.op _ = Op.assign (Operand.const (Value.bool false)) from rfl) (by rfl)) (by rfl) (by rfl) ?_
          refine Ls.nil ?_
          refine Cd.ret ?_
          refine Ent.ret (()) (trivial) (Res.cell_tmp 0 (by rfl) (by rfl) (by rfl) (n := 24) (by kernel_rfl) (by rfl) (by rfl) (by rfl)) ?_ [] (by rfl) ?_
          · rfl
          · rfl
      · skip
        have e : heardB b fr id to M = false := by simp_all [heardB]
        rw [e, Bool.not_false, Bool.and_true]
        refine Ls.pass (some 22) (by rfl) (by rfl) ?_
        refine Ls.pass (some 23) (by rfl) (by rfl) ?_
        refine Ls.pass (some 24) (by rfl) (by rfl) ?_
        refine Ls.pass (some 25) (by rfl) (by rfl) ?_
        refine Ls.pass (some 26) (by rfl) (by rfl) ?_
        refine Ls.pass (some 27) (by rfl) (by rfl) ?_
        refine Ls.ev (some 28) (Ev.pickT (show Oper.op _ = Op.pick (Operand.tmp 21) (Operand.const (Value.bool true)) (Operand.tmp 27) from rfl) (by rfl) (by rfl)) (by rfl) (by rfl) ?_
        refine Ls.ev (some 29) (Ev.move (show Oper.op _ = Op.move (Operand.tmp 28) from rfl) (by rfl)) (by rfl) (by rfl) ?_
        refine Ls.pass (some 30) (by rfl) (by rfl) ?_
        refine Ls.pass (some 31) (by rfl) (by rfl) ?_
        refine Ls.pass (some 32) (by rfl) (by rfl) ?_
        refine Ls.pass (some 33) (by rfl) (by rfl) ?_
        refine Ls.pass (some 34) (by rfl) (by rfl) ?_
        refine Ls.ev (some 35) (Ev.pickT (show Oper.op _ = Op.pick (Operand.tmp 29) (Operand.const (Value.bool true)) (Operand.tmp 34) from rfl) (by rfl) (by rfl)) (by rfl) (by rfl) ?_
        refine Ls.nil ?_
        refine Cd.cond_true (by rfl) (rfl) ?_
        refine Cd.seq ?_
        refine Cd.region ?_
        refine Ls.ev (some 36) (Ev.loads 2 (show Oper.op _ = Op.load 53 (Operand.tmp 2) from rfl) (by rfl) (by rfl) (n := 24) (by kernel_rfl) (by rfl) (by rfl)) (by rfl) (by rfl) ?_
        refine Ls.does none (Does.store 0 (show Oper.op _ = Op.store 53 (Operand.tmp 4) (Operand.tmp 36) from rfl) (by rfl) (by rfl) (by rfl) (by kernel_rfl) (by rfl) (by kernel_rfl) (by rfl)) (by rfl) (by rfl) ?_
        intro _ _
        refine Ls.ev (some 5) (Ev.assign (show Oper.op _ = Op.assign (Operand.const (Value.bool false)) from rfl) (by rfl)) (by rfl) (by rfl) ?_
        refine Ls.nil ?_
        refine Cd.ret ?_
        refine Ent.ret (()) (trivial) (Res.cell_tmp 0 (by rfl) (by rfl) (by rfl) (n := 24) (by kernel_rfl) (by rfl) (by rfl) (by rfl)) ?_ [] (by rfl) ?_
        · rfl
        · rfl
    · skip
      have e : heardB b fr id to M = false := by simp_all [heardB]
      rw [e, Bool.not_false, Bool.and_true]
      refine Ls.pass (some 15) (by rfl) (by rfl) ?_
      refine Ls.pass (some 16) (by rfl) (by rfl) ?_
      refine Ls.pass (some 17) (by rfl) (by rfl) ?_
      refine Ls.pass (some 18) (by rfl) (by rfl) ?_
      refine Ls.pass (some 19) (by rfl) (by rfl) ?_
      refine Ls.ev (some 20) (Ev.pickT (show Oper.op _ = Op.pick (Operand.tmp 14) (Operand.const (Value.bool true)) (Operand.tmp 19) from rfl) (by rfl) (by rfl)) (by rfl) (by rfl) ?_
      refine Ls.ev (some 21) (Ev.move (show Oper.op _ = Op.move (Operand.tmp 20) from rfl) (by rfl)) (by rfl) (by rfl) ?_
      refine Ls.pass (some 22) (by rfl) (by rfl) ?_
      refine Ls.pass (some 23) (by rfl) (by rfl) ?_
      refine Ls.pass (some 24) (by rfl) (by rfl) ?_
      refine Ls.pass (some 25) (by rfl) (by rfl) ?_
      refine Ls.pass (some 26) (by rfl) (by rfl) ?_
      refine Ls.pass (some 27) (by rfl) (by rfl) ?_
      refine Ls.ev (some 28) (Ev.pickT (show Oper.op _ = Op.pick (Operand.tmp 21) (Operand.const (Value.bool true)) (Operand.tmp 27) from rfl) (by rfl) (by rfl)) (by rfl) (by rfl) ?_
      refine Ls.ev (some 29) (Ev.move (show Oper.op _ = Op.move (Operand.tmp 28) from rfl) (by rfl)) (by rfl) (by rfl) ?_
      refine Ls.pass (some 30) (by rfl) (by rfl) ?_
      refine Ls.pass (some 31) (by rfl) (by rfl) ?_
      refine Ls.pass (some 32) (by rfl) (by rfl) ?_
      refine Ls.pass (some 33) (by rfl) (by rfl) ?_
      refine Ls.pass (some 34) (by rfl) (by rfl) ?_
      refine Ls.ev (some 35) (Ev.pickT (show Oper.op _ = Op.pick (Operand.tmp 29) (Operand.const (Value.bool true)) (Operand.tmp 34) from rfl) (by rfl) (by rfl)) (by rfl) (by rfl) ?_
      refine Ls.nil ?_
      refine Cd.cond_true (by rfl) (rfl) ?_
      refine Cd.seq ?_
      refine Cd.region ?_
      refine Ls.ev (some 36) (Ev.loads 2 (show Oper.op _ = Op.load 53 (Operand.tmp 2) from rfl) (by rfl) (by rfl) (n := 24) (by kernel_rfl) (by rfl) (by rfl)) (by rfl) (by rfl) ?_
      refine Ls.does none (Does.store 0 (show Oper.op _ = Op.store 53 (Operand.tmp 4) (Operand.tmp 36) from rfl) (by rfl) (by rfl) (by rfl) (by kernel_rfl) (by rfl) (by kernel_rfl) (by rfl)) (by rfl) (by rfl) ?_
      intro _ _
      refine Ls.ev (some 5) (Ev.assign (show Oper.op _ = Op.assign (Operand.const (Value.bool false)) from rfl) (by rfl)) (by rfl) (by rfl) ?_
      refine Ls.nil ?_
      refine Cd.ret ?_
      refine Ent.ret (()) (trivial) (Res.cell_tmp 0 (by rfl) (by rfl) (by rfl) (n := 24) (by kernel_rfl) (by rfl) (by rfl) (by rfl)) ?_ [] (by rfl) ?_
      · rfl
      · rfl
  · skip
    have e : heardB b fr id to M = false := by simp_all [heardB]
    rw [e, Bool.not_false, Bool.and_true]
    refine Ls.pass (some 10) (by rfl) (by rfl) ?_
    refine Ls.pass (some 11) (by rfl) (by rfl) ?_
    refine Ls.pass (some 12) (by rfl) (by rfl) ?_
    refine Ls.ev (some 13) (Ev.pickT (show Oper.op _ = Op.pick (Operand.tmp 9) (Operand.const (Value.bool true)) (Operand.tmp 12) from rfl) (by rfl) (by rfl)) (by rfl) (by rfl) ?_
    refine Ls.ev (some 14) (Ev.move (show Oper.op _ = Op.move (Operand.tmp 13) from rfl) (by rfl)) (by rfl) (by rfl) ?_
    refine Ls.pass (some 15) (by rfl) (by rfl) ?_
    refine Ls.pass (some 16) (by rfl) (by rfl) ?_
    refine Ls.pass (some 17) (by rfl) (by rfl) ?_
    refine Ls.pass (some 18) (by rfl) (by rfl) ?_
    refine Ls.pass (some 19) (by rfl) (by rfl) ?_
    refine Ls.ev (some 20) (Ev.pickT (show Oper.op _ = Op.pick (Operand.tmp 14) (Operand.const (Value.bool true)) (Operand.tmp 19) from rfl) (by rfl) (by rfl)) (by rfl) (by rfl) ?_
    refine Ls.ev (some 21) (Ev.move (show Oper.op _ = Op.move (Operand.tmp 20) from rfl) (by rfl)) (by rfl) (by rfl) ?_
    refine Ls.pass (some 22) (by rfl) (by rfl) ?_
    refine Ls.pass (some 23) (by rfl) (by rfl) ?_
    refine Ls.pass (some 24) (by rfl) (by rfl) ?_
    refine Ls.pass (some 25) (by rfl) (by rfl) ?_
    refine Ls.pass (some 26) (by rfl) (by rfl) ?_
    refine Ls.pass (some 27) (by rfl) (by rfl) ?_
    refine Ls.ev (some 28) (Ev.pickT (show Oper.op _ = Op.pick (Operand.tmp 21) (Operand.const (Value.bool true)) (Operand.tmp 27) from rfl) (by rfl) (by rfl)) (by rfl) (by rfl) ?_
    refine Ls.ev (some 29) (Ev.move (show Oper.op _ = Op.move (Operand.tmp 28) from rfl) (by rfl)) (by rfl) (by rfl) ?_
    refine Ls.pass (some 30) (by rfl) (by rfl) ?_
    refine Ls.pass (some 31) (by rfl) (by rfl) ?_
    refine Ls.pass (some 32) (by rfl) (by rfl) ?_
    refine Ls.pass (some 33) (by rfl) (by rfl) ?_
    refine Ls.pass (some 34) (by rfl) (by rfl) ?_
    refine Ls.ev (some 35) (Ev.pickT (show Oper.op _ = Op.pick (Operand.tmp 29) (Operand.const (Value.bool true)) (Operand.tmp 34) from rfl) (by rfl) (by rfl)) (by rfl) (by rfl) ?_
    refine Ls.nil ?_
    refine Cd.cond_true (by rfl) (rfl) ?_
    refine Cd.seq ?_
    refine Cd.region ?_
    refine Ls.ev (some 36) (Ev.loads 2 (show Oper.op _ = Op.load 53 (Operand.tmp 2) from rfl) (by rfl) (by rfl) (n := 24) (by kernel_rfl) (by rfl) (by rfl)) (by rfl) (by rfl) ?_
    refine Ls.does none (Does.store 0 (show Oper.op _ = Op.store 53 (Operand.tmp 4) (Operand.tmp 36) from rfl) (by rfl) (by rfl) (by rfl) (by kernel_rfl) (by rfl) (by kernel_rfl) (by rfl)) (by rfl) (by rfl) ?_
    intro _ _
    refine Ls.ev (some 5) (Ev.assign (show Oper.op _ = Op.assign (Operand.const (Value.bool false)) from rfl) (by rfl)) (by rfl) (by rfl) ?_
    refine Ls.nil ?_
    refine Cd.ret ?_
    refine Ent.ret (()) (trivial) (Res.cell_tmp 0 (by rfl) (by rfl) (by rfl) (n := 24) (by kernel_rfl) (by rfl) (by rfl) (by rfl)) ?_ [] (by rfl) ?_
    · rfl
    · rfl
set_option maxHeartbeats 4000000 in
theorem hear_sl (g : Nat) (fr id f0 to kd i0 vb ep st tr s : Int) (b : Bool) (A : Option Addr) (n c : Nat) (M : MsgA) :
    Fn Try.prog 20 #[.pointer (some ⟨g, 0, none⟩), .agg M.enc.toArray] [blk g 90 (callC fr id b (msg f0 to kd i0 vb ep st A n c) tr s)] Unit
      (fun _ => .bool (heardB b fr id to M)) (fun _ => [blk g 90 (callC fr id (b && !heardB b fr id to M) (msg f0 to kd i0 vb ep st A n c) tr s)]) (fun _ => True) := by
  refine Fn.enter Try.func20 rfl Try.ntmps20 (by rfl) ?_
  intro w0
  refine Cd.seq ?_
  refine Cd.region ?_
  refine Ls.does (some 3) (Does.box (show Oper.op _ = Op.box 41 (Operand.tmp 1) from rfl) (by rfl)) (by rfl) (by rfl) ?_
  intro g1 _
  refine Ls.ev (some 4) (Ev.assign (show Oper.op _ = Op.assign (Operand.const (Value.bool false)) from rfl) (by rfl)) (by rfl) (by rfl) ?_
  refine Ls.nil ?_
  refine Cd.seq ?_
  refine Cd.seq ?_
  refine Cd.draw [] (by kernel_rfl) ?_
  refine Rg.ev 0 (by rfl) (fun _ h => h) (Ev.move (show Oper.op _ = Op.move (Operand.tmp 0) from rfl) (by rfl)) (by rfl) (some 5) (by rfl) (by kernel_rfl) (by kernel_rfl) (by kernel_rfl) (by kernel_rfl) ?_
  refine Rg.ev 1 (by rfl) (fun _ h => h) (Ev.nilCheck (show Oper.op _ = Op.nilCheck (Operand.tmp 5) from rfl) (by rfl)) (by rfl) (some 6) (by rfl) (by kernel_rfl) (by kernel_rfl) (by kernel_rfl) (by kernel_rfl) ?_
  refine Rg.ev 2 (by rfl) (fun _ h => h) (Ev.fieldAddr (k := 2) (show Oper.op _ = Op.fieldAddr 90 (Operand.tmp 6) 2 from rfl) (by rfl) (by kernel_rfl) (by rfl)) (by rfl) (some 7) (by rfl) (by kernel_rfl) (by kernel_rfl) (by kernel_rfl) (by kernel_rfl) ?_
  refine Rg.ev 3 (by rfl) (fun _ h => h) (Ev.load 1 (show Oper.op _ = Op.load 4 (Operand.tmp 7) from rfl) (by rfl) (by rfl) (by kernel_rfl) (by rfl)) (by rfl) (some 8) (by rfl) (by kernel_rfl) (by kernel_rfl) (by kernel_rfl) (by kernel_rfl) ?_
  refine Rg.ev 4 (by rfl) (fun _ h => h) (Ev.not (show Oper.op _ = Op.unOp UnOp.not 4 (Operand.tmp 8) from rfl) (by rfl)) (by rfl) (some 9) (by rfl) (by kernel_rfl) (by kernel_rfl) (by kernel_rfl) (by kernel_rfl) ?_
  refine Rg.ev 5 (by rfl) (fun _ h => h) (Ev.move (show Oper.op _ = Op.move (Operand.tmp 9) from rfl) (by rfl)) (by rfl) (some 10) (by rfl) (by kernel_rfl) (by kernel_rfl) (by kernel_rfl) (by kernel_rfl) ?_
  refine Ent.split 10 (by rfl) (fun h1 => ?_) (fun h1 => ?_)
  · skip
    refine Rg.ev 6 (by rfl) (fun _ h => h) (Ev.fieldAddr (k := 2) (show Oper.op _ = Op.fieldAddr 41 (Operand.tmp 3) 2 from rfl) (by rfl) (by kernel_rfl) (by rfl)) (by rfl) (some 11) (by rfl) (by kernel_rfl) (by kernel_rfl) (by kernel_rfl) (by kernel_rfl) ?_
    refine Rg.ev 7 (by rfl) (fun _ h => h) (Ev.load 0 (show Oper.op _ = Op.load 31 (Operand.tmp 11) from rfl) (by rfl) (by rfl) (by kernel_rfl) (by rfl)) (by rfl) (some 12) (by rfl) (by kernel_rfl) (by kernel_rfl) (by kernel_rfl) (by kernel_rfl) ?_
    refine Rg.ev 8 (by rfl) (fun _ h => h) (Ev.neq (show Oper.op _ = Op.binOp BinOp.neq 31 (Operand.tmp 12) (Operand.const (Value.int IntKind.i64 7)) 31 from rfl) (by rfl) (by rfl)) (by rfl) (some 13) (by rfl) (by kernel_rfl) (by kernel_rfl) (by kernel_rfl) (by kernel_rfl) ?_
    refine Rg.ev 9 (by rfl) (fun _ h => h) (Ev.pickF (show Oper.op _ = Op.pick (Operand.tmp 10) (Operand.const (Value.bool true)) (Operand.tmp 13) from rfl) (by rfl) (by rfl)) (by rfl) (some 14) (by rfl) (by kernel_rfl) (by kernel_rfl) (by kernel_rfl) (by kernel_rfl) ?_
    refine Rg.ev 10 (by rfl) (fun _ h => h) (Ev.move (show Oper.op _ = Op.move (Operand.tmp 14) from rfl) (by rfl)) (by rfl) (some 15) (by rfl) (by kernel_rfl) (by kernel_rfl) (by kernel_rfl) (by kernel_rfl) ?_
    refine Ent.split 15 (by rfl) (fun h2 => ?_) (fun h2 => ?_)
    · skip
      refine Rg.ev 11 (by rfl) (fun _ h => h) (Ev.fieldAddr (k := 1) (show Oper.op _ = Op.fieldAddr 41 (Operand.tmp 3) 1 from rfl) (by rfl) (by kernel_rfl) (by rfl)) (by rfl) (some 16) (by rfl) (by kernel_rfl) (by kernel_rfl) (by kernel_rfl) (by kernel_rfl) ?_
      refine Rg.ev 12 (by rfl) (fun _ h => h) (Ev.load 0 (show Oper.op _ = Op.load 3 (Operand.tmp 16) from rfl) (by rfl) (by rfl) (by kernel_rfl) (by rfl)) (by rfl) (some 17) (by rfl) (by kernel_rfl) (by kernel_rfl) (by kernel_rfl) (by kernel_rfl) ?_
      refine Rg.ev 13 (by rfl) (fun _ h => h) (Ev.move (show Oper.op _ = Op.move (Operand.tmp 0) from rfl) (by rfl)) (by rfl) (some 18) (by rfl) (by kernel_rfl) (by kernel_rfl) (by kernel_rfl) (by kernel_rfl) ?_
      refine Rg.ev 14 (by rfl) (fun _ h => h) (Ev.nilCheck (show Oper.op _ = Op.nilCheck (Operand.tmp 18) from rfl) (by rfl)) (by rfl) (some 19) (by rfl) (by kernel_rfl) (by kernel_rfl) (by kernel_rfl) (by kernel_rfl) ?_
      refine Rg.ev 15 (by rfl) (fun _ h => h) (Ev.fieldAddr (k := 0) (show Oper.op _ = Op.fieldAddr 90 (Operand.tmp 19) 0 from rfl) (by rfl) (by kernel_rfl) (by rfl)) (by rfl) (some 20) (by rfl) (by kernel_rfl) (by kernel_rfl) (by kernel_rfl) (by kernel_rfl) ?_
      refine Rg.ev 16 (by rfl) (fun _ h => h) (Ev.load 1 (show Oper.op _ = Op.load 3 (Operand.tmp 20) from rfl) (by rfl) (by rfl) (by kernel_rfl) (by rfl)) (by rfl) (some 21) (by rfl) (by kernel_rfl) (by kernel_rfl) (by kernel_rfl) (by kernel_rfl) ?_
      refine Rg.ev 17 (by rfl) (fun _ h => h) (Ev.neq (show Oper.op _ = Op.binOp BinOp.neq 3 (Operand.tmp 17) (Operand.tmp 21) 3 from rfl) (by rfl) (by rfl)) (by rfl) (some 22) (by rfl) (by kernel_rfl) (by kernel_rfl) (by kernel_rfl) (by kernel_rfl) ?_
      refine Rg.ev 18 (by rfl) (fun _ h => h) (Ev.pickF (show Oper.op _ = Op.pick (Operand.tmp 15) (Operand.const (Value.bool true)) (Operand.tmp 22) from rfl) (by rfl) (by rfl)) (by rfl) (some 23) (by rfl) (by kernel_rfl) (by kernel_rfl) (by kernel_rfl) (by kernel_rfl) ?_
      refine Rg.ev 19 (by rfl) (fun _ h => h) (Ev.move (show Oper.op _ = Op.move (Operand.tmp 23) from rfl) (by rfl)) (by rfl) (some 24) (by rfl) (by kernel_rfl) (by kernel_rfl) (by kernel_rfl) (by kernel_rfl) ?_
      refine Ent.split 24 (by rfl) (fun h3 => ?_) (fun h3 => ?_)
      · skip
        refine Rg.ev 20 (by rfl) (fun _ h => h) (Ev.fieldAddr (k := 0) (show Oper.op _ = Op.fieldAddr 41 (Operand.tmp 3) 0 from rfl) (by rfl) (by kernel_rfl) (by rfl)) (by rfl) (some 25) (by rfl) (by kernel_rfl) (by kernel_rfl) (by kernel_rfl) (by kernel_rfl) ?_
        refine Rg.ev 21 (by rfl) (fun _ h => h) (Ev.load 0 (show Oper.op _ = Op.load 3 (Operand.tmp 25) from rfl) (by rfl) (by rfl) (by kernel_rfl) (by rfl)) (by rfl) (some 26) (by rfl) (by kernel_rfl) (by kernel_rfl) (by kernel_rfl) (by kernel_rfl) ?_
        refine Rg.ev 22 (by rfl) (fun _ h => h) (Ev.move (show Oper.op _ = Op.move (Operand.tmp 0) from rfl) (by rfl)) (by rfl) (some 27) (by rfl) (by kernel_rfl) (by kernel_rfl) (by kernel_rfl) (by kernel_rfl) ?_
        refine Rg.ev 23 (by rfl) (fun _ h => h) (Ev.nilCheck (show Oper.op _ = Op.nilCheck (Operand.tmp 27) from rfl) (by rfl)) (by rfl) (some 28) (by rfl) (by kernel_rfl) (by kernel_rfl) (by kernel_rfl) (by kernel_rfl) ?_
        refine Rg.ev 24 (by rfl) (fun _ h => h) (Ev.fieldAddr (k := 3) (show Oper.op _ = Op.fieldAddr 90 (Operand.tmp 28) 3 from rfl) (by rfl) (by kernel_rfl) (by rfl)) (by rfl) (some 29) (by rfl) (by kernel_rfl) (by kernel_rfl) (by kernel_rfl) (by kernel_rfl) ?_
        refine Rg.ev 25 (by rfl) (fun _ h => h) (Ev.fieldAddr (k := 1) (show Oper.op _ = Op.fieldAddr 41 (Operand.tmp 29) 1 from rfl) (by rfl) (by kernel_rfl) (by rfl)) (by rfl) (some 30) (by rfl) (by kernel_rfl) (by kernel_rfl) (by kernel_rfl) (by kernel_rfl) ?_
        refine Rg.ev 26 (by rfl) (fun _ h => h) (Ev.load 1 (show Oper.op _ = Op.load 3 (Operand.tmp 30) from rfl) (by rfl) (by rfl) (by kernel_rfl) (by rfl)) (by rfl) (some 31) (by rfl) (by kernel_rfl) (by kernel_rfl) (by kernel_rfl) (by kernel_rfl) ?_
        refine Rg.ev 27 (by rfl) (fun _ h => h) (Ev.neq (show Oper.op _ = Op.binOp BinOp.neq 3 (Operand.tmp 26) (Operand.tmp 31) 3 from rfl) (by rfl) (by rfl)) (by rfl) (some 32) (by rfl) (by kernel_rfl) (by kernel_rfl) (by kernel_rfl) (by kernel_rfl) ?_
        refine Rg.ev 28 (by rfl) (fun _ h => h) (Ev.pickF (show Oper.op _ = Op.pick (Operand.tmp 24) (Operand.const (Value.bool true)) (Operand.tmp 32) from rfl) (by rfl) (by rfl)) (by rfl) (some 33) (by rfl) (by kernel_rfl) (by kernel_rfl) (by kernel_rfl) (by kernel_rfl) ?_
        refine Rg.ev 29 (by rfl) (fun _ h => h) (Ev.move (show Oper.op _ = Op.move (Operand.tmp 33) from rfl) (by rfl)) (by rfl) (some 34) (by rfl) (by kernel_rfl) (by kernel_rfl) (by kernel_rfl) (by kernel_rfl) ?_
        refine Ent.split 34 (by rfl) (fun h4 => ?_) (fun h4 => ?_)
        · skip
          refine Rg.ev 30 (by rfl) (fun _ h => h) (Ev.fieldAddr (k := 10) (show Oper.op _ = Op.fieldAddr 41 (Operand.tmp 3) 6 from rfl) (by rfl) (by kernel_rfl) (by rfl)) (by rfl) (some 35) (by rfl) (by kernel_rfl) (by kernel_rfl) (by kernel_rfl) (by kernel_rfl) ?_
          refine Rg.ev 31 (by rfl) (fun _ h => h) (Ev.load 0 (show Oper.op _ = Op.load 3 (Operand.tmp 35) from rfl) (by rfl) (by rfl) (by kernel_rfl) (by rfl)) (by rfl) (some 36) (by rfl) (by kernel_rfl) (by kernel_rfl) (by kernel_rfl) (by kernel_rfl) ?_
          refine Rg.ev 32 (by rfl) (fun _ h => h) (Ev.move (show Oper.op _ = Op.move (Operand.tmp 0) from rfl) (by rfl)) (by rfl) (some 37) (by rfl) (by kernel_rfl) (by kernel_rfl) (by kernel_rfl) (by kernel_rfl) ?_
          refine Rg.ev 33 (by rfl) (fun _ h => h) (Ev.nilCheck (show Oper.op _ = Op.nilCheck (Operand.tmp 37) from rfl) (by rfl)) (by rfl) (some 38) (by rfl) (by kernel_rfl) (by kernel_rfl) (by kernel_rfl) (by kernel_rfl) ?_
          refine Rg.ev 34 (by rfl) (fun _ h => h) (Ev.fieldAddr (k := 1) (show Oper.op _ = Op.fieldAddr 90 (Operand.tmp 38) 1 from rfl) (by rfl) (by kernel_rfl) (by rfl)) (by rfl) (some 39) (by rfl) (by kernel_rfl) (by kernel_rfl) (by kernel_rfl) (by kernel_rfl) ?_
          refine Rg.ev 35 (by rfl) (fun _ h => h) (Ev.load 1 (show Oper.op _ = Op.load 3 (Operand.tmp 39) from rfl) (by rfl) (by rfl) (by kernel_rfl) (by rfl)) (by rfl) (some 40) (by rfl) (by kernel_rfl) (by kernel_rfl) (by kernel_rfl) (by kernel_rfl) ?_
          refine Rg.ev 36 (by rfl) (fun _ h => h) (Ev.neq (show Oper.op _ = Op.binOp BinOp.neq 3 (Operand.tmp 36) (Operand.tmp 40) 3 from rfl) (by rfl) (by rfl)) (by rfl) (some 41) (by rfl) (by kernel_rfl) (by kernel_rfl) (by kernel_rfl) (by kernel_rfl) ?_
          refine Rg.ev 37 (by rfl) (fun _ h => h) (Ev.pickF (show Oper.op _ = Op.pick (Operand.tmp 34) (Operand.const (Value.bool true)) (Operand.tmp 41) from rfl) (by rfl) (by rfl)) (by rfl) (some 42) (by rfl) (by kernel_rfl) (by kernel_rfl) (by kernel_rfl) (by kernel_rfl) ?_
          refine Rg.done (by kernel_rfl) ?_ _
          refine Cd.cond _ (by rfl) (fun h5 => ?_) (fun h5 => ?_)
          · skip
            have e : heardB b fr id to M = false := by simp_all [heardB]
            rw [e, Bool.not_false, Bool.and_true]
            refine Cd.seq ?_
            refine Cd.region ?_
            refine Ls.ev (some 4) (Ev.assign (show Oper.op _ = Op.assign (Operand.const (Value.bool false)) from rfl) (by rfl)) (by rfl) (by rfl) ?_
            refine Ls.nil ?_
            refine Cd.ret ?_
            refine Ent.ret (()) (trivial) (Res.tmp (by rfl) (by rfl)) ?_ [1] (by rfl) ?_
            · rfl
            · rfl
          · skip
            have e : heardB b fr id to M = true := by simp_all [heardB]
            rw [e, Bool.not_true, Bool.and_false]
            refine Cd.skip ?_
            refine Cd.seq ?_
            refine Cd.region ?_
            refine Ls.ev (some 43) (Ev.move (show Oper.op _ = Op.move (Operand.tmp 0) from rfl) (by rfl)) (by rfl) (by rfl) ?_
            refine Ls.ev (some 44) (Ev.nilCheck (show Oper.op _ = Op.nilCheck (Operand.tmp 43) from rfl) (by rfl)) (by rfl) (by rfl) ?_
            refine Ls.ev (some 45) (Ev.fieldAddr (k := 2) (show Oper.op _ = Op.fieldAddr 90 (Operand.tmp 44) 2 from rfl) (by rfl) (by kernel_rfl) (by rfl)) (by rfl) (by rfl) ?_
            refine Ls.does none (Does.store 1 (show Oper.op _ = Op.store 4 (Operand.tmp 45) (Operand.const (Value.bool false)) from rfl) (by rfl) (by rfl) (by rfl) (by kernel_rfl) (by rfl) (by kernel_rfl) (by rfl)) (by rfl) (by rfl) ?_
            intro _ _
            refine Ls.nil ?_
            refine Cd.seq ?_
            refine Cd.region ?_
            refine Ls.ev (some 4) (Ev.assign (show Oper.op _ = Op.assign (Operand.const (Value.bool true)) from rfl) (by rfl)) (by rfl) (by rfl) ?_
            refine Ls.nil ?_
            refine Cd.ret ?_
            refine Ent.ret (()) (trivial) (Res.tmp (by rfl) (by rfl)) ?_ [1] (by rfl) ?_
            · rfl
            · rfl
        · skip
          have e : heardB b fr id to M = false := by simp_all [heardB]
          rw [e, Bool.not_false, Bool.and_true]
          refine Rg.pass 30 (by rfl) (fun _ h => h) (by rfl) (some 35) (by rfl) (by kernel_rfl) (by kernel_rfl) (by kernel_rfl) (by kernel_rfl) ?_
          refine Rg.pass 31 (by rfl) (fun _ h => h) (by rfl) (some 36) (by rfl) (by kernel_rfl) (by kernel_rfl) (by kernel_rfl) (by kernel_rfl) ?_
          refine Rg.pass 32 (by rfl) (fun _ h => h) (by rfl) (some 37) (by rfl) (by kernel_rfl) (by kernel_rfl) (by kernel_rfl) (by kernel_rfl) ?_
          refine Rg.pass 33 (by rfl) (fun _ h => h) (by rfl) (some 38) (by rfl) (by kernel_rfl) (by kernel_rfl) (by kernel_rfl) (by kernel_rfl) ?_
          refine Rg.pass 34 (by rfl) (fun _ h => h) (by rfl) (some 39) (by rfl) (by kernel_rfl) (by kernel_rfl) (by kernel_rfl) (by kernel_rfl) ?_
          refine Rg.pass 35 (by rfl) (fun _ h => h) (by rfl) (some 40) (by rfl) (by kernel_rfl) (by kernel_rfl) (by kernel_rfl) (by kernel_rfl) ?_
          refine Rg.pass 36 (by rfl) (fun _ h => h) (by rfl) (some 41) (by rfl) (by kernel_rfl) (by kernel_rfl) (by kernel_rfl) (by kernel_rfl) ?_
          refine Rg.ev 37 (by rfl) (fun _ h => h) (Ev.pickT (show Oper.op _ = Op.pick (Operand.tmp 34) (Operand.const (Value.bool true)) (Operand.tmp 41) from rfl) (by rfl) (by rfl)) (by rfl) (some 42) (by rfl) (by kernel_rfl) (by kernel_rfl) (by kernel_rfl) (by kernel_rfl) ?_
          refine Rg.done (by kernel_rfl) ?_ _
          refine Cd.cond_true (by rfl) (rfl) ?_
          refine Cd.seq ?_
          refine Cd.region ?_
          refine Ls.ev (some 4) (Ev.assign (show Oper.op _ = Op.assign (Operand.const (Value.bool false)) from rfl) (by rfl)) (by rfl) (by rfl) ?_
          refine Ls.nil ?_
          refine Cd.ret ?_
          refine Ent.ret (()) (trivial) (Res.tmp (by rfl) (by rfl)) ?_ [1] (by rfl) ?_
          · rfl
          · rfl
      · skip
        have e : heardB b fr id to M = false := by simp_all [heardB]
        rw [e, Bool.not_false, Bool.and_true]
        refine Rg.pass 20 (by rfl) (fun _ h => h) (by rfl) (some 25) (by rfl) (by kernel_rfl) (by kernel_rfl) (by kernel_rfl) (by kernel_rfl) ?_
        refine Rg.pass 21 (by rfl) (fun _ h => h) (by rfl) (some 26) (by rfl) (by kernel_rfl) (by kernel_rfl) (by kernel_rfl) (by kernel_rfl) ?_
        refine Rg.pass 22 (by rfl) (fun _ h => h) (by rfl) (some 27) (by rfl) (by kernel_rfl) (by kernel_rfl) (by kernel_rfl) (by kernel_rfl) ?_
        refine Rg.pass 23 (by rfl) (fun _ h => h) (by rfl) (some 28) (by rfl) (by kernel_rfl) (by kernel_rfl) (by kernel_rfl) (by kernel_rfl) ?_
        refine Rg.pass 24 (by rfl) (fun _ h => h) (by rfl) (some 29) (by rfl) (by kernel_rfl) (by kernel_rfl) (by kernel_rfl) (by kernel_rfl) ?_
        refine Rg.pass 25 (by rfl) (fun _ h => h) (by rfl) (some 30) (by rfl) (by kernel_rfl) (by kernel_rfl) (by kernel_rfl) (by kernel_rfl) ?_
        refine Rg.pass 26 (by rfl) (fun _ h => h) (by rfl) (some 31) (by rfl) (by kernel_rfl) (by kernel_rfl) (by kernel_rfl) (by kernel_rfl) ?_
        refine Rg.pass 27 (by rfl) (fun _ h => h) (by rfl) (some 32) (by rfl) (by kernel_rfl) (by kernel_rfl) (by kernel_rfl) (by kernel_rfl) ?_
        refine Rg.ev 28 (by rfl) (fun _ h => h) (Ev.pickT (show Oper.op _ = Op.pick (Operand.tmp 24) (Operand.const (Value.bool true)) (Operand.tmp 32) from rfl) (by rfl) (by rfl)) (by rfl) (some 33) (by rfl) (by kernel_rfl) (by kernel_rfl) (by kernel_rfl) (by kernel_rfl) ?_
        refine Rg.ev 29 (by rfl) (fun _ h => h) (Ev.move (show Oper.op _ = Op.move (Operand.tmp 33) from rfl) (by rfl)) (by rfl) (some 34) (by rfl) (by kernel_rfl) (by kernel_rfl) (by kernel_rfl) (by kernel_rfl) ?_
        refine Rg.pass 30 (by rfl) (fun _ h => h) (by rfl) (some 35) (by rfl) (by kernel_rfl) (by kernel_rfl) (by kernel_rfl) (by kernel_rfl) ?_
        refine Rg.pass 31 (by rfl) (fun _ h => h) (by rfl) (some 36) (by rfl) (by kernel_rfl) (by kernel_rfl) (by kernel_rfl) (by kernel_rfl) ?_
        refine Rg.pass 32 (by rfl) (fun _ h => h) (by rfl) (some 37) (by rfl) (by kernel_rfl) (by kernel_rfl) (by kernel_rfl) (by kernel_rfl) ?_
        refine Rg.pass 33 (by rfl) (fun _ h => h) (by rfl) (some 38) (by rfl) (by kernel_rfl) (by kernel_rfl) (by kernel_rfl) (by kernel_rfl) ?_
        refine Rg.pass 34 (by rfl) (fun _ h => h) (by rfl) (some 39) (by rfl) (by kernel_rfl) (by kernel_rfl) (by kernel_rfl) (by kernel_rfl) ?_
        refine Rg.pass 35 (by rfl) (fun _ h => h) (by rfl) (some 40) (by rfl) (by kernel_rfl) (by kernel_rfl) (by kernel_rfl) (by kernel_rfl) ?_
        refine Rg.pass 36 (by rfl) (fun _ h => h) (by rfl) (some 41) (by rfl) (by kernel_rfl) (by kernel_rfl) (by kernel_rfl) (by kernel_rfl) ?_
        refine Rg.ev 37 (by rfl) (fun _ h => h) (Ev.pickT (show Oper.op _ = Op.pick (Operand.tmp 34) (Operand.const (Value.bool true)) (Operand.tmp 41) from rfl) (by rfl) (by rfl)) (by rfl) (some 42) (by rfl) (by kernel_rfl) (by kernel_rfl) (by kernel_rfl) (by kernel_rfl) ?_
        refine Rg.done (by kernel_rfl) ?_ _
        refine Cd.cond_true (by rfl) (rfl) ?_
        refine Cd.seq ?_
        refine Cd.region ?_
        refine Ls.ev (some 4) (Ev.assign (show Oper.op _ = Op.assign (Operand.const (Value.bool false)) from rfl) (by rfl)) (by rfl) (by rfl) ?_
        refine Ls.nil ?_
        refine Cd.ret ?_
        refine Ent.ret (()) (trivial) (Res.tmp (by rfl) (by rfl)) ?_ [1] (by rfl) ?_
        · rfl
        · rfl
    · skip
      have e : heardB b fr id to M = false := by simp_all [heardB]
      rw [e, Bool.not_false, Bool.and_true]
      refine Rg.pass 11 (by rfl) (fun _ h => h) (by rfl) (some 16) (by rfl) (by kernel_rfl) (by kernel_rfl) (by kernel_rfl) (by kernel_rfl) ?_
      refine Rg.pass 12 (by rfl) (fun _ h => h) (by rfl) (some 17) (by rfl) (by kernel_rfl) (by kernel_rfl) (by kernel_rfl) (by kernel_rfl) ?_
      refine Rg.pass 13 (by rfl) (fun _ h => h) (by rfl) (some 18) (by rfl) (by kernel_rfl) (by kernel_rfl) (by kernel_rfl) (by kernel_rfl) ?_
      refine Rg.pass 14 (by rfl) (fun _ h => h) (by rfl) (some 19) (by rfl) (by kernel_rfl) (by kernel_rfl) (by kernel_rfl) (by kernel_rfl) ?_
      refine Rg.pass 15 (by rfl) (fun _ h => h) (by rfl) (some 20) (by rfl) (by kernel_rfl) (by kernel_rfl) (by kernel_rfl) (by kernel_rfl) ?_
      refine Rg.pass 16 (by rfl) (fun _ h => h) (by rfl) (some 21) (by rfl) (by kernel_rfl) (by kernel_rfl) (by kernel_rfl) (by kernel_rfl) ?_
      refine Rg.pass 17 (by rfl) (fun _ h => h) (by rfl) (some 22) (by rfl) (by kernel_rfl) (by kernel_rfl) (by kernel_rfl) (by kernel_rfl) ?_
      refine Rg.ev 18 (by rfl) (fun _ h => h) (Ev.pickT (show Oper.op _ = Op.pick (Operand.tmp 15) (Operand.const (Value.bool true)) (Operand.tmp 22) from rfl) (by rfl) (by rfl)) (by rfl) (some 23) (by rfl) (by kernel_rfl) (by kernel_rfl) (by kernel_rfl) (by kernel_rfl) ?_
      refine Rg.ev 19 (by rfl) (fun _ h => h) (Ev.move (show Oper.op _ = Op.move (Operand.tmp 23) from rfl) (by rfl)) (by rfl) (some 24) (by rfl) (by kernel_rfl) (by kernel_rfl) (by kernel_rfl) (by kernel_rfl) ?_
      refine Rg.pass 20 (by rfl) (fun _ h => h) (by rfl) (some 25) (by rfl) (by kernel_rfl) (by kernel_rfl) (by kernel_rfl) (by kernel_rfl) ?_
      refine Rg.pass 21 (by rfl) (fun _ h => h) (by rfl) (some 26) (by rfl) (by kernel_rfl) (by kernel_rfl) (by kernel_rfl) (by kernel_rfl) ?_
      refine Rg.pass 22 (by rfl) (fun _ h => h) (by rfl) (some 27) (by rfl) (by kernel_rfl) (by kernel_rfl) (by kernel_rfl) (by kernel_rfl) ?_
      refine Rg.pass 23 (by rfl) (fun _ h => h) (by rfl) (some 28) (by rfl) (by kernel_rfl) (by kernel_rfl) (by kernel_rfl) (by kernel_rfl) ?_
      refine Rg.pass 24 (by rfl) (fun _ h => h) (by rfl) (some 29) (by rfl) (by kernel_rfl) (by kernel_rfl) (by kernel_rfl) (by kernel_rfl) ?_
      refine Rg.pass 25 (by rfl) (fun _ h => h) (by rfl) (some 30) (by rfl) (by kernel_rfl) (by kernel_rfl) (by kernel_rfl) (by kernel_rfl) ?_
      refine Rg.pass 26 (by rfl) (fun _ h => h) (by rfl) (some 31) (by rfl) (by kernel_rfl) (by kernel_rfl) (by kernel_rfl) (by kernel_rfl) ?_
      refine Rg.pass 27 (by rfl) (fun _ h => h) (by rfl) (some 32) (by rfl) (by kernel_rfl) (by kernel_rfl) (by kernel_rfl) (by kernel_rfl) ?_
      refine Rg.ev 28 (by rfl) (fun _ h => h) (Ev.pickT (show Oper.op _ = Op.pick (Operand.tmp 24) (Operand.const (Value.bool true)) (Operand.tmp 32) from rfl) (by rfl) (by rfl)) (by rfl) (some 33) (by rfl) (by kernel_rfl) (by kernel_rfl) (by kernel_rfl) (by kernel_rfl) ?_
      refine Rg.ev 29 (by rfl) (fun _ h => h) (Ev.move (show Oper.op _ = Op.move (Operand.tmp 33) from rfl) (by rfl)) (by rfl) (some 34) (by rfl) (by kernel_rfl) (by kernel_rfl) (by kernel_rfl) (by kernel_rfl) ?_
      refine Rg.pass 30 (by rfl) (fun _ h => h) (by rfl) (some 35) (by rfl) (by kernel_rfl) (by kernel_rfl) (by kernel_rfl) (by kernel_rfl) ?_
      refine Rg.pass 31 (by rfl) (fun _ h => h) (by rfl) (some 36) (by rfl) (by kernel_rfl) (by kernel_rfl) (by kernel_rfl) (by kernel_rfl) ?_
      refine Rg.pass 32 (by rfl) (fun _ h => h) (by rfl) (some 37) (by rfl) (by kernel_rfl) (by kernel_rfl) (by kernel_rfl) (by kernel_rfl) ?_
      refine Rg.pass 33 (by rfl) (fun _ h => h) (by rfl) (some 38) (by rfl) (by kernel_rfl) (by kernel_rfl) (by kernel_rfl) (by kernel_rfl) ?_
      refine Rg.pass 34 (by rfl) (fun _ h => h) (by rfl) (some 39) (by rfl) (by kernel_rfl) (by kernel_rfl) (by kernel_rfl) (by kernel_rfl) ?_
      refine Rg.pass 35 (by rfl) (fun _ h => h) (by rfl) (some 40) (by rfl) (by kernel_rfl) (by kernel_rfl) (by kernel_rfl) (by kernel_rfl) ?_
      refine Rg.pass 36 (by rfl) (fun _ h => h) (by rfl) (some 41) (by rfl) (by kernel_rfl) (by kernel_rfl) (by kernel_rfl) (by kernel_rfl) ?_
      refine Rg.ev 37 (by rfl) (fun _ h => h) (Ev.pickT (show Oper.op _ = Op.pick (Operand.tmp 34) (Operand.const (Value.bool true)) (Operand.tmp 41) from rfl) (by rfl) (by rfl)) (by rfl) (some 42) (by rfl) (by kernel_rfl) (by kernel_rfl) (by kernel_rfl) (by kernel_rfl) ?_
      refine Rg.done (by kernel_rfl) ?_ _
      refine Cd.cond_true (by rfl) (rfl) ?_
      refine Cd.seq ?_
      refine Cd.region ?_
      refine Ls.ev (some 4) (Ev.assign (show Oper.op _ = Op.assign (Operand.const (Value.bool false)) from rfl) (by rfl)) (by rfl) (by rfl) ?_
      refine Ls.nil ?_
      refine Cd.ret ?_
      refine Ent.ret (()) (trivial) (Res.tmp (by rfl) (by rfl)) ?_ [1] (by rfl) ?_
      · rfl
      · rfl
  · skip
    have e : heardB b fr id to M = false := by simp_all [heardB]
    rw [e, Bool.not_false, Bool.and_true]
    refine Rg.pass 6 (by rfl) (fun _ h => h) (by rfl) (some 11) (by rfl) (by kernel_rfl) (by kernel_rfl) (by kernel_rfl) (by kernel_rfl) ?_
    refine Rg.pass 7 (by rfl) (fun _ h => h) (by rfl) (some 12) (by rfl) (by kernel_rfl) (by kernel_rfl) (by kernel_rfl) (by kernel_rfl) ?_
    refine Rg.pass 8 (by rfl) (fun _ h => h) (by rfl) (some 13) (by rfl) (by kernel_rfl) (by kernel_rfl) (by kernel_rfl) (by kernel_rfl) ?_
    refine Rg.ev 9 (by rfl) (fun _ h => h) (Ev.pickT (show Oper.op _ = Op.pick (Operand.tmp 10) (Operand.const (Value.bool true)) (Operand.tmp 13) from rfl) (by rfl) (by rfl)) (by rfl) (some 14) (by rfl) (by kernel_rfl) (by kernel_rfl) (by kernel_rfl) (by kernel_rfl) ?_
    refine Rg.ev 10 (by rfl) (fun _ h => h) (Ev.move (show Oper.op _ = Op.move (Operand.tmp 14) from rfl) (by rfl)) (by rfl) (some 15) (by rfl) (by kernel_rfl) (by kernel_rfl) (by kernel_rfl) (by kernel_rfl) ?_
    refine Rg.pass 11 (by rfl) (fun _ h => h) (by rfl) (some 16) (by rfl) (by kernel_rfl) (by kernel_rfl) (by kernel_rfl) (by kernel_rfl) ?_
    refine Rg.pass 12 (by rfl) (fun _ h => h) (by rfl) (some 17) (by rfl) (by kernel_rfl) (by kernel_rfl) (by kernel_rfl) (by kernel_rfl) ?_
    refine Rg.pass 13 (by rfl) (fun _ h => h) (by rfl) (some 18) (by rfl) (by kernel_rfl) (by kernel_rfl) (by kernel_rfl) (by kernel_rfl) ?_
    refine Rg.pass 14 (by rfl) (fun _ h => h) (by rfl) (some 19) (by rfl) (by kernel_rfl) (by kernel_rfl) (by kernel_rfl) (by kernel_rfl) ?_
    refine Rg.pass 15 (by rfl) (fun _ h => h) (by rfl) (some 20) (by rfl) (by kernel_rfl) (by kernel_rfl) (by kernel_rfl) (by kernel_rfl) ?_
    refine Rg.pass 16 (by rfl) (fun _ h => h) (by rfl) (some 21) (by rfl) (by kernel_rfl) (by kernel_rfl) (by kernel_rfl) (by kernel_rfl) ?_
    refine Rg.pass 17 (by rfl) (fun _ h => h) (by rfl) (some 22) (by rfl) (by kernel_rfl) (by kernel_rfl) (by kernel_rfl) (by kernel_rfl) ?_
    refine Rg.ev 18 (by rfl) (fun _ h => h) (Ev.pickT (show Oper.op _ = Op.pick (Operand.tmp 15) (Operand.const (Value.bool true)) (Operand.tmp 22) from rfl) (by rfl) (by rfl)) (by rfl) (some 23) (by rfl) (by kernel_rfl) (by kernel_rfl) (by kernel_rfl) (by kernel_rfl) ?_
    refine Rg.ev 19 (by rfl) (fun _ h => h) (Ev.move (show Oper.op _ = Op.move (Operand.tmp 23) from rfl) (by rfl)) (by rfl) (some 24) (by rfl) (by kernel_rfl) (by kernel_rfl) (by kernel_rfl) (by kernel_rfl) ?_
    refine Rg.pass 20 (by rfl) (fun _ h => h) (by rfl) (some 25) (by rfl) (by kernel_rfl) (by kernel_rfl) (by kernel_rfl) (by kernel_rfl) ?_
    refine Rg.pass 21 (by rfl) (fun _ h => h) (by rfl) (some 26) (by rfl) (by kernel_rfl) (by kernel_rfl) (by kernel_rfl) (by kernel_rfl) ?_
    refine Rg.pass 22 (by rfl) (fun _ h => h) (by rfl) (some 27) (by rfl) (by kernel_rfl) (by kernel_rfl) (by kernel_rfl) (by kernel_rfl) ?_
    refine Rg.pass 23 (by rfl) (fun _ h => h) (by rfl) (some 28) (by rfl) (by kernel_rfl) (by kernel_rfl) (by kernel_rfl) (by kernel_rfl) ?_
    refine Rg.pass 24 (by rfl) (fun _ h => h) (by rfl) (some 29) (by rfl) (by kernel_rfl) (by kernel_rfl) (by kernel_rfl) (by kernel_rfl) ?_
    refine Rg.pass 25 (by rfl) (fun _ h => h) (by rfl) (some 30) (by rfl) (by kernel_rfl) (by kernel_rfl) (by kernel_rfl) (by kernel_rfl) ?_
    refine Rg.pass 26 (by rfl) (fun _ h => h) (by rfl) (some 31) (by rfl) (by kernel_rfl) (by kernel_rfl) (by kernel_rfl) (by kernel_rfl) ?_
    refine Rg.pass 27 (by rfl) (fun _ h => h) (by rfl) (some 32) (by rfl) (by kernel_rfl) (by kernel_rfl) (by kernel_rfl) (by kernel_rfl) ?_
    refine Rg.ev 28 (by rfl) (fun _ h => h) (Ev.pickT (show Oper.op _ = Op.pick (Operand.tmp 24) (Operand.const (Value.bool true)) (Operand.tmp 32) from rfl) (by rfl) (by rfl)) (by rfl) (some 33) (by rfl) (by kernel_rfl) (by kernel_rfl) (by kernel_rfl) (by kernel_rfl) ?_
    refine Rg.ev 29 (by rfl) (fun _ h => h) (Ev.move (show Oper.op _ = Op.move (Operand.tmp 33) from rfl) (by rfl)) (by rfl) (some 34) (by rfl) (by kernel_rfl) (by kernel_rfl) (by kernel_rfl) (by kernel_rfl) ?_
    refine Rg.pass 30 (by rfl) (fun _ h => h) (by rfl) (some 35) (by rfl) (by kernel_rfl) (by kernel_rfl) (by kernel_rfl) (by kernel_rfl) ?_
    refine Rg.pass 31 (by rfl) (fun _ h => h) (by rfl) (some 36) (by rfl) (by kernel_rfl) (by kernel_rfl) (by kernel_rfl) (by kernel_rfl) ?_
    refine Rg.pass 32 (by rfl) (fun _ h => h) (by rfl) (some 37) (by rfl) (by kernel_rfl) (by kernel_rfl) (by kernel_rfl) (by kernel_rfl) ?_
    refine Rg.pass 33 (by rfl) (fun _ h => h) (by rfl) (some 38) (by rfl) (by kernel_rfl) (by kernel_rfl) (by kernel_rfl) (by kernel_rfl) ?_
    refine Rg.pass 34 (by rfl) (fun _ h => h) (by rfl) (some 39) (by rfl) (by kernel_rfl) (by kernel_rfl) (by kernel_rfl) (by kernel_rfl) ?_
    refine Rg.pass 35 (by rfl) (fun _ h => h) (by rfl) (some 40) (by rfl) (by kernel_rfl) (by kernel_rfl) (by kernel_rfl) (by kernel_rfl) ?_
    refine Rg.pass 36 (by rfl) (fun _ h => h) (by rfl) (some 41) (by rfl) (by kernel_rfl) (by kernel_rfl) (by kernel_rfl) (by kernel_rfl) ?_
    refine Rg.ev 37 (by rfl) (fun _ h => h) (Ev.pickT (show Oper.op _ = Op.pick (Operand.tmp 34) (Operand.const (Value.bool true)) (Operand.tmp 41) from rfl) (by rfl) (by rfl)) (by rfl) (some 42) (by rfl) (by kernel_rfl) (by kernel_rfl) (by kernel_rfl) (by kernel_rfl) ?_
    refine Rg.done (by kernel_rfl) ?_ _
    refine Cd.cond_true (by rfl) (rfl) ?_
    refine Cd.seq ?_
    refine Cd.region ?_
    refine Ls.ev (some 4) (Ev.assign (show Oper.op _ = Op.assign (Operand.const (Value.bool false)) from rfl) (by rfl)) (by rfl) (by rfl) ?_
    refine Ls.nil ?_
    refine Cd.ret ?_
    refine Ent.ret (()) (trivial) (Res.tmp (by rfl) (by rfl)) ?_ [1] (by rfl) ?_
    · rfl
    · rfl
end Go.Proofs.Ytgidkjfakecniaa
