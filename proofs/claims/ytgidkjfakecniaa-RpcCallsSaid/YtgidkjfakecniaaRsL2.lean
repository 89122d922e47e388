/- PROVED HERE: RpcCalls: for every input the law of layer 11 answers true and its input reads as before: whatever calls are made, ticks go by and messages come, a caller sends, waits, hears and gives up as the document says. No conditions. -/
import Derived.Test.YtgidkjfakecniaaRsR
import Derived.Test.YtgidkjfakecniaaRows
import Derived.Test.YtgidkjfakecniaaChecked
namespace Go.Proofs.Ytgidkjfakecniaa
open Go.RowKit
set_option maxHeartbeats 4000000 in
theorem calls_sl (W : World) (fr : Int) (B : Option Addr) (d : Nat) (os : List OpA) (hos : os.length ≤ 17592186044415) (hr : Reads W W.heap.size 31 B os.length (os.flatMap OpA.enc)) (hok : ∀ o ∈ os, o.ok W) :
    Fn Try.prog 4 #[.int .i64 fr, .slice B os.length d] [argc W] Unit (fun _ => .bool true) (fun _ => []) (fun _ => True) := by
  refine Fn.enter Try.func4 rfl Try.ntmps4 (by rfl) ?_
  intro w0
  refine Cd.seq ?_
  refine Cd.region ?_
  refine Ls.ev (some 4) (Ev.assign (show Oper.op _ = Op.assign (Operand.const (Value.bool false)) from rfl) (by rfl)) (by rfl) (by rfl) ?_
  refine Ls.nil ?_
  refine Cd.seq ?_
  refine Cd.region ?_
  refine Ls.ev (some 15) (Ev.move (show Oper.op _ = Op.move (Operand.tmp 0) from rfl) (by rfl)) (by rfl) (by rfl) ?_
  refine Ls.does (some 16) (Does.call [0] (show Oper.op _ = Op.call { callee := Callee.value (Operand.func 8), args := #[Operand.tmp 15], argTypes := #[3] } from rfl) Try.func8 (by kernel_rfl) (by kernel_rfl) (new_sl fr) (by rfl) (by rfl) (by rfl)) (by rfl) (by rfl) ?_
  intro g _
  refine Ls.ev (some 17) (Ev.move (show Oper.op _ = Op.move (Operand.tmp 0) from rfl) (by rfl)) (by rfl) (by rfl) ?_
  refine Ls.ev (some 18) (Ev.buildP (pl := [(0, 1), (1, 1), (2, 1), (3, 19), (22, 1), (23, 1)]) (zs := [.int .i64 0, .int .i64 0, .bool false, .int .i64 0, .int .i64 0, .int .i64 0, .int .i64 0, .int .i64 0, .int .i64 0, .int .i64 0, .slice none 0 0, .slice none 0 0, .bool false, .int .i64 0, .int .i64 0, .int .i64 0, .int .i64 0, .slice none 0 0, .int .i64 0, .int .i64 0, .int .i64 0, .slice none 0 0, .int .i64 0, .int .i64 0]) (show Oper.op _ = Op.build 53 #[(0, Operand.tmp 17)] from rfl) (by rfl) (by kernel_rfl) (by rfl)) (by rfl) (by rfl) ?_
  refine Ls.does (some 6) (Does.alloc (cs := [.int .i64 0, .int .i64 0, .bool false, .int .i64 0, .int .i64 0, .int .i64 0, .int .i64 0, .int .i64 0, .int .i64 0, .int .i64 0, .slice none 0 0, .slice none 0 0, .bool false, .int .i64 0, .int .i64 0, .int .i64 0, .int .i64 0, .slice none 0 0, .int .i64 0, .int .i64 0, .int .i64 0, .slice none 0 0, .int .i64 0, .int .i64 0]) (show Oper.op _ = Op.alloc 53 from rfl) (ZeroIs.mk (.agg #[.int .i64 0, .int .i64 0, .bool false, .int .i64 0, .int .i64 0, .int .i64 0, .int .i64 0, .int .i64 0, .int .i64 0, .int .i64 0, .slice none 0 0, .slice none 0 0, .bool false, .int .i64 0, .int .i64 0, .int .i64 0, .int .i64 0, .slice none 0 0, .int .i64 0, .int .i64 0, .int .i64 0, .slice none 0 0, .int .i64 0, .int .i64 0]) (by kernel_rfl) (by rfl))) (by rfl) (by rfl) ?_
  intro g1 _
  refine Ls.ev (some 5) (Ev.assign (show Oper.op _ = Op.assign (Operand.tmp 16) from rfl) (by rfl)) (by rfl) (by rfl) ?_
  refine Ls.does none (Does.store 0 (show Oper.op _ = Op.store 53 (Operand.tmp 6) (Operand.tmp 18) from rfl) (by rfl) (by rfl) (by rfl) (by kernel_rfl) (by rfl) (by kernel_rfl) (by rfl)) (by rfl) (by rfl) ?_
  intro _ _
  refine Ent.restate [blk g1 53 (callC fr 0 false (msg 0 0 0 0 0 0 0 none 0 0) 0 0), blk g 90 (callC fr 0 false (msg 0 0 0 0 0 0 0 none 0 0) 0 0), argc W] (by rfl) ?_
  refine Ls.nil ?_
  refine Cd.seq ?_
  refine Cd.seq ?_
  refine Cd.region ?_
  refine Ls.does (some 19) (Does.call [0, 1, 2] (show Oper.op _ = Op.call { callee := Callee.value (Operand.func 9), args := #[], argTypes := #[] } from rfl) Try.func9 (by kernel_rfl) (by kernel_rfl) (awake_sl) (by rfl) (by rfl) (by rfl)) (by rfl) (by rfl) ?_
  intro _ _
  refine Ls.ev (some 20) (Ev.not (show Oper.op _ = Op.unOp UnOp.not 4 (Operand.tmp 19) from rfl) (by rfl)) (by rfl) (by rfl) ?_
  refine Ls.ev (some 21) (Ev.move (show Oper.op _ = Op.move (Operand.tmp 20) from rfl) (by rfl)) (by rfl) (by rfl) ?_
  refine Ls.ev (some 22) (Ev.move (show Oper.op _ = Op.move (Operand.tmp 5) from rfl) (by rfl)) (by rfl) (by rfl) ?_
  refine Ls.ev (some 23) (Ev.ptrNil (show Oper.op _ = Op.binOp BinOp.eql 28 (Operand.tmp 22) (Operand.const (Value.pointer none)) 28 from rfl) (by rfl) (by rfl) Try.underlying28) (by rfl) (by rfl) ?_
  refine Ls.ev (some 24) (Ev.pickF (show Oper.op _ = Op.pick (Operand.tmp 21) (Operand.const (Value.bool true)) (Operand.tmp 23) from rfl) (by rfl) (by rfl)) (by rfl) (by rfl) ?_
  refine Ls.nil ?_
  refine Cd.cond_false (by rfl) (rfl) ?_
  refine Cd.skip ?_
  refine Cd.seq ?_
  refine Cd.seq ?_
  refine Cd.region ?_
  refine Ls.ev (some 7) (Ev.assign (show Oper.op _ = Op.assign (Operand.const (Value.int IntKind.i64 0)) from rfl) (by rfl)) (by rfl) (by rfl) ?_
  refine Ls.nil ?_
  refine Cd.block ?_
  refine Ent.map (fun w h => h.rdNil) ?_
  refine Ent.pick [2, 0, 1, 3] (by rfl) ?_
  refine Cd.loop (ι := CalI) (fun j => [(1, .slice B os.length d), (5, .pointer (some ⟨g, 0, none⟩)), (6, .pointer (some ⟨g1, 0, none⟩)), (7, .int .i64 j.k)]) (fun j => [blk g 90 (callC fr j.id j.b (msg j.f0 j.to j.kd j.i0 j.vb j.ep j.st j.A j.xs.length j.c) j.t1 j.wt), rd j.A j.xs.length 1 (ints j.xs), blk g1 53 (callC fr j.id j.b (msg j.f0 j.to j.kd j.i0 j.vb j.ep j.st j.D j.xs.length j.d) j.t2 j.s), argc W]) (fun j => j.ok W j.k) (fun j => 80 - j.k) (⟨0, 0, false, 0, 0, 0, 0, 0, 0, 0, [], none, 0, none, 0, 0, 0, 0, 0⟩) (⟨Nat.zero_le _, ⟨Int.le_refl 0, Int.le_refl 0⟩, Nat.zero_le _, Reads.none_, fun e => absurd e Bool.false_ne_true, fun e => absurd e Bool.false_ne_true⟩) ?_ rfl ?_
  · (repeat (first | exact trivial | refine ⟨by rfl, ?_⟩))
  rintro ⟨k, id, b, f0, to, kd, i0, vb, ep, st, xs, A, c, D, d', t1, wt, t2, s⟩ ⟨h1, h2, h3, h4, h5, h6⟩
  dsimp only at h1 h2 h3 h4 h5 h6 ⊢
  refine Cd.seq ?_
  refine Cd.seq ?_
  refine Cd.region ?_
  refine Ls.ev (some 25) (Ev.move (show Oper.op _ = Op.move (Operand.tmp 7) from rfl) (by rfl)) (by rfl) (by rfl) ?_
  refine Ls.ev (some 26) (Ev.move (show Oper.op _ = Op.move (Operand.tmp 1) from rfl) (by rfl)) (by rfl) (by rfl) ?_
  refine Ls.ev (some 27) (Ev.len (show Oper.op _ = Op.call { callee := Callee.builtin Builtin.len, args := #[Operand.tmp 26], argTypes := #[51] } from rfl) (by rfl) Try.underlying51) (by rfl) (by rfl) ?_
  refine Ls.ev (some 28) (Ev.lss (show Oper.op _ = Op.binOp BinOp.lss 3 (Operand.tmp 25) (Operand.tmp 27) 3 from rfl) (by rfl) (by rfl)) (by rfl) (by rfl) ?_
  refine Ls.ev (some 29) (Ev.move (show Oper.op _ = Op.move (Operand.tmp 28) from rfl) (by rfl)) (by rfl) (by rfl) ?_
  refine Ent.split 29 (by rfl) (fun h => ?_) (fun h => ?_)
  · skip
    refine Ls.pass (some 30) (by rfl) (by rfl) ?_
    refine Ls.pass (some 31) (by rfl) (by rfl) ?_
    refine Ls.ev (some 32) (Ev.pickF (show Oper.op _ = Op.pick (Operand.tmp 29) (Operand.tmp 31) (Operand.const (Value.bool false)) from rfl) (by rfl) (by rfl)) (by rfl) (by rfl) ?_
    refine Ls.nil ?_
    refine Cd.cond_false (by rfl) (rfl) ?_
    refine Cd.exit ?_
    refine Cd.seq ?_
    refine Cd.region ?_
    refine Ls.ev (some 4) (Ev.assign (show Oper.op _ = Op.assign (Operand.const (Value.bool true)) from rfl) (by rfl)) (by rfl) (by rfl) ?_
    refine Ls.nil ?_
    refine Cd.ret ?_
    refine Ent.ret (()) (trivial) (Res.tmp (by rfl) (by rfl)) ?_ [] (by rfl) ?_
    · rfl
    · rfl
  skip
  have hlt : k < os.length := by have := of_decide_eq_true h; omega
  refine Ls.ev (some 30) (Ev.move (show Oper.op _ = Op.move (Operand.tmp 7) from rfl) (by rfl)) (by rfl) (by rfl) ?_
  refine Ls.ev (some 31) (Ev.lss (show Oper.op _ = Op.binOp BinOp.lss 3 (Operand.tmp 30) (Operand.const (Value.int IntKind.i64 80)) 3 from rfl) (by rfl) (by rfl)) (by rfl) (by rfl) ?_
  refine Ls.ev (some 32) (Ev.pickT (show Oper.op _ = Op.pick (Operand.tmp 29) (Operand.tmp 31) (Operand.const (Value.bool false)) from rfl) (by rfl) (by rfl)) (by rfl) (by rfl) ?_
  refine Ls.nil ?_
  refine Cd.cond _ (by rfl) (fun h7 => ?_) (fun h7 => ?_)
  · skip
    have h7 : k < 80 := by have := of_decide_eq_true h7; omega
    obtain ⟨⟨okd, oa, ob, ⟨cv, ce, ⟨cs, cA, cC, cx⟩⟩, ⟨mfr, mto, mkd, ⟨tn, tl, tc⟩, ⟨wr, tA, tC, tx, dA, dC, dx⟩, yes, mid, ⟨mcv, mce, ⟨mcs, mcA, mcC, mcx⟩⟩, ⟨mrc, mre, ⟨mrs, mrA, mrC, mrx⟩⟩⟩, ⟨rc, re, ⟨rs, rA, rC, rx⟩⟩, odn⟩, ho⟩ := get_of_lt hlt
    have hoo := hok _ (List.mem_of_getElem? ho)
    obtain ⟨_, ha, _, ⟨_, _, _, hcr, _, hcl⟩, ⟨_, _, _, _, ⟨_, ⟨htr, _, htl⟩, ⟨hdr, _, hdl⟩⟩, _, ⟨_, _, _, hmcr, _, hmcl⟩, ⟨_, _, _, hmrr, _, hmrl⟩⟩, _⟩ := hoo
    dsimp only at ha hcr hcl htr htl hdr hdl hmcr hmcl hmrr hmrl
    refine Ent.arg 3 (by rfl) hr ?_
    refine Ent.rdSome 0 (by rfl) (by omega) (fun ax hax => ?_)
    subst hax
    refine Cd.skip ?_
    refine Cd.seq ?_
    refine Cd.block ?_
    refine Cd.seq ?_
    refine Cd.region ?_
    refine Ls.ev (some 35) (Ev.move (show Oper.op _ = Op.move (Operand.tmp 1) from rfl) (by rfl)) (by rfl) (by rfl) ?_
    refine Ls.ev (some 36) (Ev.move (show Oper.op _ = Op.move (Operand.tmp 7) from rfl) (by rfl)) (by rfl) (by rfl) ?_
    refine Ls.ev (some 37) (Ev.indexAt (sz := 31) (show Oper.op _ = Op.indexAddr 51 (Operand.tmp 35) (Operand.tmp 36) from rfl) (by rfl) (by rfl) Try.underlying51 (by kernel_rfl) (by omega)) (by rfl) (by rfl) ?_
    refine Ls.ev (some 38) (Ev.loadEl (show Oper.op _ = Op.load 55 (Operand.tmp 37) from rfl) (by rfl) (ReadsIn.rd 0 (by rfl)) (by kernel_rfl) (by intro _; rfl) (by assumption)) (by rfl) (by rfl) ?_
    refine Ls.does (some 8) (Does.alloc (cs := [.int .i64 0, .int .i64 0, .int .i64 0, .int .i64 0, .int .i64 0, .int .i64 0, .slice none 0 0, .int .i64 0, .int .i64 0, .int .i64 0, .int .i64 0, .int .i64 0, .int .i64 0, .int .i64 0, .slice none 0 0, .slice none 0 0, .bool false, .int .i64 0, .int .i64 0, .int .i64 0, .int .i64 0, .slice none 0 0, .int .i64 0, .int .i64 0, .int .i64 0, .slice none 0 0, .int .i64 0, .int .i64 0, .int .i64 0, .slice none 0 0, .bool false]) (show Oper.op _ = Op.alloc 55 from rfl) (ZeroIs.mk (.agg #[.int .i64 0, .int .i64 0, .int .i64 0, .int .i64 0, .int .i64 0, .int .i64 0, .slice none 0 0, .int .i64 0, .int .i64 0, .int .i64 0, .int .i64 0, .int .i64 0, .int .i64 0, .int .i64 0, .slice none 0 0, .slice none 0 0, .bool false, .int .i64 0, .int .i64 0, .int .i64 0, .int .i64 0, .slice none 0 0, .int .i64 0, .int .i64 0, .int .i64 0, .slice none 0 0, .int .i64 0, .int .i64 0, .int .i64 0, .slice none 0 0, .bool false]) (by kernel_rfl) (by rfl))) (by rfl) (by rfl) ?_
    intro g2 _
    refine Ls.does none (Does.store 0 (show Oper.op _ = Op.store 55 (Operand.tmp 8) (Operand.tmp 38) from rfl) (by rfl) (by rfl) (by rfl) (by kernel_rfl) (by rfl) (by kernel_rfl) (by rfl)) (by rfl) (by rfl) ?_
    intro _ _
    refine Ls.nil ?_
    refine Cd.seq ?_
    refine Cd.seq ?_
    refine Cd.region ?_
    refine Ls.ev (some 39) (Ev.fieldAddr (k := 0) (show Oper.op _ = Op.fieldAddr 55 (Operand.tmp 8) 0 from rfl) (by rfl) (by kernel_rfl) (by rfl)) (by rfl) (by rfl) ?_
    refine Ls.ev (some 40) (Ev.load 0 (show Oper.op _ = Op.load 3 (Operand.tmp 39) from rfl) (by rfl) (by rfl) (by kernel_rfl) (by rfl)) (by rfl) (by rfl) ?_
    refine Ls.nil ?_
    -- ('Code.block', 2, ('Code.seq', ('Code.region', 13, [{'dst': ('some', 56), 'op': ('Op.binOp', 'BinOp.eql', 3, ('Operand.t
    refine Cd.cut (ι := CalI) (fun j => [(1, .slice (some ax) os.length d), (5, .pointer (some ⟨g, 0, none⟩)), (6, .pointer (some ⟨g1, 0, none⟩)), (7, .int .i64 k)]) (fun j => [blk g 90 (callC fr j.id j.b (msg j.f0 j.to j.kd j.i0 j.vb j.ep j.st j.A j.xs.length j.c) j.t1 j.wt), rd j.A j.xs.length 1 (ints j.xs), blk g1 53 (callC fr j.id j.b (msg j.f0 j.to j.kd j.i0 j.vb j.ep j.st j.D j.xs.length j.d) j.t2 j.s), argc W]) (fun j => j.ok W (k + 1) ∧ j.k = k) ?_ ?_
    · skip
      refine Cd.block ?_
      refine Cd.seq ?_
      refine Cd.region ?_
      refine Ls.ev (some 56) (Ev.eql (show Oper.op _ = Op.binOp BinOp.eql 3 (Operand.tmp 40) (Operand.const (Value.int IntKind.i64 1)) 3 from rfl) (by rfl) (by rfl)) (by rfl) (by rfl) ?_
      refine Ls.ev (some 55) (Ev.assign (show Oper.op _ = Op.assign (Operand.tmp 56) from rfl) (by rfl)) (by rfl) (by rfl) ?_
      refine Ls.nil ?_
      refine Cd.cond _ (by rfl) (fun hk1 => ?_) (fun hk1 => ?_)
      · skip
        refine Ent.arg 5 (by rfl) hcr ?_
        refine Ent.restate [rd cA cx.length 1 (ints cx), blk g2 55 (OpA.enc ⟨okd, oa, ob, ⟨cv, ce, ⟨cs, cA, cC, cx⟩⟩, ⟨mfr, mto, mkd, ⟨tn, tl, tc⟩, ⟨wr, tA, tC, tx, dA, dC, dx⟩, yes, mid, ⟨mcv, mce, ⟨mcs, mcA, mcC, mcx⟩⟩, ⟨mrc, mre, ⟨mrs, mrA, mrC, mrx⟩⟩⟩, ⟨rc, re, ⟨rs, rA, rC, rx⟩⟩, odn⟩), rd (some ax) os.length 31 (os.flatMap OpA.enc), blk g 90 (callC fr id b (msg f0 to kd i0 vb ep st A xs.length c) t1 wt), rd A xs.length 1 (ints xs), blk g1 53 (callC fr id b (msg f0 to kd i0 vb ep st D xs.length d') t2 s), argc W] (by rfl) ?_
        refine Ent.pick [0, 3, 4, 5, 1, 6] (by rfl) ?_
        cases b
        · skip
          skip
          skip
          refine Cd.seq ?_
          refine Cd.draw [6] (by kernel_rfl) ?_
          refine Rg.ev 0 (by rfl) (fun _ h => h) (Ev.move (show Oper.op _ = Op.move (Operand.tmp 5) from rfl) (by rfl)) (by rfl) (some 58) (by rfl) (by kernel_rfl) (by kernel_rfl) (by kernel_rfl) (by kernel_rfl) ?_
          refine Rg.ev 1 (by rfl) (fun _ h => h) (Ev.fieldAddr (k := 1) (show Oper.op _ = Op.fieldAddr 55 (Operand.tmp 8) 1 from rfl) (by rfl) (by kernel_rfl) (by rfl)) (by rfl) (some 59) (by rfl) (by kernel_rfl) (by kernel_rfl) (by kernel_rfl) (by kernel_rfl) ?_
          refine Rg.ev 2 (by rfl) (fun _ h => h) (Ev.load 4 (show Oper.op _ = Op.load 3 (Operand.tmp 59) from rfl) (by rfl) (by rfl) (by kernel_rfl) (by rfl)) (by rfl) (some 60) (by rfl) (by kernel_rfl) (by kernel_rfl) (by kernel_rfl) (by kernel_rfl) ?_
          refine Rg.ev 3 (by rfl) (fun _ h => h) (Ev.fieldAddr (k := 3) (show Oper.op _ = Op.fieldAddr 55 (Operand.tmp 8) 3 from rfl) (by rfl) (by kernel_rfl) (by rfl)) (by rfl) (some 61) (by rfl) (by kernel_rfl) (by kernel_rfl) (by kernel_rfl) (by kernel_rfl) ?_
          refine Rg.ev 4 (by rfl) (fun _ h => h) (Ev.loads 4 (show Oper.op _ = Op.load 27 (Operand.tmp 61) from rfl) (by rfl) (by rfl) (n := 4) (by kernel_rfl) (by rfl) (by rfl)) (by rfl) (some 62) (by rfl) (by kernel_rfl) (by kernel_rfl) (by kernel_rfl) (by kernel_rfl) ?_
          refine Rg.join (ι := Nat × ((Option Addr × Nat) × (Option Addr × Nat))) (fun j => [(1, .slice (some ax) os.length d), (5, .pointer (some ⟨g, 0, none⟩)), (6, .pointer (some ⟨g1, 0, none⟩)), (7, .int .i64 k), (8, .pointer (some ⟨g2, 0, none⟩)), (9, .pointer (some ⟨j.1, 0, none⟩)), (65, .agg (msg fr oa 6 (id + 1) cv ce cs j.2.2.1 cx.length j.2.2.2).toArray), (66, .int .i64 0)]) (fun j => [blk j.1 41 (msg 0 0 0 0 0 0 0 none 0 0), blk g 90 (callC fr (id + 1) true (msg fr oa 6 (id + 1) cv ce cs j.2.1.1 cx.length j.2.1.2) 1 2), rd j.2.1.1 cx.length 1 (ints cx), row j.2.2.1 cx.length j.2.2.2 3 1 (ints cx), blk g1 53 (callC fr id false (msg f0 to kd i0 vb ep st D xs.length d') t2 s), blk g2 55 (OpA.enc ⟨okd, oa, ob, ⟨cv, ce, ⟨cs, cA, cC, cx⟩⟩, ⟨mfr, mto, mkd, ⟨tn, tl, tc⟩, ⟨wr, tA, tC, tx, dA, dC, dx⟩, yes, mid, ⟨mcv, mce, ⟨mcs, mcA, mcC, mcx⟩⟩, ⟨mrc, mre, ⟨mrs, mrA, mrC, mrx⟩⟩⟩, ⟨rc, re, ⟨rs, rA, rC, rx⟩⟩, odn⟩), argc W]) (fun _ => True) 2 #[true, true, true, true, true, true, true, true, true, true, true, false, false] ?_ ?_
          · skip
            intro join
            refine Rg.two 5 10 (by kernel_rfl) ?_ ?_
            · skip
              refine RgO.does 5 (by rfl) (Does.call [0, 0, 1, 2, 3, 4, 5] (show Oper.op _ = Op.call { callee := Callee.value (Operand.func 11), args := #[Operand.tmp 62], argTypes := #[27] } from rfl) Try.func11 (by kernel_rfl) (by kernel_rfl) (ownC_sl cv ce cs cA cC cx hcl) (by rfl) (by rfl) (by rfl)) (by rfl) (some 63) (by rfl) (fun _ _ h => h.tail_) ?_
              intro p _
              refine Ent.see 0 (by rfl) ?_
              refine Rg.two 6 10 (by kernel_rfl) ?_ ?_
              · skip
                refine RgO.tail 6 (by rfl) (Does.call [2, 0, 4, 5, 6] (show Oper.op _ = Op.call { callee := Callee.value (Operand.func 10), args := #[Operand.tmp 58, Operand.tmp 60, Operand.tmp 63], argTypes := #[28, 3, 27] } from rfl) Try.func10 (by kernel_rfl) (by kernel_rfl) (call_sl g fr id f0 to kd i0 vb ep st t1 wt oa cv ce cs A p.1 xs.length c cx.length p.2 cx hcl (by omega)) (by rfl) (by rfl) (by rfl)) (by rfl) (some 64) (by rfl) (by kernel_rfl) (by kernel_rfl) ?_
                intro q _
                refine Rg.ev 7 (by rfl) (fun _ h => h.pick [] (by rfl)) (Ev.move (show Oper.op _ = Op.move (Operand.tmp 64) from rfl) (by rfl)) (by rfl) (some 57) (by rfl) (by kernel_rfl) (by kernel_rfl) (by kernel_rfl) (by kernel_rfl) ?_
                refine Rg.ev 8 (by rfl) (fun _ h => h.pick [] (by rfl)) (Ev.extract (show Oper.op _ = Op.extract (Operand.tmp 57) 0 from rfl) (by rfl) (by rfl)) (by rfl) (some 65) (by rfl) (by kernel_rfl) (by kernel_rfl) (by kernel_rfl) (by kernel_rfl) ?_
                refine Rg.ev 9 (by rfl) (fun _ h => h.pick [] (by rfl)) (Ev.extract (show Oper.op _ = Op.extract (Operand.tmp 57) 1 from rfl) (by rfl) (by rfl)) (by rfl) (some 66) (by rfl) (by kernel_rfl) (by kernel_rfl) (by kernel_rfl) (by kernel_rfl) ?_
                refine Rg.one 10 (by kernel_rfl) ?_; refine RgO.does 10 (by rfl) (Does.alloc (cs := [.int .i64 0, .int .i64 0, .int .i64 0, .int .i64 0, .int .i64 0, .int .i64 0, .int .i64 0, .slice none 0 0, .slice none 0 0, .bool false, .int .i64 0, .int .i64 0, .int .i64 0, .int .i64 0, .slice none 0 0, .int .i64 0, .int .i64 0, .int .i64 0, .slice none 0 0]) (show Oper.op _ = Op.alloc 41 from rfl) (ZeroIs.mk (.agg #[.int .i64 0, .int .i64 0, .int .i64 0, .int .i64 0, .int .i64 0, .int .i64 0, .int .i64 0, .slice none 0 0, .slice none 0 0, .bool false, .int .i64 0, .int .i64 0, .int .i64 0, .int .i64 0, .slice none 0 0, .int .i64 0, .int .i64 0, .int .i64 0, .slice none 0 0]) (by kernel_rfl) (by rfl))) (by rfl) (some 9) (by rfl) (fun _ _ h => h.pick [] (by rfl)) ?_
                intro g3 _
                refine Rg.meet join ((g3, q)) (by kernel_rfl) ?_ ?_ ?_
                · (try dsimp only); try trivial
                · (repeat (first | exact trivial | refine ⟨by rfl, ?_⟩ | refine ⟨by simp only [List.length_append, List.length_cons, List.length_nil]; rfl, ?_⟩ | refine ⟨by push_cast; rfl, ?_⟩))
                · rfl
              · skip
                refine RgO.does 10 (by rfl) (Does.alloc (cs := [.int .i64 0, .int .i64 0, .int .i64 0, .int .i64 0, .int .i64 0, .int .i64 0, .int .i64 0, .slice none 0 0, .slice none 0 0, .bool false, .int .i64 0, .int .i64 0, .int .i64 0, .int .i64 0, .slice none 0 0, .int .i64 0, .int .i64 0, .int .i64 0, .slice none 0 0]) (show Oper.op _ = Op.alloc 41 from rfl) (ZeroIs.mk (.agg #[.int .i64 0, .int .i64 0, .int .i64 0, .int .i64 0, .int .i64 0, .int .i64 0, .int .i64 0, .slice none 0 0, .slice none 0 0, .bool false, .int .i64 0, .int .i64 0, .int .i64 0, .int .i64 0, .slice none 0 0, .int .i64 0, .int .i64 0, .int .i64 0, .slice none 0 0]) (by kernel_rfl) (by rfl))) (by rfl) (some 9) (by rfl) (fun _ _ h => h.tail_.tail_) ?_
                intro g3 _
                refine Rg.one 6 (by kernel_rfl) ?_; refine RgO.tail 6 (by rfl) (Does.call [3, 1, 0, 5, 6, 7] (show Oper.op _ = Op.call { callee := Callee.value (Operand.func 10), args := #[Operand.tmp 58, Operand.tmp 60, Operand.tmp 63], argTypes := #[28, 3, 27] } from rfl) Try.func10 (by kernel_rfl) (by kernel_rfl) (call_sl g fr id f0 to kd i0 vb ep st t1 wt oa cv ce cs A p.1 xs.length c cx.length p.2 cx hcl (by omega)) (by rfl) (by rfl) (by rfl)) (by rfl) (some 64) (by rfl) (by kernel_rfl) (by kernel_rfl) ?_
                intro q _
                refine Rg.ev 7 (by rfl) (fun _ h => h.pick [] (by rfl)) (Ev.move (show Oper.op _ = Op.move (Operand.tmp 64) from rfl) (by rfl)) (by rfl) (some 57) (by rfl) (by kernel_rfl) (by kernel_rfl) (by kernel_rfl) (by kernel_rfl) ?_
                refine Rg.ev 8 (by rfl) (fun _ h => h.pick [] (by rfl)) (Ev.extract (show Oper.op _ = Op.extract (Operand.tmp 57) 0 from rfl) (by rfl) (by rfl)) (by rfl) (some 65) (by rfl) (by kernel_rfl) (by kernel_rfl) (by kernel_rfl) (by kernel_rfl) ?_
                refine Rg.ev 9 (by rfl) (fun _ h => h.pick [] (by rfl)) (Ev.extract (show Oper.op _ = Op.extract (Operand.tmp 57) 1 from rfl) (by rfl) (by rfl)) (by rfl) (some 66) (by rfl) (by kernel_rfl) (by kernel_rfl) (by kernel_rfl) (by kernel_rfl) ?_
                refine Ent.pick [3, 0, 1, 2, 4, 5, 6] (by rfl) ?_
                refine Rg.meet join ((g3, q)) (by kernel_rfl) ?_ ?_ ?_
                · (try dsimp only); try trivial
                · (repeat (first | exact trivial | refine ⟨by rfl, ?_⟩ | refine ⟨by simp only [List.length_append, List.length_cons, List.length_nil]; rfl, ?_⟩ | refine ⟨by push_cast; rfl, ?_⟩))
                · rfl
            · skip
              refine RgO.does 10 (by rfl) (Does.alloc (cs := [.int .i64 0, .int .i64 0, .int .i64 0, .int .i64 0, .int .i64 0, .int .i64 0, .int .i64 0, .slice none 0 0, .slice none 0 0, .bool false, .int .i64 0, .int .i64 0, .int .i64 0, .int .i64 0, .slice none 0 0, .int .i64 0, .int .i64 0, .int .i64 0, .slice none 0 0]) (show Oper.op _ = Op.alloc 41 from rfl) (ZeroIs.mk (.agg #[.int .i64 0, .int .i64 0, .int .i64 0, .int .i64 0, .int .i64 0, .int .i64 0, .int .i64 0, .slice none 0 0, .slice none 0 0, .bool false, .int .i64 0, .int .i64 0, .int .i64 0, .int .i64 0, .slice none 0 0, .int .i64 0, .int .i64 0, .int .i64 0, .slice none 0 0]) (by kernel_rfl) (by rfl))) (by rfl) (some 9) (by rfl) (fun _ _ h => h.tail_) ?_
              intro g3 _
              refine Rg.one 5 (by kernel_rfl) ?_; refine RgO.does 5 (by rfl) (Does.call [1, 0, 1, 2, 3, 4, 5, 6] (show Oper.op _ = Op.call { callee := Callee.value (Operand.func 11), args := #[Operand.tmp 62], argTypes := #[27] } from rfl) Try.func11 (by kernel_rfl) (by kernel_rfl) (ownC_sl cv ce cs cA cC cx hcl) (by rfl) (by rfl) (by rfl)) (by rfl) (some 63) (by rfl) (fun _ _ h => h.tail_.tail_) ?_
              intro p _
              refine Ent.see 0 (by rfl) ?_
              refine Rg.one 6 (by kernel_rfl) ?_; refine RgO.tail 6 (by rfl) (Does.call [3, 0, 1, 5, 6, 7] (show Oper.op _ = Op.call { callee := Callee.value (Operand.func 10), args := #[Operand.tmp 58, Operand.tmp 60, Operand.tmp 63], argTypes := #[28, 3, 27] } from rfl) Try.func10 (by kernel_rfl) (by kernel_rfl) (call_sl g fr id f0 to kd i0 vb ep st t1 wt oa cv ce cs A p.1 xs.length c cx.length p.2 cx hcl (by omega)) (by rfl) (by rfl) (by rfl)) (by rfl) (some 64) (by rfl) (by kernel_rfl) (by kernel_rfl) ?_
              intro q _
              refine Rg.ev 7 (by rfl) (fun _ h => h.pick [] (by rfl)) (Ev.move (show Oper.op _ = Op.move (Operand.tmp 64) from rfl) (by rfl)) (by rfl) (some 57) (by rfl) (by kernel_rfl) (by kernel_rfl) (by kernel_rfl) (by kernel_rfl) ?_
              refine Rg.ev 8 (by rfl) (fun _ h => h.pick [] (by rfl)) (Ev.extract (show Oper.op _ = Op.extract (Operand.tmp 57) 0 from rfl) (by rfl) (by rfl)) (by rfl) (some 65) (by rfl) (by kernel_rfl) (by kernel_rfl) (by kernel_rfl) (by kernel_rfl) ?_
              refine Rg.ev 9 (by rfl) (fun _ h => h.pick [] (by rfl)) (Ev.extract (show Oper.op _ = Op.extract (Operand.tmp 57) 1 from rfl) (by rfl) (by rfl)) (by rfl) (some 66) (by rfl) (by kernel_rfl) (by kernel_rfl) (by kernel_rfl) (by kernel_rfl) ?_
              refine Ent.pick [3, 0, 1, 2, 4, 5, 6] (by rfl) ?_
              refine Rg.meet join ((g3, q)) (by kernel_rfl) ?_ ?_ ?_
              · (try dsimp only); try trivial
              · (repeat (first | exact trivial | refine ⟨by rfl, ?_⟩ | refine ⟨by simp only [List.length_append, List.length_cons, List.length_nil]; rfl, ?_⟩ | refine ⟨by push_cast; rfl, ?_⟩))
              · rfl
          · skip
            rintro ⟨gm, q⟩ _
            dsimp only
            skip
            refine Rg.one 11 (by kernel_rfl) ?_; refine RgO.does 11 (by rfl) (Does.store 0 (show Oper.op _ = Op.store 41 (Operand.tmp 9) (Operand.tmp 65) from rfl) (by rfl) (by rfl) (by rfl) (by kernel_rfl) (by rfl) (by kernel_rfl) (by rfl)) (by rfl) none (by rfl) (fun _ _ h => h.pick [] (by rfl)) ?_
            intro _ _
            refine Ent.restate [blk gm 41 (msg fr oa 6 (id + 1) cv ce cs q.2.1 cx.length q.2.2), blk g 90 (callC fr (id + 1) true (msg fr oa 6 (id + 1) cv ce cs q.1.1 cx.length q.1.2) 1 2), rd q.1.1 cx.length 1 (ints cx), row q.2.1 cx.length q.2.2 3 1 (ints cx), blk g1 53 (callC fr id false (msg f0 to kd i0 vb ep st D xs.length d') t2 s), blk g2 55 (OpA.enc ⟨okd, oa, ob, ⟨cv, ce, ⟨cs, cA, cC, cx⟩⟩, ⟨mfr, mto, mkd, ⟨tn, tl, tc⟩, ⟨wr, tA, tC, tx, dA, dC, dx⟩, yes, mid, ⟨mcv, mce, ⟨mcs, mcA, mcC, mcx⟩⟩, ⟨mrc, mre, ⟨mrs, mrA, mrC, mrx⟩⟩⟩, ⟨rc, re, ⟨rs, rA, rC, rx⟩⟩, odn⟩), argc W] (by rfl) ?_
            refine Rg.ev 12 (by rfl) (fun _ h => h.pick [] (by rfl)) (Ev.assign (show Oper.op _ = Op.assign (Operand.tmp 66) from rfl) (by rfl)) (by rfl) (some 10) (by rfl) (by kernel_rfl) (by kernel_rfl) (by kernel_rfl) (by kernel_rfl) ?_
            refine Rg.done (by kernel_rfl) ?_ _
            refine Cd.seq ?_
            refine Cd.region ?_
            refine Ls.does (some 11) (Does.alloc (cs := [.int .i64 0, .int .i64 0, .int .i64 0, .int .i64 0, .int .i64 0, .int .i64 0, .int .i64 0, .slice none 0 0, .slice none 0 0, .bool false, .int .i64 0, .int .i64 0, .int .i64 0, .int .i64 0, .slice none 0 0, .int .i64 0, .int .i64 0, .int .i64 0, .slice none 0 0]) (show Oper.op _ = Op.alloc 41 from rfl) (ZeroIs.mk (.agg #[.int .i64 0, .int .i64 0, .int .i64 0, .int .i64 0, .int .i64 0, .int .i64 0, .int .i64 0, .slice none 0 0, .slice none 0 0, .bool false, .int .i64 0, .int .i64 0, .int .i64 0, .int .i64 0, .slice none 0 0, .int .i64 0, .int .i64 0, .int .i64 0, .slice none 0 0]) (by kernel_rfl) (by rfl))) (by rfl) (by rfl) ?_
            intro g3 _
            refine Ls.nil ?_
            refine Cd.seq ?_
            refine Cd.region ?_
            refine Ls.ev (some 12) (Ev.assign (show Oper.op _ = Op.assign (Operand.const (Value.int IntKind.i64 0)) from rfl) (by rfl)) (by rfl) (by rfl) ?_
            refine Ls.nil ?_
            refine Cd.seq ?_
            refine Cd.region ?_
            refine Ls.ev (some 68) (Ev.loads 5 (show Oper.op _ = Op.load 53 (Operand.tmp 6) from rfl) (by rfl) (by rfl) (n := 24) (by kernel_rfl) (by rfl) (by rfl)) (by rfl) (by rfl) ?_
            refine Ls.ev (some 69) (Ev.fieldAddr (k := 1) (show Oper.op _ = Op.fieldAddr 55 (Operand.tmp 8) 1 from rfl) (by rfl) (by kernel_rfl) (by rfl)) (by rfl) (by rfl) ?_
            refine Ls.ev (some 70) (Ev.load 6 (show Oper.op _ = Op.load 3 (Operand.tmp 69) from rfl) (by rfl) (by rfl) (by kernel_rfl) (by rfl)) (by rfl) (by rfl) ?_
            refine Ls.ev (some 71) (Ev.fieldAddr (k := 3) (show Oper.op _ = Op.fieldAddr 55 (Operand.tmp 8) 3 from rfl) (by rfl) (by kernel_rfl) (by rfl)) (by rfl) (by rfl) ?_
            refine Ls.ev (some 72) (Ev.loads 6 (show Oper.op _ = Op.load 27 (Operand.tmp 71) from rfl) (by rfl) (by rfl) (n := 4) (by kernel_rfl) (by rfl) (by rfl)) (by rfl) (by rfl) ?_
            refine Ls.does (some 73) (Does.call [0, 1, 2, 3, 4, 5, 6, 7] (show Oper.op _ = Op.call { callee := Callee.value (Operand.func 16), args := #[Operand.tmp 68, Operand.tmp 70, Operand.tmp 72], argTypes := #[53, 3, 27] } from rfl) Try.func16 (by kernel_rfl) (by kernel_rfl) (refCall_free fr id f0 to kd i0 vb ep st t2 s oa cv ce cs D cA xs.length d' cx.length cC (by omega)) (by rfl) (by rfl) (by rfl)) (by rfl) (by rfl) ?_
            intro _ _
            refine Ls.ev (some 67) (Ev.move (show Oper.op _ = Op.move (Operand.tmp 73) from rfl) (by rfl)) (by rfl) (by rfl) ?_
            refine Ls.ev (some 74) (Ev.extract (show Oper.op _ = Op.extract (Operand.tmp 67) 0 from rfl) (by rfl) (by rfl)) (by rfl) (by rfl) ?_
            refine Ls.ev (some 75) (Ev.extract (show Oper.op _ = Op.extract (Operand.tmp 67) 1 from rfl) (by rfl) (by rfl)) (by rfl) (by rfl) ?_
            refine Ls.ev (some 76) (Ev.extract (show Oper.op _ = Op.extract (Operand.tmp 67) 2 from rfl) (by rfl) (by rfl)) (by rfl) (by rfl) ?_
            refine Ls.does none (Does.store 5 (show Oper.op _ = Op.store 53 (Operand.tmp 6) (Operand.tmp 74) from rfl) (by rfl) (by rfl) (by rfl) (by kernel_rfl) (by rfl) (by kernel_rfl) (by rfl)) (by rfl) (by rfl) ?_
            intro _ _
            refine Ent.restate [blk g3 41 (msg 0 0 0 0 0 0 0 none 0 0), blk gm 41 (msg fr oa 6 (id + 1) cv ce cs q.2.1 cx.length q.2.2), blk g 90 (callC fr (id + 1) true (msg fr oa 6 (id + 1) cv ce cs q.1.1 cx.length q.1.2) 1 2), rd q.1.1 cx.length 1 (ints cx), row q.2.1 cx.length q.2.2 3 1 (ints cx), blk g1 53 (callC fr (id + 1) true (msg fr oa 6 (id + 1) cv ce cs cA cx.length cC) 1 0), blk g2 55 (OpA.enc ⟨okd, oa, ob, ⟨cv, ce, ⟨cs, cA, cC, cx⟩⟩, ⟨mfr, mto, mkd, ⟨tn, tl, tc⟩, ⟨wr, tA, tC, tx, dA, dC, dx⟩, yes, mid, ⟨mcv, mce, ⟨mcs, mcA, mcC, mcx⟩⟩, ⟨mrc, mre, ⟨mrs, mrA, mrC, mrx⟩⟩⟩, ⟨rc, re, ⟨rs, rA, rC, rx⟩⟩, odn⟩), argc W] (by rfl) ?_
            skip
            refine Ls.does none (Does.store 0 (show Oper.op _ = Op.store 41 (Operand.tmp 11) (Operand.tmp 75) from rfl) (by rfl) (by rfl) (by rfl) (by kernel_rfl) (by rfl) (by kernel_rfl) (by rfl)) (by rfl) (by rfl) ?_
            intro _ _
            refine Ent.restate [blk g3 41 (msg fr oa 6 (id + 1) cv ce cs cA cx.length cC), blk gm 41 (msg fr oa 6 (id + 1) cv ce cs q.2.1 cx.length q.2.2), blk g 90 (callC fr (id + 1) true (msg fr oa 6 (id + 1) cv ce cs q.1.1 cx.length q.1.2) 1 2), rd q.1.1 cx.length 1 (ints cx), row q.2.1 cx.length q.2.2 3 1 (ints cx), blk g1 53 (callC fr (id + 1) true (msg fr oa 6 (id + 1) cv ce cs cA cx.length cC) 1 0), blk g2 55 (OpA.enc ⟨okd, oa, ob, ⟨cv, ce, ⟨cs, cA, cC, cx⟩⟩, ⟨mfr, mto, mkd, ⟨tn, tl, tc⟩, ⟨wr, tA, tC, tx, dA, dC, dx⟩, yes, mid, ⟨mcv, mce, ⟨mcs, mcA, mcC, mcx⟩⟩, ⟨mrc, mre, ⟨mrs, mrA, mrC, mrx⟩⟩⟩, ⟨rc, re, ⟨rs, rA, rC, rx⟩⟩, odn⟩), argc W] (by rfl) ?_
            refine Ent.see 4 (by rfl) (Ent.arg 7 (by rfl) hcr ?_)
            refine Ls.ev (some 12) (Ev.assign (show Oper.op _ = Op.assign (Operand.tmp 76) from rfl) (by rfl)) (by rfl) (by rfl) ?_
            refine Ls.nil ?_
            refine Cd.seq ?_
            refine Cd.region ?_
            refine Ls.ev (some 77) (Ev.move (show Oper.op _ = Op.move (Operand.tmp 10) from rfl) (by rfl)) (by rfl) (by rfl) ?_
            refine Ls.ev (some 78) (Ev.move (show Oper.op _ = Op.move (Operand.tmp 12) from rfl) (by rfl)) (by rfl) (by rfl) ?_
            refine Ls.ev (some 79) (Ev.neq (show Oper.op _ = Op.binOp BinOp.neq 3 (Operand.tmp 77) (Operand.tmp 78) 3 from rfl) (by rfl) (by rfl)) (by rfl) (by rfl) ?_
            refine Ls.ev (some 80) (Ev.move (show Oper.op _ = Op.move (Operand.tmp 79) from rfl) (by rfl)) (by rfl) (by rfl) ?_
            refine Ent.known 80 false (by rfl) (by exact (by decide)) ?_
            refine Ls.ev (some 81) (Ev.loads 2 (show Oper.op _ = Op.load 41 (Operand.tmp 9) from rfl) (by rfl) (by rfl) (n := 19) (by kernel_rfl) (by rfl) (by rfl)) (by rfl) (by rfl) ?_
            refine Ls.ev (some 82) (Ev.loads 1 (show Oper.op _ = Op.load 41 (Operand.tmp 11) from rfl) (by rfl) (by rfl) (n := 19) (by kernel_rfl) (by rfl) (by rfl)) (by rfl) (by rfl) ?_
            refine Ls.does (some 83) (Does.call [5, 0, 3, 4, 6, 8] (show Oper.op _ = Op.call { callee := Callee.value (Operand.func 13), args := #[Operand.tmp 81, Operand.tmp 82], argTypes := #[41, 41] } from rfl) Try.func13 (by kernel_rfl) (by kernel_rfl) (same_true fr oa 6 (id + 1) cv ce cs q.2.1 cA q.2.2 cC cx hcl) (by rfl) (by rfl) (by rfl)) (by rfl) (by rfl) ?_
            intro _ _
            refine Ls.ev (some 84) (Ev.not (show Oper.op _ = Op.unOp UnOp.not 4 (Operand.tmp 83) from rfl) (by rfl)) (by rfl) (by rfl) ?_
            refine Ls.ev (some 85) (Ev.pickF (show Oper.op _ = Op.pick (Operand.tmp 80) (Operand.const (Value.bool true)) (Operand.tmp 84) from rfl) (by rfl) (by rfl)) (by rfl) (by rfl) ?_
            refine Ls.nil ?_
            refine Cd.cond_false (by rfl) (rfl) ?_
            refine Cd.skip ?_
            refine Ent.inv (⟨k, id + 1, true, fr, oa, 6, id + 1, cv, ce, cs, cx, q.1.1, q.1.2, cA, cC, 1, 2, 1, 0⟩) ?_ ?_ ?_
            · (try dsimp only); exact ⟨⟨h1, ⟨by show 0 ≤ id + 1; omega, by show id + 1 ≤ ((k + 1 : Nat) : Int); omega⟩, hcl, hcr, fun _ => (by decide : (1 : Int) ≤ 1 ∧ (1 : Int) ≤ 5 ∧ (0 : Int) ≤ 0 ∧ (0 : Int) < 2 ^ (1 : Int).toNat), fun _ => (by decide : (1 : Int) = 1 ∧ (2 : Int) = 2 ^ (1 : Int).toNat - 0)⟩, rfl⟩
            · (repeat (first | exact trivial | refine ⟨by rfl, ?_⟩ | refine ⟨by simp only [List.length_append, List.length_cons, List.length_nil]; rfl, ?_⟩ | refine ⟨by push_cast; rfl, ?_⟩))
            · rfl
        · skip
          skip
          skip
          refine Cd.seq ?_
          refine Cd.draw [6] (by kernel_rfl) ?_
          refine Rg.ev 0 (by rfl) (fun _ h => h) (Ev.move (show Oper.op _ = Op.move (Operand.tmp 5) from rfl) (by rfl)) (by rfl) (some 58) (by rfl) (by kernel_rfl) (by kernel_rfl) (by kernel_rfl) (by kernel_rfl) ?_
          refine Rg.ev 1 (by rfl) (fun _ h => h) (Ev.fieldAddr (k := 1) (show Oper.op _ = Op.fieldAddr 55 (Operand.tmp 8) 1 from rfl) (by rfl) (by kernel_rfl) (by rfl)) (by rfl) (some 59) (by rfl) (by kernel_rfl) (by kernel_rfl) (by kernel_rfl) (by kernel_rfl) ?_
          refine Rg.ev 2 (by rfl) (fun _ h => h) (Ev.load 4 (show Oper.op _ = Op.load 3 (Operand.tmp 59) from rfl) (by rfl) (by rfl) (by kernel_rfl) (by rfl)) (by rfl) (some 60) (by rfl) (by kernel_rfl) (by kernel_rfl) (by kernel_rfl) (by kernel_rfl) ?_
          refine Rg.ev 3 (by rfl) (fun _ h => h) (Ev.fieldAddr (k := 3) (show Oper.op _ = Op.fieldAddr 55 (Operand.tmp 8) 3 from rfl) (by rfl) (by kernel_rfl) (by rfl)) (by rfl) (some 61) (by rfl) (by kernel_rfl) (by kernel_rfl) (by kernel_rfl) (by kernel_rfl) ?_
          refine Rg.ev 4 (by rfl) (fun _ h => h) (Ev.loads 4 (show Oper.op _ = Op.load 27 (Operand.tmp 61) from rfl) (by rfl) (by rfl) (n := 4) (by kernel_rfl) (by rfl) (by rfl)) (by rfl) (some 62) (by rfl) (by kernel_rfl) (by kernel_rfl) (by kernel_rfl) (by kernel_rfl) ?_
          refine Rg.join (ι := Nat) (fun j => [(1, .slice (some ax) os.length d), (5, .pointer (some ⟨g, 0, none⟩)), (6, .pointer (some ⟨g1, 0, none⟩)), (7, .int .i64 k), (8, .pointer (some ⟨g2, 0, none⟩)), (9, .pointer (some ⟨j, 0, none⟩)), (65, .agg (msg 0 0 0 0 0 0 0 none 0 0).toArray), (66, .int .i64 8)]) (fun j => [blk j 41 (msg 0 0 0 0 0 0 0 none 0 0), blk g 90 (callC fr id true (msg f0 to kd i0 vb ep st A xs.length c) t1 wt), rd A xs.length 1 (ints xs), blk g1 53 (callC fr id true (msg f0 to kd i0 vb ep st D xs.length d') t2 s), blk g2 55 (OpA.enc ⟨okd, oa, ob, ⟨cv, ce, ⟨cs, cA, cC, cx⟩⟩, ⟨mfr, mto, mkd, ⟨tn, tl, tc⟩, ⟨wr, tA, tC, tx, dA, dC, dx⟩, yes, mid, ⟨mcv, mce, ⟨mcs, mcA, mcC, mcx⟩⟩, ⟨mrc, mre, ⟨mrs, mrA, mrC, mrx⟩⟩⟩, ⟨rc, re, ⟨rs, rA, rC, rx⟩⟩, odn⟩), argc W]) (fun _ => True) 2 #[true, true, true, true, true, true, true, true, true, true, true, false, false] ?_ ?_
          · skip
            intro join
            refine Rg.two 5 10 (by kernel_rfl) ?_ ?_
            · skip
              refine RgO.does 5 (by rfl) (Does.call [0, 0, 1, 2, 3, 4, 5] (show Oper.op _ = Op.call { callee := Callee.value (Operand.func 11), args := #[Operand.tmp 62], argTypes := #[27] } from rfl) Try.func11 (by kernel_rfl) (by kernel_rfl) (ownC_sl cv ce cs cA cC cx hcl) (by rfl) (by rfl) (by rfl)) (by rfl) (some 63) (by rfl) (fun _ _ h => h.tail_) ?_
              intro p _
              refine Ent.see 0 (by rfl) ?_
              refine Rg.two 6 10 (by kernel_rfl) ?_ ?_
              · skip
                refine RgO.tail 6 (by rfl) (Does.call [2, 3, 4, 5, 6] (show Oper.op _ = Op.call { callee := Callee.value (Operand.func 10), args := #[Operand.tmp 58, Operand.tmp 60, Operand.tmp 63], argTypes := #[28, 3, 27] } from rfl) Try.func10 (by kernel_rfl) (by kernel_rfl) (call_busy g fr id f0 to kd i0 vb ep st t1 wt oa cv ce cs A p.1 xs.length c cx.length p.2) (by rfl) (by rfl) (by rfl)) (by rfl) (some 64) (by rfl) (by kernel_rfl) (by kernel_rfl) ?_
                intro q _
                refine Rg.ev 7 (by rfl) (fun _ h => h.pick [] (by rfl)) (Ev.move (show Oper.op _ = Op.move (Operand.tmp 64) from rfl) (by rfl)) (by rfl) (some 57) (by rfl) (by kernel_rfl) (by kernel_rfl) (by kernel_rfl) (by kernel_rfl) ?_
                refine Rg.ev 8 (by rfl) (fun _ h => h.pick [] (by rfl)) (Ev.extract (show Oper.op _ = Op.extract (Operand.tmp 57) 0 from rfl) (by rfl) (by rfl)) (by rfl) (some 65) (by rfl) (by kernel_rfl) (by kernel_rfl) (by kernel_rfl) (by kernel_rfl) ?_
                refine Rg.ev 9 (by rfl) (fun _ h => h.pick [] (by rfl)) (Ev.extract (show Oper.op _ = Op.extract (Operand.tmp 57) 1 from rfl) (by rfl) (by rfl)) (by rfl) (some 66) (by rfl) (by kernel_rfl) (by kernel_rfl) (by kernel_rfl) (by kernel_rfl) ?_
                refine Rg.one 10 (by kernel_rfl) ?_; refine RgO.does 10 (by rfl) (Does.alloc (cs := [.int .i64 0, .int .i64 0, .int .i64 0, .int .i64 0, .int .i64 0, .int .i64 0, .int .i64 0, .slice none 0 0, .slice none 0 0, .bool false, .int .i64 0, .int .i64 0, .int .i64 0, .int .i64 0, .slice none 0 0, .int .i64 0, .int .i64 0, .int .i64 0, .slice none 0 0]) (show Oper.op _ = Op.alloc 41 from rfl) (ZeroIs.mk (.agg #[.int .i64 0, .int .i64 0, .int .i64 0, .int .i64 0, .int .i64 0, .int .i64 0, .int .i64 0, .slice none 0 0, .slice none 0 0, .bool false, .int .i64 0, .int .i64 0, .int .i64 0, .int .i64 0, .slice none 0 0, .int .i64 0, .int .i64 0, .int .i64 0, .slice none 0 0]) (by kernel_rfl) (by rfl))) (by rfl) (some 9) (by rfl) (fun _ _ h => h.pick [] (by rfl)) ?_
                intro g3 _
                refine Rg.meet join (g3) (by kernel_rfl) ?_ ?_ ?_
                · (try dsimp only); try trivial
                · (repeat (first | exact trivial | refine ⟨by rfl, ?_⟩ | refine ⟨by simp only [List.length_append, List.length_cons, List.length_nil]; rfl, ?_⟩ | refine ⟨by push_cast; rfl, ?_⟩))
                · rfl
              · skip
                refine RgO.does 10 (by rfl) (Does.alloc (cs := [.int .i64 0, .int .i64 0, .int .i64 0, .int .i64 0, .int .i64 0, .int .i64 0, .int .i64 0, .slice none 0 0, .slice none 0 0, .bool false, .int .i64 0, .int .i64 0, .int .i64 0, .int .i64 0, .slice none 0 0, .int .i64 0, .int .i64 0, .int .i64 0, .slice none 0 0]) (show Oper.op _ = Op.alloc 41 from rfl) (ZeroIs.mk (.agg #[.int .i64 0, .int .i64 0, .int .i64 0, .int .i64 0, .int .i64 0, .int .i64 0, .int .i64 0, .slice none 0 0, .slice none 0 0, .bool false, .int .i64 0, .int .i64 0, .int .i64 0, .int .i64 0, .slice none 0 0, .int .i64 0, .int .i64 0, .int .i64 0, .slice none 0 0]) (by kernel_rfl) (by rfl))) (by rfl) (some 9) (by rfl) (fun _ _ h => h.tail_.tail_) ?_
                intro g3 _
                refine Rg.one 6 (by kernel_rfl) ?_; refine RgO.tail 6 (by rfl) (Does.call [3, 0, 4, 5, 6, 7] (show Oper.op _ = Op.call { callee := Callee.value (Operand.func 10), args := #[Operand.tmp 58, Operand.tmp 60, Operand.tmp 63], argTypes := #[28, 3, 27] } from rfl) Try.func10 (by kernel_rfl) (by kernel_rfl) (call_busy g fr id f0 to kd i0 vb ep st t1 wt oa cv ce cs A p.1 xs.length c cx.length p.2) (by rfl) (by rfl) (by rfl)) (by rfl) (some 64) (by rfl) (by kernel_rfl) (by kernel_rfl) ?_
                intro q _
                refine Rg.ev 7 (by rfl) (fun _ h => h.pick [] (by rfl)) (Ev.move (show Oper.op _ = Op.move (Operand.tmp 64) from rfl) (by rfl)) (by rfl) (some 57) (by rfl) (by kernel_rfl) (by kernel_rfl) (by kernel_rfl) (by kernel_rfl) ?_
                refine Rg.ev 8 (by rfl) (fun _ h => h.pick [] (by rfl)) (Ev.extract (show Oper.op _ = Op.extract (Operand.tmp 57) 0 from rfl) (by rfl) (by rfl)) (by rfl) (some 65) (by rfl) (by kernel_rfl) (by kernel_rfl) (by kernel_rfl) (by kernel_rfl) ?_
                refine Rg.ev 9 (by rfl) (fun _ h => h.pick [] (by rfl)) (Ev.extract (show Oper.op _ = Op.extract (Operand.tmp 57) 1 from rfl) (by rfl) (by rfl)) (by rfl) (some 66) (by rfl) (by kernel_rfl) (by kernel_rfl) (by kernel_rfl) (by kernel_rfl) ?_
                refine Ent.pick [1, 0, 2, 3, 4, 5] (by rfl) ?_
                refine Rg.meet join (g3) (by kernel_rfl) ?_ ?_ ?_
                · (try dsimp only); try trivial
                · (repeat (first | exact trivial | refine ⟨by rfl, ?_⟩ | refine ⟨by simp only [List.length_append, List.length_cons, List.length_nil]; rfl, ?_⟩ | refine ⟨by push_cast; rfl, ?_⟩))
                · rfl
            · skip
              refine RgO.does 10 (by rfl) (Does.alloc (cs := [.int .i64 0, .int .i64 0, .int .i64 0, .int .i64 0, .int .i64 0, .int .i64 0, .int .i64 0, .slice none 0 0, .slice none 0 0, .bool false, .int .i64 0, .int .i64 0, .int .i64 0, .int .i64 0, .slice none 0 0, .int .i64 0, .int .i64 0, .int .i64 0, .slice none 0 0]) (show Oper.op _ = Op.alloc 41 from rfl) (ZeroIs.mk (.agg #[.int .i64 0, .int .i64 0, .int .i64 0, .int .i64 0, .int .i64 0, .int .i64 0, .int .i64 0, .slice none 0 0, .slice none 0 0, .bool false, .int .i64 0, .int .i64 0, .int .i64 0, .int .i64 0, .slice none 0 0, .int .i64 0, .int .i64 0, .int .i64 0, .slice none 0 0]) (by kernel_rfl) (by rfl))) (by rfl) (some 9) (by rfl) (fun _ _ h => h.tail_) ?_
              intro g3 _
              refine Rg.one 5 (by kernel_rfl) ?_; refine RgO.does 5 (by rfl) (Does.call [1, 0, 1, 2, 3, 4, 5, 6] (show Oper.op _ = Op.call { callee := Callee.value (Operand.func 11), args := #[Operand.tmp 62], argTypes := #[27] } from rfl) Try.func11 (by kernel_rfl) (by kernel_rfl) (ownC_sl cv ce cs cA cC cx hcl) (by rfl) (by rfl) (by rfl)) (by rfl) (some 63) (by rfl) (fun _ _ h => h.tail_.tail_) ?_
              intro p _
              refine Ent.see 0 (by rfl) ?_
              refine Rg.one 6 (by kernel_rfl) ?_; refine RgO.tail 6 (by rfl) (Does.call [3, 1, 4, 5, 6, 7] (show Oper.op _ = Op.call { callee := Callee.value (Operand.func 10), args := #[Operand.tmp 58, Operand.tmp 60, Operand.tmp 63], argTypes := #[28, 3, 27] } from rfl) Try.func10 (by kernel_rfl) (by kernel_rfl) (call_busy g fr id f0 to kd i0 vb ep st t1 wt oa cv ce cs A p.1 xs.length c cx.length p.2) (by rfl) (by rfl) (by rfl)) (by rfl) (some 64) (by rfl) (by kernel_rfl) (by kernel_rfl) ?_
              intro q _
              refine Rg.ev 7 (by rfl) (fun _ h => h.pick [] (by rfl)) (Ev.move (show Oper.op _ = Op.move (Operand.tmp 64) from rfl) (by rfl)) (by rfl) (some 57) (by rfl) (by kernel_rfl) (by kernel_rfl) (by kernel_rfl) (by kernel_rfl) ?_
              refine Rg.ev 8 (by rfl) (fun _ h => h.pick [] (by rfl)) (Ev.extract (show Oper.op _ = Op.extract (Operand.tmp 57) 0 from rfl) (by rfl) (by rfl)) (by rfl) (some 65) (by rfl) (by kernel_rfl) (by kernel_rfl) (by kernel_rfl) (by kernel_rfl) ?_
              refine Rg.ev 9 (by rfl) (fun _ h => h.pick [] (by rfl)) (Ev.extract (show Oper.op _ = Op.extract (Operand.tmp 57) 1 from rfl) (by rfl) (by rfl)) (by rfl) (some 66) (by rfl) (by kernel_rfl) (by kernel_rfl) (by kernel_rfl) (by kernel_rfl) ?_
              refine Ent.pick [1, 0, 2, 3, 4, 5] (by rfl) ?_
              refine Rg.meet join (g3) (by kernel_rfl) ?_ ?_ ?_
              · (try dsimp only); try trivial
              · (repeat (first | exact trivial | refine ⟨by rfl, ?_⟩ | refine ⟨by simp only [List.length_append, List.length_cons, List.length_nil]; rfl, ?_⟩ | refine ⟨by push_cast; rfl, ?_⟩))
              · rfl
          · skip
            intro gm _
            dsimp only
            skip
            refine Rg.one 11 (by kernel_rfl) ?_; refine RgO.does 11 (by rfl) (Does.store 0 (show Oper.op _ = Op.store 41 (Operand.tmp 9) (Operand.tmp 65) from rfl) (by rfl) (by rfl) (by rfl) (by kernel_rfl) (by rfl) (by kernel_rfl) (by rfl)) (by rfl) none (by rfl) (fun _ _ h => h.pick [] (by rfl)) ?_
            intro _ _
            refine Ent.restate [blk gm 41 (msg 0 0 0 0 0 0 0 none 0 0), blk g 90 (callC fr id true (msg f0 to kd i0 vb ep st A xs.length c) t1 wt), rd A xs.length 1 (ints xs), blk g1 53 (callC fr id true (msg f0 to kd i0 vb ep st D xs.length d') t2 s), blk g2 55 (OpA.enc ⟨okd, oa, ob, ⟨cv, ce, ⟨cs, cA, cC, cx⟩⟩, ⟨mfr, mto, mkd, ⟨tn, tl, tc⟩, ⟨wr, tA, tC, tx, dA, dC, dx⟩, yes, mid, ⟨mcv, mce, ⟨mcs, mcA, mcC, mcx⟩⟩, ⟨mrc, mre, ⟨mrs, mrA, mrC, mrx⟩⟩⟩, ⟨rc, re, ⟨rs, rA, rC, rx⟩⟩, odn⟩), argc W] (by rfl) ?_
            refine Rg.ev 12 (by rfl) (fun _ h => h.pick [] (by rfl)) (Ev.assign (show Oper.op _ = Op.assign (Operand.tmp 66) from rfl) (by rfl)) (by rfl) (some 10) (by rfl) (by kernel_rfl) (by kernel_rfl) (by kernel_rfl) (by kernel_rfl) ?_
            refine Rg.done (by kernel_rfl) ?_ _
            refine Cd.seq ?_
            refine Cd.region ?_
            refine Ls.does (some 11) (Does.alloc (cs := [.int .i64 0, .int .i64 0, .int .i64 0, .int .i64 0, .int .i64 0, .int .i64 0, .int .i64 0, .slice none 0 0, .slice none 0 0, .bool false, .int .i64 0, .int .i64 0, .int .i64 0, .int .i64 0, .slice none 0 0, .int .i64 0, .int .i64 0, .int .i64 0, .slice none 0 0]) (show Oper.op _ = Op.alloc 41 from rfl) (ZeroIs.mk (.agg #[.int .i64 0, .int .i64 0, .int .i64 0, .int .i64 0, .int .i64 0, .int .i64 0, .int .i64 0, .slice none 0 0, .slice none 0 0, .bool false, .int .i64 0, .int .i64 0, .int .i64 0, .int .i64 0, .slice none 0 0, .int .i64 0, .int .i64 0, .int .i64 0, .slice none 0 0]) (by kernel_rfl) (by rfl))) (by rfl) (by rfl) ?_
            intro g3 _
            refine Ls.nil ?_
            refine Cd.seq ?_
            refine Cd.region ?_
            refine Ls.ev (some 12) (Ev.assign (show Oper.op _ = Op.assign (Operand.const (Value.int IntKind.i64 0)) from rfl) (by rfl)) (by rfl) (by rfl) ?_
            refine Ls.nil ?_
            refine Cd.seq ?_
            refine Cd.region ?_
            refine Ls.ev (some 68) (Ev.loads 4 (show Oper.op _ = Op.load 53 (Operand.tmp 6) from rfl) (by rfl) (by rfl) (n := 24) (by kernel_rfl) (by rfl) (by rfl)) (by rfl) (by rfl) ?_
            refine Ls.ev (some 69) (Ev.fieldAddr (k := 1) (show Oper.op _ = Op.fieldAddr 55 (Operand.tmp 8) 1 from rfl) (by rfl) (by kernel_rfl) (by rfl)) (by rfl) (by rfl) ?_
            refine Ls.ev (some 70) (Ev.load 5 (show Oper.op _ = Op.load 3 (Operand.tmp 69) from rfl) (by rfl) (by rfl) (by kernel_rfl) (by rfl)) (by rfl) (by rfl) ?_
            refine Ls.ev (some 71) (Ev.fieldAddr (k := 3) (show Oper.op _ = Op.fieldAddr 55 (Operand.tmp 8) 3 from rfl) (by rfl) (by kernel_rfl) (by rfl)) (by rfl) (by rfl) ?_
            refine Ls.ev (some 72) (Ev.loads 5 (show Oper.op _ = Op.load 27 (Operand.tmp 71) from rfl) (by rfl) (by rfl) (n := 4) (by kernel_rfl) (by rfl) (by rfl)) (by rfl) (by rfl) ?_
            refine Ls.does (some 73) (Does.call [0, 1, 2, 3, 4, 5, 6] (show Oper.op _ = Op.call { callee := Callee.value (Operand.func 16), args := #[Operand.tmp 68, Operand.tmp 70, Operand.tmp 72], argTypes := #[53, 3, 27] } from rfl) Try.func16 (by kernel_rfl) (by kernel_rfl) (refCall_busy fr id f0 to kd i0 vb ep st t2 s oa cv ce cs D cA xs.length d' cx.length cC) (by rfl) (by rfl) (by rfl)) (by rfl) (by rfl) ?_
            intro _ _
            refine Ls.ev (some 67) (Ev.move (show Oper.op _ = Op.move (Operand.tmp 73) from rfl) (by rfl)) (by rfl) (by rfl) ?_
            refine Ls.ev (some 74) (Ev.extract (show Oper.op _ = Op.extract (Operand.tmp 67) 0 from rfl) (by rfl) (by rfl)) (by rfl) (by rfl) ?_
            refine Ls.ev (some 75) (Ev.extract (show Oper.op _ = Op.extract (Operand.tmp 67) 1 from rfl) (by rfl) (by rfl)) (by rfl) (by rfl) ?_
            refine Ls.ev (some 76) (Ev.extract (show Oper.op _ = Op.extract (Operand.tmp 67) 2 from rfl) (by rfl) (by rfl)) (by rfl) (by rfl) ?_
            refine Ls.does none (Does.store 4 (show Oper.op _ = Op.store 53 (Operand.tmp 6) (Operand.tmp 74) from rfl) (by rfl) (by rfl) (by rfl) (by kernel_rfl) (by rfl) (by kernel_rfl) (by rfl)) (by rfl) (by rfl) ?_
            intro _ _
            refine Ent.restate [blk g3 41 (msg 0 0 0 0 0 0 0 none 0 0), blk gm 41 (msg 0 0 0 0 0 0 0 none 0 0), blk g 90 (callC fr id true (msg f0 to kd i0 vb ep st A xs.length c) t1 wt), rd A xs.length 1 (ints xs), blk g1 53 (callC fr id true (msg f0 to kd i0 vb ep st D xs.length d') t2 s), blk g2 55 (OpA.enc ⟨okd, oa, ob, ⟨cv, ce, ⟨cs, cA, cC, cx⟩⟩, ⟨mfr, mto, mkd, ⟨tn, tl, tc⟩, ⟨wr, tA, tC, tx, dA, dC, dx⟩, yes, mid, ⟨mcv, mce, ⟨mcs, mcA, mcC, mcx⟩⟩, ⟨mrc, mre, ⟨mrs, mrA, mrC, mrx⟩⟩⟩, ⟨rc, re, ⟨rs, rA, rC, rx⟩⟩, odn⟩), argc W] (by rfl) ?_
            skip
            refine Ls.does none (Does.store 0 (show Oper.op _ = Op.store 41 (Operand.tmp 11) (Operand.tmp 75) from rfl) (by rfl) (by rfl) (by rfl) (by kernel_rfl) (by rfl) (by kernel_rfl) (by rfl)) (by rfl) (by rfl) ?_
            intro _ _
            refine Ent.restate [blk g3 41 (msg 0 0 0 0 0 0 0 none 0 0), blk gm 41 (msg 0 0 0 0 0 0 0 none 0 0), blk g 90 (callC fr id true (msg f0 to kd i0 vb ep st A xs.length c) t1 wt), rd A xs.length 1 (ints xs), blk g1 53 (callC fr id true (msg f0 to kd i0 vb ep st D xs.length d') t2 s), blk g2 55 (OpA.enc ⟨okd, oa, ob, ⟨cv, ce, ⟨cs, cA, cC, cx⟩⟩, ⟨mfr, mto, mkd, ⟨tn, tl, tc⟩, ⟨wr, tA, tC, tx, dA, dC, dx⟩, yes, mid, ⟨mcv, mce, ⟨mcs, mcA, mcC, mcx⟩⟩, ⟨mrc, mre, ⟨mrs, mrA, mrC, mrx⟩⟩⟩, ⟨rc, re, ⟨rs, rA, rC, rx⟩⟩, odn⟩), argc W] (by rfl) ?_
            refine Ent.map (fun w h => h.rdNil) ?_
            refine Ls.ev (some 12) (Ev.assign (show Oper.op _ = Op.assign (Operand.tmp 76) from rfl) (by rfl)) (by rfl) (by rfl) ?_
            refine Ls.nil ?_
            refine Cd.seq ?_
            refine Cd.region ?_
            refine Ls.ev (some 77) (Ev.move (show Oper.op _ = Op.move (Operand.tmp 10) from rfl) (by rfl)) (by rfl) (by rfl) ?_
            refine Ls.ev (some 78) (Ev.move (show Oper.op _ = Op.move (Operand.tmp 12) from rfl) (by rfl)) (by rfl) (by rfl) ?_
            refine Ls.ev (some 79) (Ev.neq (show Oper.op _ = Op.binOp BinOp.neq 3 (Operand.tmp 77) (Operand.tmp 78) 3 from rfl) (by rfl) (by rfl)) (by rfl) (by rfl) ?_
            refine Ls.ev (some 80) (Ev.move (show Oper.op _ = Op.move (Operand.tmp 79) from rfl) (by rfl)) (by rfl) (by rfl) ?_
            refine Ent.known 80 false (by rfl) (by exact (by decide)) ?_
            refine Ls.ev (some 81) (Ev.loads 2 (show Oper.op _ = Op.load 41 (Operand.tmp 9) from rfl) (by rfl) (by rfl) (n := 19) (by kernel_rfl) (by rfl) (by rfl)) (by rfl) (by rfl) ?_
            refine Ls.ev (some 82) (Ev.loads 1 (show Oper.op _ = Op.load 41 (Operand.tmp 11) from rfl) (by rfl) (by rfl) (n := 19) (by kernel_rfl) (by rfl) (by rfl)) (by rfl) (by rfl) ?_
            refine Ls.does (some 83) (Does.call [0, 0, 3, 4, 5, 7] (show Oper.op _ = Op.call { callee := Callee.value (Operand.func 13), args := #[Operand.tmp 81, Operand.tmp 82], argTypes := #[41, 41] } from rfl) Try.func13 (by kernel_rfl) (by kernel_rfl) (same_true 0 0 0 0 0 0 0 none none 0 0 [] (by decide)) (by rfl) (by rfl) (by rfl)) (by rfl) (by rfl) ?_
            intro _ _
            refine Ls.ev (some 84) (Ev.not (show Oper.op _ = Op.unOp UnOp.not 4 (Operand.tmp 83) from rfl) (by rfl)) (by rfl) (by rfl) ?_
            refine Ls.ev (some 85) (Ev.pickF (show Oper.op _ = Op.pick (Operand.tmp 80) (Operand.const (Value.bool true)) (Operand.tmp 84) from rfl) (by rfl) (by rfl)) (by rfl) (by rfl) ?_
            refine Ls.nil ?_
            refine Cd.cond_false (by rfl) (rfl) ?_
            refine Cd.skip ?_
            refine Ent.inv (⟨k, id, true, f0, to, kd, i0, vb, ep, st, xs, A, c, D, d', t1, wt, t2, s⟩) ?_ ?_ ?_
            · (try dsimp only); exact ⟨⟨h1, ⟨h2.1, by show id ≤ ((k + 1 : Nat) : Int); omega⟩, h3, h4, h5, h6⟩, rfl⟩
            · (repeat (first | exact trivial | refine ⟨by rfl, ?_⟩ | refine ⟨by simp only [List.length_append, List.length_cons, List.length_nil]; rfl, ?_⟩ | refine ⟨by push_cast; rfl, ?_⟩))
            · rfl
      · skip
        refine Cd.seq ?_
        refine Cd.region ?_
        refine Ls.ev (some 87) (Ev.eql (show Oper.op _ = Op.binOp BinOp.eql 3 (Operand.tmp 40) (Operand.const (Value.int IntKind.i64 2)) 3 from rfl) (by rfl) (by rfl)) (by rfl) (by rfl) ?_
        refine Ls.ev (some 86) (Ev.assign (show Oper.op _ = Op.assign (Operand.tmp 87) from rfl) (by rfl)) (by rfl) (by rfl) ?_
        refine Ls.nil ?_
        refine Cd.cond _ (by rfl) (fun hk2 => ?_) (fun hk2 => ?_)
        · skip
          refine Ent.arg 5 (by rfl) h4 ?_
          refine Ent.restate [rd D xs.length 1 (ints xs), blk g2 55 (OpA.enc ⟨okd, oa, ob, ⟨cv, ce, ⟨cs, cA, cC, cx⟩⟩, ⟨mfr, mto, mkd, ⟨tn, tl, tc⟩, ⟨wr, tA, tC, tx, dA, dC, dx⟩, yes, mid, ⟨mcv, mce, ⟨mcs, mcA, mcC, mcx⟩⟩, ⟨mrc, mre, ⟨mrs, mrA, mrC, mrx⟩⟩⟩, ⟨rc, re, ⟨rs, rA, rC, rx⟩⟩, odn⟩), rd (some ax) os.length 31 (os.flatMap OpA.enc), blk g 90 (callC fr id b (msg f0 to kd i0 vb ep st A xs.length c) t1 wt), rd A xs.length 1 (ints xs), blk g1 53 (callC fr id b (msg f0 to kd i0 vb ep st D xs.length d') t2 s), argc W] (by rfl) ?_
          refine Ent.pick [1, 3, 5, 4, 0, 6] (by rfl) ?_
          refine Cd.seq ?_
          refine Cd.region ?_
          refine Ls.ev (some 13) (Ev.assign (show Oper.op _ = Op.assign (Operand.const (Value.slice none 0 0)) from rfl) (by rfl)) (by rfl) (by rfl) ?_
          refine Ls.nil ?_
          refine Cd.seq ?_
          refine Cd.region ?_
          refine Ls.ev (some 89) (Ev.loads 2 (show Oper.op _ = Op.load 53 (Operand.tmp 6) from rfl) (by rfl) (by rfl) (n := 24) (by kernel_rfl) (by rfl) (by rfl)) (by rfl) (by rfl) ?_
          refine Ls.ev (some 90) (Ev.fieldAddr (k := 1) (show Oper.op _ = Op.fieldAddr 55 (Operand.tmp 8) 1 from rfl) (by rfl) (by kernel_rfl) (by rfl)) (by rfl) (by rfl) ?_
          refine Ls.ev (some 91) (Ev.load 0 (show Oper.op _ = Op.load 3 (Operand.tmp 90) from rfl) (by rfl) (by rfl) (by kernel_rfl) (by rfl)) (by rfl) (by rfl) ?_
          refine Ls.does (some 92) (Does.call [0, 1, 2, 3, 4, 5] (show Oper.op _ = Op.call { callee := Callee.value (Operand.func 17), args := #[Operand.tmp 89, Operand.tmp 91], argTypes := #[53, 3] } from rfl) Try.func17 (by kernel_rfl) (by kernel_rfl) (refTick_sl fr id f0 to kd i0 vb ep st oa D xs.length d' ⟨b, t2, s, 0⟩ rfl h5 ha) (by rfl) (by rfl) (by rfl)) (by rfl) (by rfl) ?_
          rintro ⟨⟨pb, pt, ps, pk⟩, ⟨O, oc⟩⟩ hp
          dsimp only at hp ⊢
          refine Ent.pick [1, 2, 3, 4, 5, 6, 0] (by rfl) ?_
          refine Ls.ev (some 88) (Ev.move (show Oper.op _ = Op.move (Operand.tmp 92) from rfl) (by rfl)) (by rfl) (by rfl) ?_
          refine Ls.ev (some 93) (Ev.extract (show Oper.op _ = Op.extract (Operand.tmp 88) 0 from rfl) (by rfl) (by rfl)) (by rfl) (by rfl) ?_
          refine Ls.ev (some 94) (Ev.extract (show Oper.op _ = Op.extract (Operand.tmp 88) 1 from rfl) (by rfl) (by rfl)) (by rfl) (by rfl) ?_
          refine Ls.does none (Does.store 2 (show Oper.op _ = Op.store 53 (Operand.tmp 6) (Operand.tmp 93) from rfl) (by rfl) (by rfl) (by rfl) (by kernel_rfl) (by rfl) (by kernel_rfl) (by rfl)) (by rfl) (by rfl) ?_
          intro _ _
          refine Ent.restate [blk g2 55 (OpA.enc ⟨okd, oa, ob, ⟨cv, ce, ⟨cs, cA, cC, cx⟩⟩, ⟨mfr, mto, mkd, ⟨tn, tl, tc⟩, ⟨wr, tA, tC, tx, dA, dC, dx⟩, yes, mid, ⟨mcv, mce, ⟨mcs, mcA, mcC, mcx⟩⟩, ⟨mrc, mre, ⟨mrs, mrA, mrC, mrx⟩⟩⟩, ⟨rc, re, ⟨rs, rA, rC, rx⟩⟩, odn⟩), blk g 90 (callC fr id b (msg f0 to kd i0 vb ep st A xs.length c) t1 wt), blk g1 53 (callC fr id pb (msg f0 to kd i0 vb ep st D xs.length d') pt ps), rd A xs.length 1 (ints xs), rd D xs.length 1 (ints xs), argc W, row O pk oc 41 19 (flatM f0 to kd i0 vb ep st xs.length (List.replicate pk (D, d')))] (by rfl) ?_
          refine Ls.ev (some 13) (Ev.assign (show Oper.op _ = Op.assign (Operand.tmp 94) from rfl) (by rfl)) (by rfl) (by rfl) ?_
          refine Ls.nil ?_
          refine Cd.seq ?_
          refine Cd.region ?_
          refine Ls.ev (some 95) (Ev.move (show Oper.op _ = Op.move (Operand.tmp 5) from rfl) (by rfl)) (by rfl) (by rfl) ?_
          refine Ls.ev (some 96) (Ev.fieldAddr (k := 1) (show Oper.op _ = Op.fieldAddr 55 (Operand.tmp 8) 1 from rfl) (by rfl) (by kernel_rfl) (by rfl)) (by rfl) (by rfl) ?_
          refine Ls.ev (some 97) (Ev.load 0 (show Oper.op _ = Op.load 3 (Operand.tmp 96) from rfl) (by rfl) (by rfl) (by kernel_rfl) (by rfl)) (by rfl) (by rfl) ?_
          have hsame := tick_same oa h5 h6
          have hfit := fit_iter h5 (min 100 oa.toNat)
          have hkk := k_iter ⟨b, t2, s, 0⟩ (min 100 oa.toNat)
          rw [← hp] at hsame hfit hkk
          have hb : b = true → 1 ≤ t1 ∧ t1 ≤ 5 ∧ 1 ≤ wt ∧ wt ≤ 1000 := fun e => by
            obtain ⟨f1, f2, f3, f4⟩ := h5 e
            obtain ⟨e1, e2⟩ := h6 e
            dsimp only at f1 f2 f3 f4
            have := (pow_five f1 f2).2.1
            omega
          refine Ls.does (some 98) (Does.call [1, 3, 0, 2, 3, 4, 5, 6] (show Oper.op _ = Op.call { callee := Callee.value (Operand.func 12), args := #[Operand.tmp 95, Operand.tmp 97], argTypes := #[28, 3] } from rfl) Try.func12 (by kernel_rfl) (by kernel_rfl) (tick_sl g fr id b f0 to kd i0 vb ep st t1 wt oa A xs.length c xs h3 hb ha) (by rfl) (by rfl) (by rfl)) (by rfl) (by rfl) ?_
          rintro ⟨⟨a0, c0⟩, ms⟩ hms
          dsimp only at hms ⊢
          generalize tickF 5 b t1 wt oa 0 = r at hsame hms
          obtain ⟨rb, rt, rwt, rk⟩ := r
          dsimp only at hsame hms hkk ⊢
          obtain ⟨e1, e2, e3⟩ := hsame
          subst e1 e2 hms
          refine Ent.see 1 (by rfl) (Ent.see 8 (by rfl) ?_)
          refine Ent.pick [2, 0, 1, 3, 4, 5, 6, 7, 8] (by rfl) (Ent.map (fun w h => h.starx_see (f := fun q : Option Addr × Nat => row q.1 xs.length q.2 3 1 (ints xs)) (g := fun q : Option Addr × Nat => rd q.1 xs.length 1 (ints xs)) (fun _ => rfl) (fun p w h => row_rd.1 w h) (fun p k h => h.2)) ?_)
          refine Ls.ev (some 99) (Ev.move (show Oper.op _ = Op.move (Operand.tmp 13) from rfl) (by rfl)) (by rfl) (by rfl) ?_
          refine Ls.does (some 100) (Does.call [2, 8, 0, 6, 1, 4, 5, 7] (show Oper.op _ = Op.call { callee := Callee.value (Operand.func 18), args := #[Operand.tmp 98, Operand.tmp 99], argTypes := #[46, 46] } from rfl) Try.func18 (by kernel_rfl) (by kernel_rfl) (sameAll_sl f0 to kd i0 vb ep st D d' xs h3 a0 O c0 oc ms (by omega)) (by rfl) (by rfl) (by rfl)) (by rfl) (by rfl) ?_
          intro _ _
          refine Ls.ev (some 101) (Ev.not (show Oper.op _ = Op.unOp UnOp.not 4 (Operand.tmp 100) from rfl) (by rfl)) (by rfl) (by rfl) ?_
          refine Ls.nil ?_
          refine Cd.cond_false (by rfl) (rfl) ?_
          refine Cd.skip ?_
          refine Ent.pick [0, 2, 1, 3] (by rfl) ?_
          refine Ent.inv (⟨k, id, rb, f0, to, kd, i0, vb, ep, st, xs, A, c, D, d', rt, rwt, pt, ps⟩) ?_ ?_ ?_
          · (try dsimp only); exact ⟨⟨h1, ⟨h2.1, by show id ≤ ((k + 1 : Nat) : Int); omega⟩, h3, h4, hfit, e3⟩, rfl⟩
          · (repeat (first | exact trivial | refine ⟨by rfl, ?_⟩ | refine ⟨by simp only [List.length_append, List.length_cons, List.length_nil]; rfl, ?_⟩ | refine ⟨by push_cast; rfl, ?_⟩))
          · rfl
        · skip
          refine Ent.arg 5 (by rfl) hmrr (Ent.arg 6 (by rfl) hmcr (Ent.arg 7 (by rfl) hdr (Ent.arg 8 (by rfl) htr ?_)))
          refine Ent.restate [rd tA tx.length 1 (strs tx), rd dA dx.length 1 (strs dx), rd mcA mcx.length 1 (ints mcx), rd mrA mrx.length 1 (ints mrx), blk g2 55 (OpA.enc ⟨okd, oa, ob, ⟨cv, ce, ⟨cs, cA, cC, cx⟩⟩, ⟨mfr, mto, mkd, ⟨tn, tl, tc⟩, ⟨wr, tA, tC, tx, dA, dC, dx⟩, yes, mid, ⟨mcv, mce, ⟨mcs, mcA, mcC, mcx⟩⟩, ⟨mrc, mre, ⟨mrs, mrA, mrC, mrx⟩⟩⟩, ⟨rc, re, ⟨rs, rA, rC, rx⟩⟩, odn⟩), rd (some ax) os.length 31 (os.flatMap OpA.enc), blk g 90 (callC fr id b (msg f0 to kd i0 vb ep st A xs.length c) t1 wt), rd A xs.length 1 (ints xs), blk g1 53 (callC fr id b (msg f0 to kd i0 vb ep st D xs.length d') t2 s), argc W] (by rfl) ?_
          refine Ent.pick [4, 6, 8, 0, 1, 2, 3, 7, 9] (by rfl) ?_
          refine Cd.seq ?_
          refine Cd.region ?_
          refine Ls.ev (some 14) (Ev.assign (show Oper.op _ = Op.assign (Operand.const (Value.bool false)) from rfl) (by rfl)) (by rfl) (by rfl) ?_
          refine Ls.nil ?_
          refine Cd.seq ?_
          refine Cd.region ?_
          refine Ls.ev (some 42) (Ev.loads 2 (show Oper.op _ = Op.load 53 (Operand.tmp 6) from rfl) (by rfl) (by rfl) (n := 24) (by kernel_rfl) (by rfl) (by rfl)) (by rfl) (by rfl) ?_
          refine Ls.ev (some 43) (Ev.fieldAddr (k := 7) (show Oper.op _ = Op.fieldAddr 55 (Operand.tmp 8) 4 from rfl) (by rfl) (by kernel_rfl) (by rfl)) (by rfl) (by rfl) ?_
          refine Ls.ev (some 44) (Ev.loads 0 (show Oper.op _ = Op.load 41 (Operand.tmp 43) from rfl) (by rfl) (by rfl) (n := 19) (by kernel_rfl) (by rfl) (by rfl)) (by rfl) (by rfl) ?_
          refine Ls.does (some 45) (Does.call [0, 1, 2, 3, 4, 5, 6, 7, 8] (show Oper.op _ = Op.call { callee := Callee.value (Operand.func 19), args := #[Operand.tmp 42, Operand.tmp 44], argTypes := #[53, 41] } from rfl) Try.func19 (by kernel_rfl) (by kernel_rfl) (refHear_sl fr id f0 to kd i0 vb ep st t2 s b D xs.length d' ⟨mfr, mto, mkd, ⟨tn, tl, tc⟩, ⟨wr, tA, tC, tx, dA, dC, dx⟩, yes, mid, ⟨mcv, mce, ⟨mcs, mcA, mcC, mcx⟩⟩, ⟨mrc, mre, ⟨mrs, mrA, mrC, mrx⟩⟩⟩) (by rfl) (by rfl) (by rfl)) (by rfl) (by rfl) ?_
          intro _ _
          generalize hq : heardB b fr id to ⟨mfr, mto, mkd, ⟨tn, tl, tc⟩, ⟨wr, tA, tC, tx, dA, dC, dx⟩, yes, mid, ⟨mcv, mce, ⟨mcs, mcA, mcC, mcx⟩⟩, ⟨mrc, mre, ⟨mrs, mrA, mrC, mrx⟩⟩⟩ = q
          refine Ls.ev (some 41) (Ev.move (show Oper.op _ = Op.move (Operand.tmp 45) from rfl) (by rfl)) (by rfl) (by rfl) ?_
          refine Ls.ev (some 46) (Ev.extract (show Oper.op _ = Op.extract (Operand.tmp 41) 0 from rfl) (by rfl) (by rfl)) (by rfl) (by rfl) ?_
          refine Ls.ev (some 47) (Ev.extract (show Oper.op _ = Op.extract (Operand.tmp 41) 1 from rfl) (by rfl) (by rfl)) (by rfl) (by rfl) ?_
          refine Ls.does none (Does.store 2 (show Oper.op _ = Op.store 53 (Operand.tmp 6) (Operand.tmp 46) from rfl) (by rfl) (by rfl) (by rfl) (by kernel_rfl) (by rfl) (by kernel_rfl) (by rfl)) (by rfl) (by rfl) ?_
          intro _ _
          refine Ent.restate [blk g2 55 (OpA.enc ⟨okd, oa, ob, ⟨cv, ce, ⟨cs, cA, cC, cx⟩⟩, ⟨mfr, mto, mkd, ⟨tn, tl, tc⟩, ⟨wr, tA, tC, tx, dA, dC, dx⟩, yes, mid, ⟨mcv, mce, ⟨mcs, mcA, mcC, mcx⟩⟩, ⟨mrc, mre, ⟨mrs, mrA, mrC, mrx⟩⟩⟩, ⟨rc, re, ⟨rs, rA, rC, rx⟩⟩, odn⟩), blk g 90 (callC fr id b (msg f0 to kd i0 vb ep st A xs.length c) t1 wt), blk g1 53 (callC fr id (b && !q) (msg f0 to kd i0 vb ep st D xs.length d') t2 s), rd tA tx.length 1 (strs tx), rd dA dx.length 1 (strs dx), rd mcA mcx.length 1 (ints mcx), rd mrA mrx.length 1 (ints mrx), rd A xs.length 1 (ints xs), argc W] (by rfl) ?_
          refine Ls.ev (some 14) (Ev.assign (show Oper.op _ = Op.assign (Operand.tmp 47) from rfl) (by rfl)) (by rfl) (by rfl) ?_
          refine Ls.nil ?_
          refine Cd.seq ?_
          refine Cd.region ?_
          refine Ls.ev (some 48) (Ev.move (show Oper.op _ = Op.move (Operand.tmp 5) from rfl) (by rfl)) (by rfl) (by rfl) ?_
          refine Ls.ev (some 49) (Ev.fieldAddr (k := 7) (show Oper.op _ = Op.fieldAddr 55 (Operand.tmp 8) 4 from rfl) (by rfl) (by kernel_rfl) (by rfl)) (by rfl) (by rfl) ?_
          refine Ls.ev (some 50) (Ev.loads 0 (show Oper.op _ = Op.load 41 (Operand.tmp 49) from rfl) (by rfl) (by rfl) (n := 19) (by kernel_rfl) (by rfl) (by rfl)) (by rfl) (by rfl) ?_
          refine Ls.does (some 51) (Does.read (show Oper.op _ = Op.call { callee := Callee.value (Operand.func 21), args := #[Operand.tmp 50], argTypes := #[41] } from rfl) Try.func21 (by kernel_rfl) (by kernel_rfl) (own10_sl mfr mto mkd tn tl tc wr tA tC tx dA dC dx yes mid mcv mce mcs mcA mcC mcx mrc mre mrs mrA mrC mrx htl hdl hmcl hmrl) (by rfl) (by rfl) ⟨ReadsIn.rd 3 (by rfl), ReadsIn.rd 4 (by rfl), ReadsIn.rd 5 (by rfl), ReadsIn.rd 6 (by rfl), trivial⟩) (by rfl) (by rfl) ?_
          rintro M ⟨e1, e2, e3, e4⟩
          have hh : heardB b fr id to M = q := by rw [← hq]; simp only [heardB, e1, e2, e3, e4]
          skip
          refine Ls.does (some 52) (Does.call [1, 2, 7, 8] (show Oper.op _ = Op.call { callee := Callee.value (Operand.func 20), args := #[Operand.tmp 48, Operand.tmp 51], argTypes := #[28, 41] } from rfl) Try.func20 (by kernel_rfl) (by kernel_rfl) (hear_sl g fr id f0 to kd i0 vb ep st t1 wt b A xs.length c M) (by rfl) (by rfl) (by rfl)) (by rfl) (by rfl) ?_
          intro _ _
          rw [hh]
          refine Ls.ev (some 53) (Ev.move (show Oper.op _ = Op.move (Operand.tmp 14) from rfl) (by rfl)) (by rfl) (by rfl) ?_
          refine Ls.ev (some 54) (Ev.neqB (show Oper.op _ = Op.binOp BinOp.neq 4 (Operand.tmp 52) (Operand.tmp 53) 4 from rfl) (by rfl) (by rfl) Try.underlying4) (by rfl) (by rfl) ?_
          refine Ls.nil ?_
          refine Cd.cond_false (by rfl) (by simp) ?_
          refine Cd.skip ?_
          refine Ent.pick [0, 2, 1, 3] (by rfl) ?_
          refine Ent.inv (⟨k, id, b && !q, f0, to, kd, i0, vb, ep, st, xs, A, c, D, d', t1, wt, t2, s⟩) ?_ ?_ ?_
          · (try dsimp only); exact ⟨⟨h1, ⟨h2.1, by show id ≤ ((k + 1 : Nat) : Int); omega⟩, h3, h4, fun e => h5 (by simp_all), fun e => h6 (by simp_all)⟩, rfl⟩
          · (repeat (first | exact trivial | refine ⟨by rfl, ?_⟩ | refine ⟨by simp only [List.length_append, List.length_cons, List.length_nil]; rfl, ?_⟩ | refine ⟨by push_cast; rfl, ?_⟩))
          · rfl
    skip
    rintro ⟨k', id, b, f0, to, kd, i0, vb, ep, st, xs, A, c, D, d', t1, wt, t2, s⟩ ⟨⟨h1, h2, h3, h4, h5, h6⟩, hkk⟩
    dsimp only at hkk
    subst hkk
    dsimp only at h1 h2 h3 h4 h5 h6 ⊢
    refine Cd.seq ?_
    refine Cd.draw [] (by kernel_rfl) ?_
    refine Rg.ev 0 (by rfl) (fun _ h => h) (Ev.move (show Oper.op _ = Op.move (Operand.tmp 5) from rfl) (by rfl)) (by rfl) (some 102) (by rfl) (by kernel_rfl) (by kernel_rfl) (by kernel_rfl) (by kernel_rfl) ?_
    refine Rg.ev 2 (by rfl) (fun _ h => h) (Ev.fieldAddr (k := 2) (show Oper.op _ = Op.fieldAddr 53 (Operand.tmp 6) 2 from rfl) (by rfl) (by kernel_rfl) (by rfl)) (by rfl) (some 104) (by rfl) (by kernel_rfl) (by kernel_rfl) (by kernel_rfl) (by kernel_rfl) ?_
    refine Rg.ev 3 (by rfl) (fun _ h => h) (Ev.load 2 (show Oper.op _ = Op.load 4 (Operand.tmp 104) from rfl) (by rfl) (by rfl) (by kernel_rfl) (by rfl)) (by rfl) (some 105) (by rfl) (by kernel_rfl) (by kernel_rfl) (by kernel_rfl) (by kernel_rfl) ?_
    refine Rg.does 1 (by rfl) (by kernel_rfl) (Does.call [0, 1, 2, 3] (show Oper.op _ = Op.call { callee := Callee.value (Operand.func 14), args := #[Operand.tmp 102], argTypes := #[28] } from rfl) Try.func14 (by kernel_rfl) (by kernel_rfl) (busy_sl g fr id b f0 to kd i0 vb ep st t1 wt A xs.length c) (by rfl) (by rfl) (by rfl)) (by rfl) (some 103) (by rfl) (fun _ _ h => h) ?_
    intro _ _
    refine Rg.ev 4 (by rfl) (fun _ h => h) (Ev.neqB (show Oper.op _ = Op.binOp BinOp.neq 4 (Operand.tmp 103) (Operand.tmp 105) 4 from rfl) (by rfl) (by rfl) Try.underlying4) (by rfl) (some 106) (by rfl) (by kernel_rfl) (by kernel_rfl) (by kernel_rfl) (by kernel_rfl) ?_
    refine Rg.ev 5 (by rfl) (fun _ h => h) (Ev.move (show Oper.op _ = Op.move (Operand.tmp 106) from rfl) (by rfl)) (by rfl) (some 107) (by rfl) (by kernel_rfl) (by kernel_rfl) (by kernel_rfl) (by kernel_rfl) ?_
    refine Ent.known 107 false (by rfl) (by exact (by simp)) ?_
    refine Rg.ev 6 (by rfl) (fun _ h => h) (Ev.move (show Oper.op _ = Op.move (Operand.tmp 5) from rfl) (by rfl)) (by rfl) (some 108) (by rfl) (by kernel_rfl) (by kernel_rfl) (by kernel_rfl) (by kernel_rfl) ?_
    refine Rg.ev 8 (by rfl) (fun _ h => h) (Ev.fieldAddr (k := 1) (show Oper.op _ = Op.fieldAddr 53 (Operand.tmp 6) 1 from rfl) (by rfl) (by kernel_rfl) (by rfl)) (by rfl) (some 110) (by rfl) (by kernel_rfl) (by kernel_rfl) (by kernel_rfl) (by kernel_rfl) ?_
    refine Rg.ev 9 (by rfl) (fun _ h => h) (Ev.load 2 (show Oper.op _ = Op.load 3 (Operand.tmp 110) from rfl) (by rfl) (by rfl) (by kernel_rfl) (by rfl)) (by rfl) (some 111) (by rfl) (by kernel_rfl) (by kernel_rfl) (by kernel_rfl) (by kernel_rfl) ?_
    refine Rg.does 7 (by rfl) (by kernel_rfl) (Does.call [0, 1, 2, 3] (show Oper.op _ = Op.call { callee := Callee.value (Operand.func 15), args := #[Operand.tmp 108], argTypes := #[28] } from rfl) Try.func15 (by kernel_rfl) (by kernel_rfl) (id_sl g fr id b f0 to kd i0 vb ep st t1 wt A xs.length c) (by rfl) (by rfl) (by rfl)) (by rfl) (some 109) (by rfl) (fun _ _ h => h) ?_
    intro _ _
    refine Rg.ev 10 (by rfl) (fun _ h => h) (Ev.neq (show Oper.op _ = Op.binOp BinOp.neq 3 (Operand.tmp 109) (Operand.tmp 111) 3 from rfl) (by rfl) (by rfl)) (by rfl) (some 112) (by rfl) (by kernel_rfl) (by kernel_rfl) (by kernel_rfl) (by kernel_rfl) ?_
    refine Rg.ev 11 (by rfl) (fun _ h => h) (Ev.pickF (show Oper.op _ = Op.pick (Operand.tmp 107) (Operand.const (Value.bool true)) (Operand.tmp 112) from rfl) (by rfl) (by rfl)) (by rfl) (some 113) (by rfl) (by kernel_rfl) (by kernel_rfl) (by kernel_rfl) (by kernel_rfl) ?_
    refine Rg.done (by kernel_rfl) ?_ _
    refine Cd.cond_false (by rfl) (by simp) ?_
    refine Cd.skip ?_
    refine Cd.region ?_
    refine Ls.ev (some 33) (Ev.move (show Oper.op _ = Op.move (Operand.tmp 7) from rfl) (by rfl)) (by rfl) (by rfl) ?_
    refine Ls.ev (some 34) (Ev.addI (show Oper.op _ = Op.binOp BinOp.add 3 (Operand.tmp 33) (Operand.const (Value.int IntKind.i64 1)) 3 from rfl) (by rfl) (by rfl) (by omega)) (by rfl) (by rfl) ?_
    refine Ls.ev (some 7) (Ev.assign (show Oper.op _ = Op.assign (Operand.tmp 34) from rfl) (by rfl)) (by rfl) (by rfl) ?_
    refine Ls.nil ?_
    refine Ent.inv (⟨k' + 1, id, b, f0, to, kd, i0, vb, ep, st, xs, A, c, D, d', t1, wt, t2, s⟩) ?_ ?_ ?_
    · (try dsimp only); exact ⟨⟨h7, h2, h3, h4, h5, h6⟩, by show 80 - (k' + 1) < 80 - k'; omega⟩
    · (repeat (first | exact trivial | refine ⟨by rfl, ?_⟩ | refine ⟨by simp only [List.length_append, List.length_cons, List.length_nil]; rfl, ?_⟩ | refine ⟨by push_cast; rfl, ?_⟩))
    · rfl
  · skip
    refine Cd.exit ?_
    refine Cd.seq ?_
    refine Cd.region ?_
    refine Ls.ev (some 4) (Ev.assign (show Oper.op _ = Op.assign (Operand.const (Value.bool true)) from rfl) (by rfl)) (by rfl) (by rfl) ?_
    refine Ls.nil ?_
    refine Cd.ret ?_
    refine Ent.ret (()) (trivial) (Res.tmp (by rfl) (by rfl)) ?_ [] (by rfl) ?_
    · rfl
    · rfl
theorem calls_vals (W : World) (args : Array Value) (hv : Vals Try.prog W [3, 51] args.toList) :
    Calls Try.prog 4 args W fun e W' => e = .returned (.bool true) ∧ Below W.heap.size W W' := by
  obtain ⟨v0, r0, e0, h0, v1, r1, rfl, h1, rfl⟩ := hv
  obtain rfl : args = #[v0, v1] := by cases args; simp_all
  obtain ⟨fr, rfl, _⟩ := val_int Try.underlying3 h0
  obtain ⟨B, d, os, rfl, hr, hok, hc, hb⟩ := val_list (Q := fun W o => OpA.ok W o) Try.underlying51 (show Try.prog.cellsOf 55 = 31 by kernel_rfl) (by decide) opa_len cel_opa h1
  have e : Try.prog.bytesOf 55 = 344 := by kernel_rfl
  rw [e] at hb
  unfold reachBytes at hb
  exact Fn.law (calls_sl W fr B d os (by omega) hr hok)

set_option maxRecDepth 100000 in
theorem calls_lifted (os : Os) (started : os.Started) (H : Type) (enc : TypeId × Value → H) :
    ReturnsInHanded {} Try.checked os 4 .any (Rows.rpcCallsSpec.pre6 enc Try.prog Try.f4 Rows.rpcCallsRow.domain false) (Rows.rpcCallsSpec.post enc Try.prog Try.f4 false true false false) :=
  lift_law (C := Try.checked) #[3, 51] (by kernel_rfl) (by kernel_rfl) started (by kernel_rfl) Try.func4
    (ChangeSpec.witness6 (enc := enc) (C := Try.checked) false ⟨#[], #[.int .i64 0, .slice none 0 0], []⟩ 8 (by kernel_rfl) (by kernel_rfl) (by kernel_rfl) (by kernel_rfl))
    Try.params4 (by kernel_rfl) rfl rfl Try.underlying4 (fun ds hl => match ds, hl with | [_, _], _ => rfl) (fun W args hv => calls_vals W args hv)

theorem calls_holds : Rows.RpcCallsSaid :=
  OpenClaim.holds_of_wide 4 Try.f4 rfl rfl rfl rfl rfl rfl rfl ⟨rfl, rfl, rfl, rfl, rfl⟩ rfl rfl rfl rfl rfl (by kernel_rfl) Try.func4 (by kernel_rfl)
    (of_decide_eq_true (by kernel_rfl)) (by unfold Func.isWrapper; rw [if_neg (of_decide_eq_false (by kernel_rfl))]; exact ⟨rfl, rfl⟩)
    (fun os started H enc _ => calls_lifted os started H enc)

end Go.Proofs.Ytgidkjfakecniaa
