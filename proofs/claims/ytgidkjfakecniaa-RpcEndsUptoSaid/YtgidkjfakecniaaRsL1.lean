/- PROVED HERE: RpcEnds, for arguments that are not too large for any machine: the law of layer 11 answers true and its input reads as before: a call that nobody answers is sent five times and is over behind just 62 ticks, however ticks are dealt out. -/
import Derived.Test.YtgidkjfakecniaaRsI
import Derived.Test.YtgidkjfakecniaaRsK
import Derived.Test.YtgidkjfakecniaaLibU
import Derived.Test.YtgidkjfakecniaaRows
import Derived.Test.YtgidkjfakecniaaChecked
namespace Go.Proofs.Ytgidkjfakecniaa
open Go.RowKit
structure EndI where
  i : Nat
  b : Bool
  tr : Int
  wt : Int
  left : Int
  sent : Int
theorem u64_bd (x : Int) : 0 ≤ IntKind.u64.wrap x ∧ IntKind.u64.wrap x < 18446744073709551616 := by rw [IntKind.wrap_u64]; omega

set_option maxHeartbeats 4000000 in
theorem ends_sl (W : World) (vb ep st : Int) (B : Option Addr) (d : Nat) (xs : List Int) (hn : xs.length ≤ 17592186044415) (hr : Reads W W.heap.size 1 B xs.length (ints xs)) (T : Option Addr) (td : Nat) (ts : List Int) (htn : ts.length ≤ 17592186044415) (htr : Reads W W.heap.size 1 T ts.length (ints ts)) :
    Fn Try.prog 3 #[.agg #[.int .i64 vb, .int .i64 ep, .int .i64 st, .slice B xs.length d], .slice T ts.length td] [argc W] Unit (fun _ => .bool true) (fun _ => []) (fun _ => True) := by
  refine Fn.enter Try.func3 rfl Try.ntmps3 (by rfl) ?_
  intro w0
  refine Cd.seq ?_
  refine Cd.region ?_
  refine Ls.does (some 2) (Does.box (show Oper.op _ = Op.box 27 (Operand.tmp 0) from rfl) (by rfl)) (by rfl) (by rfl) ?_
  intro g1 _
  refine Ls.ev (some 4) (Ev.assign (show Oper.op _ = Op.assign (Operand.const (Value.bool false)) from rfl) (by rfl)) (by rfl) (by rfl) ?_
  refine Ls.nil ?_
  refine Cd.seq ?_
  refine Cd.region ?_
  refine Ls.does (some 17) (Does.call [0, 1] (show Oper.op _ = Op.call { callee := Callee.value (Operand.func 8), args := #[Operand.const (Value.int IntKind.i64 1001)], argTypes := #[3] } from rfl) Try.func8 (by kernel_rfl) (by kernel_rfl) (new_sl 1001) (by rfl) (by rfl) (by rfl)) (by rfl) (by rfl) ?_
  intro g _
  refine Ls.ev (some 5) (Ev.assign (show Oper.op _ = Op.assign (Operand.tmp 17) from rfl) (by rfl)) (by rfl) (by rfl) ?_
  refine Ls.nil ?_
  refine Cd.seq ?_
  refine Cd.seq ?_
  refine Cd.region ?_
  refine Ls.does (some 18) (Does.call [0, 1, 2] (show Oper.op _ = Op.call { callee := Callee.value (Operand.func 9), args := #[], argTypes := #[] } from rfl) Try.func9 (by kernel_rfl) (by kernel_rfl) (awake_sl) (by rfl) (by rfl) (by rfl)) (by rfl) (by rfl) ?_
  intro _ _
  refine Ls.ev (some 19) (Ev.not (show Oper.op _ = Op.unOp UnOp.not 4 (Operand.tmp 18) from rfl) (by rfl)) (by rfl) (by rfl) ?_
  refine Ls.ev (some 20) (Ev.move (show Oper.op _ = Op.move (Operand.tmp 19) from rfl) (by rfl)) (by rfl) (by rfl) ?_
  refine Ls.ev (some 21) (Ev.move (show Oper.op _ = Op.move (Operand.tmp 5) from rfl) (by rfl)) (by rfl) (by rfl) ?_
  refine Ls.ev (some 22) (Ev.ptrNil (show Oper.op _ = Op.binOp BinOp.eql 28 (Operand.tmp 21) (Operand.const (Value.pointer none)) 28 from rfl) (by rfl) (by rfl) Try.underlying28) (by rfl) (by rfl) ?_
  refine Ls.ev (some 23) (Ev.pickF (show Oper.op _ = Op.pick (Operand.tmp 20) (Operand.const (Value.bool true)) (Operand.tmp 22) from rfl) (by rfl) (by rfl)) (by rfl) (by rfl) ?_
  refine Ls.nil ?_
  refine Cd.cond_false (by rfl) (rfl) ?_
  refine Cd.skip ?_
  refine Cd.seq ?_
  refine Cd.region ?_
  refine Ls.ev (some 25) (Ev.move (show Oper.op _ = Op.move (Operand.tmp 5) from rfl) (by rfl)) (by rfl) (by rfl) ?_
  refine Ls.ev (some 26) (Ev.loads 1 (show Oper.op _ = Op.load 27 (Operand.tmp 2) from rfl) (by rfl) (by rfl) (n := 4) (by kernel_rfl) (by rfl) (by rfl)) (by rfl) (by rfl) ?_
  refine Ent.arg 2 (by rfl) hr ?_
  refine Ls.does (some 27) (Does.call [0, 1, 2, 3] (show Oper.op _ = Op.call { callee := Callee.value (Operand.func 11), args := #[Operand.tmp 26], argTypes := #[27] } from rfl) Try.func11 (by kernel_rfl) (by kernel_rfl) (ownC_sl vb ep st B d xs hn) (by rfl) (by rfl) (by rfl)) (by rfl) (by rfl) ?_
  intro p _
  refine Ent.see 0 (by rfl) ?_
  skip
  refine Ls.does (some 28) (Does.call [1, 0, 2, 3] (show Oper.op _ = Op.call { callee := Callee.value (Operand.func 10), args := #[Operand.tmp 25, Operand.const (Value.int IntKind.i64 1), Operand.tmp 27], argTypes := #[28, 3, 27] } from rfl) Try.func10 (by kernel_rfl) (by kernel_rfl) (call_sl g 1001 0 0 0 0 0 0 0 0 0 0 1 vb ep st none p.1 0 0 xs.length p.2 xs hn (by decide)) (by rfl) (by rfl) (by rfl)) (by rfl) (by rfl) ?_
  intro q _
  refine Ls.ev (some 24) (Ev.move (show Oper.op _ = Op.move (Operand.tmp 28) from rfl) (by rfl)) (by rfl) (by rfl) ?_
  refine Ls.ev (some 29) (Ev.extract (show Oper.op _ = Op.extract (Operand.tmp 24) 0 from rfl) (by rfl) (by rfl)) (by rfl) (by rfl) ?_
  refine Ls.ev (some 30) (Ev.extract (show Oper.op _ = Op.extract (Operand.tmp 24) 1 from rfl) (by rfl) (by rfl)) (by rfl) (by rfl) ?_
  refine Ls.does (some 6) (Does.alloc (cs := [.int .i64 0, .int .i64 0, .int .i64 0, .int .i64 0, .int .i64 0, .int .i64 0, .int .i64 0, .slice none 0 0, .slice none 0 0, .bool false, .int .i64 0, .int .i64 0, .int .i64 0, .int .i64 0, .slice none 0 0, .int .i64 0, .int .i64 0, .int .i64 0, .slice none 0 0]) (show Oper.op _ = Op.alloc 41 from rfl) (ZeroIs.mk (.agg #[.int .i64 0, .int .i64 0, .int .i64 0, .int .i64 0, .int .i64 0, .int .i64 0, .int .i64 0, .slice none 0 0, .slice none 0 0, .bool false, .int .i64 0, .int .i64 0, .int .i64 0, .int .i64 0, .slice none 0 0, .int .i64 0, .int .i64 0, .int .i64 0, .slice none 0 0]) (by kernel_rfl) (by rfl))) (by rfl) (by rfl) ?_
  intro g2 _
  refine Ls.does none (Does.store 0 (show Oper.op _ = Op.store 41 (Operand.tmp 6) (Operand.tmp 29) from rfl) (by rfl) (by rfl) (by rfl) (by kernel_rfl) (by rfl) (by kernel_rfl) (by rfl)) (by rfl) (by rfl) ?_
  intro _ _
  refine Ls.ev (some 7) (Ev.assign (show Oper.op _ = Op.assign (Operand.tmp 30) from rfl) (by rfl)) (by rfl) (by rfl) ?_
  refine Ls.nil ?_
  refine Cd.seq ?_
  refine Cd.region ?_
  refine Ls.ev (some 8) (Ev.assign (show Oper.op _ = Op.assign (Operand.const (Value.int IntKind.i64 1)) from rfl) (by rfl)) (by rfl) (by rfl) ?_
  refine Ls.ev (some 9) (Ev.assign (show Oper.op _ = Op.assign (Operand.const (Value.int IntKind.i64 62)) from rfl) (by rfl)) (by rfl) (by rfl) ?_
  refine Ls.nil ?_
  refine Cd.seq ?_
  refine Cd.seq ?_
  refine Cd.region ?_
  refine Ls.ev (some 10) (Ev.assign (show Oper.op _ = Op.assign (Operand.const (Value.int IntKind.i64 0)) from rfl) (by rfl)) (by rfl) (by rfl) ?_
  refine Ls.nil ?_
  refine Cd.block ?_
  refine Ent.see 3 (by rfl) ?_
  refine Ent.pick [1, 2, 0, 3, 4, 5] (by rfl) ?_
  refine Cd.loop (ι := EndI) (fun j => [(1, .slice T ts.length td), (2, .pointer (some ⟨g1, 0, none⟩)), (5, .pointer (some ⟨g, 0, none⟩)), (6, .pointer (some ⟨g2, 0, none⟩)), (7, .int .i64 0), (8, .int .i64 j.sent), (9, .int .i64 j.left), (10, .int .i64 j.i)]) (fun j => [blk g 90 (callC 1001 1 j.b (msg 1001 1 6 1 vb ep st q.1.1 xs.length q.1.2) j.tr j.wt), rd q.1.1 xs.length 1 (ints xs), blk g2 41 (msg 1001 1 6 1 vb ep st q.2.1 xs.length q.2.2), rd q.2.1 xs.length 1 (ints xs), blk g1 27 [.int .i64 vb, .int .i64 ep, .int .i64 st, .slice B xs.length d], argc W]) (fun j => (0 ≤ j.left ∧ j.left ≤ 62) ∧ (0 < j.left → j.b = true ∧ remT j.tr j.wt = j.left ∧ (1 ≤ j.tr ∧ j.tr ≤ 5) ∧ (1 ≤ j.wt ∧ j.wt ≤ 32) ∧ j.sent = j.tr) ∧ (j.left = 0 → j.b = false ∧ j.sent = 5) ∧ (j.i ≤ ts.length ∨ (j.i : Int) + j.left ≤ ts.length + 62)) (fun j => (ts.length - j.i) + j.left.toNat) (⟨0, true, 1, 2, 62, 1⟩) (by refine ⟨by decide, fun _ => ⟨rfl, by decide, by decide, by decide, rfl⟩, fun h => absurd h (by decide), Or.inl (Nat.zero_le _)⟩) ?_ rfl ?_
  · (repeat (first | exact trivial | refine ⟨by rfl, ?_⟩))
  rintro ⟨i, b, tr, wt, left, sent⟩ ⟨h1, h2, h3, h4⟩
  dsimp only at h1 h2 h3 h4 ⊢
  refine Cd.seq ?_
  refine Cd.seq ?_
  refine Cd.region ?_
  refine Ls.ev (some 31) (Ev.move (show Oper.op _ = Op.move (Operand.tmp 9) from rfl) (by rfl)) (by rfl) (by rfl) ?_
  refine Ls.ev (some 32) (Ev.gtr (show Oper.op _ = Op.binOp BinOp.gtr 3 (Operand.tmp 31) (Operand.const (Value.int IntKind.i64 0)) 3 from rfl) (by rfl) (by rfl)) (by rfl) (by rfl) ?_
  refine Ls.nil ?_
  refine Cd.cond _ (by rfl) (fun h => ?_) (fun h => ?_)
  · skip
    have hl : 0 < left := of_decide_eq_true h
    obtain ⟨rfl, e1, e2, e3, rfl⟩ := h2 hl
    refine Cd.skip ?_
    refine Cd.seq ?_
    refine Cd.block ?_
    refine Cd.seq ?_
    refine Cd.region ?_
    refine Ls.ev (some 11) (Ev.assign (show Oper.op _ = Op.assign (Operand.const (Value.int IntKind.i64 1)) from rfl) (by rfl)) (by rfl) (by rfl) ?_
    refine Ls.nil ?_
    refine Cd.seq ?_
    refine Cd.seq ?_
    refine Cd.region ?_
    refine Ls.ev (some 35) (Ev.move (show Oper.op _ = Op.move (Operand.tmp 10) from rfl) (by rfl)) (by rfl) (by rfl) ?_
    refine Ls.ev (some 36) (Ev.move (show Oper.op _ = Op.move (Operand.tmp 1) from rfl) (by rfl)) (by rfl) (by rfl) ?_
    refine Ls.ev (some 37) (Ev.len (show Oper.op _ = Op.call { callee := Callee.builtin Builtin.len, args := #[Operand.tmp 36], argTypes := #[23] } from rfl) (by rfl) Try.underlying23) (by rfl) (by rfl) ?_
    refine Ls.ev (some 38) (Ev.lss (show Oper.op _ = Op.binOp BinOp.lss 3 (Operand.tmp 35) (Operand.tmp 37) 3 from rfl) (by rfl) (by rfl)) (by rfl) (by rfl) ?_
    refine Ls.nil ?_
    refine Cd.cut (ι := Int) (fun n => [(1, .slice T ts.length td), (2, .pointer (some ⟨g1, 0, none⟩)), (5, .pointer (some ⟨g, 0, none⟩)), (6, .pointer (some ⟨g2, 0, none⟩)), (7, .int .i64 0), (8, .int .i64 sent), (9, .int .i64 left), (10, .int .i64 i), (11, .int .i64 n)]) (fun _ => [blk g 90 (callC 1001 1 true (msg 1001 1 6 1 vb ep st q.1.1 xs.length q.1.2) sent wt), rd q.1.1 xs.length 1 (ints xs), blk g2 41 (msg 1001 1 6 1 vb ep st q.2.1 xs.length q.2.2), rd q.2.1 xs.length 1 (ints xs), blk g1 27 [.int .i64 vb, .int .i64 ep, .int .i64 st, .slice B xs.length d], argc W]) (fun n => (-2 ≤ n ∧ n ≤ 67) ∧ (¬ i < ts.length → n = 1)) ?_ ?_
    · skip
      refine Cd.cond _ (by rfl) (fun hi => ?_) (fun hi => ?_)
      · skip
        have hlt : i < ts.length := by have := of_decide_eq_true hi; omega
        obtain ⟨u, hu⟩ := get_of_lt hlt
        refine Ent.arg 5 (by rfl) htr ?_
        refine Ent.rdSome 0 (by rfl) (by omega) (fun ax hax => ?_)
        subst hax
        have hw := u64_bd u
        refine Cd.region ?_
        refine Ls.ev (some 39) (Ev.move (show Oper.op _ = Op.move (Operand.tmp 1) from rfl) (by rfl)) (by rfl) (by rfl) ?_
        refine Ls.ev (some 40) (Ev.move (show Oper.op _ = Op.move (Operand.tmp 10) from rfl) (by rfl)) (by rfl) (by rfl) ?_
        refine Ls.ev (some 41) (Ev.indexAt (sz := 1) (show Oper.op _ = Op.indexAddr 23 (Operand.tmp 39) (Operand.tmp 40) from rfl) (by rfl) (by rfl) Try.underlying23 (by kernel_rfl) (by omega)) (by rfl) (by rfl) ?_
        refine Ls.ev (some 42) (Ev.loadInt (show Oper.op _ = Op.load 3 (Operand.tmp 41) from rfl) (by rfl) (ReadsIn.rd 0 (by rfl)) (by kernel_rfl) (by assumption)) (by rfl) (by rfl) ?_
        refine Ls.ev (some 43) (Ev.conv (show Oper.op _ = Op.convert 3 45 (Operand.tmp 42) from rfl) (by rfl) (by kernel_rfl) Try.underlying45) (by rfl) (by rfl) ?_
        refine Ls.ev (some 44) (Ev.remI (show Oper.op _ = Op.binOp BinOp.rem 45 (Operand.tmp 43) (Operand.const (Value.int IntKind.u64 70)) 45 from rfl) (by rfl) (by rfl) (by omega)) (by rfl) (by rfl) ?_
        refine Ls.ev (some 45) (Ev.convI (show Oper.op _ = Op.convert 45 3 (Operand.tmp 44) from rfl) (by rfl) (by kernel_rfl) Try.underlying3 (by omega)) (by rfl) (by rfl) ?_
        refine Ls.ev (some 46) (Ev.subI (show Oper.op _ = Op.binOp BinOp.sub 3 (Operand.tmp 45) (Operand.const (Value.int IntKind.i64 2)) 3 from rfl) (by rfl) (by rfl) (by omega)) (by rfl) (by rfl) ?_
        refine Ls.ev (some 11) (Ev.assign (show Oper.op _ = Op.assign (Operand.tmp 46) from rfl) (by rfl)) (by rfl) (by rfl) ?_
        refine Ls.nil ?_
        refine Ent.pick [1, 2, 3, 4, 5, 6] (by rfl) ?_
        refine Ent.inv (IntKind.u64.wrap u % 70 - 2) ?_ ?_ ?_
        · (try dsimp only); exact ⟨by omega, fun h => absurd hlt h⟩
        · (repeat (first | exact trivial | refine ⟨by rfl, ?_⟩ | refine ⟨by simp only [List.length_append, List.length_cons, List.length_nil]; rfl, ?_⟩ | refine ⟨by push_cast; rfl, ?_⟩))
        · rfl
      · skip
        refine Cd.skip ?_
        refine Ent.inv (1) ?_ ?_ ?_
        · (try dsimp only); exact ⟨by decide, fun _ => rfl⟩
        · (repeat (first | exact trivial | refine ⟨by rfl, ?_⟩ | refine ⟨by simp only [List.length_append, List.length_cons, List.length_nil]; rfl, ?_⟩ | refine ⟨by push_cast; rfl, ?_⟩))
        · rfl
    skip
    rintro n ⟨hn1, hn2⟩
    refine Cd.seq ?_
    refine Cd.region ?_
    refine Ls.ev (some 47) (Ev.move (show Oper.op _ = Op.move (Operand.tmp 11) from rfl) (by rfl)) (by rfl) (by rfl) ?_
    refine Ls.ev (some 48) (Ev.move (show Oper.op _ = Op.move (Operand.tmp 9) from rfl) (by rfl)) (by rfl) (by rfl) ?_
    refine Ls.ev (some 49) (Ev.min (show Oper.op _ = Op.call { callee := Callee.builtin Builtin.min, args := #[Operand.tmp 47, Operand.tmp 48], argTypes := #[3, 3] } from rfl) (by rfl) (by rfl)) (by rfl) (by rfl) ?_
    refine Ls.ev (some 11) (Ev.assign (show Oper.op _ = Op.assign (Operand.tmp 49) from rfl) (by rfl)) (by rfl) (by rfl) ?_
    refine Ls.nil ?_
    refine Cd.seq ?_
    refine Cd.region ?_
    refine Ls.ev (some 50) (Ev.move (show Oper.op _ = Op.move (Operand.tmp 5) from rfl) (by rfl)) (by rfl) (by rfl) ?_
    refine Ls.ev (some 51) (Ev.move (show Oper.op _ = Op.move (Operand.tmp 11) from rfl) (by rfl)) (by rfl) (by rfl) ?_
    obtain ⟨m, hm⟩ : ∃ m, m = if left < n then left else n := ⟨_, rfl⟩
    rw [← hm]
    have hm1 : -2 ≤ m ∧ m ≤ left ∧ (n = 1 → m = 1) := by rw [hm]; split <;> omega
    clear hm
    obtain ⟨r1, r2⟩ := tick_rem 5 sent wt m 0 e2.1 e2.2 e3.1 e3.2 (by omega) (by rw [e1]; exact hm1.2.1)
    refine Ls.does (some 52) (Does.call [0, 1, 1, 2, 3, 4, 5] (show Oper.op _ = Op.call { callee := Callee.value (Operand.func 12), args := #[Operand.tmp 50, Operand.tmp 51], argTypes := #[28, 3] } from rfl) Try.func12 (by kernel_rfl) (by kernel_rfl) (tick_sl g 1001 1 true 1001 1 6 1 vb ep st sent wt m q.1.1 xs.length q.1.2 xs hn (fun _ => ⟨by omega, by omega, by omega, by omega⟩) (by omega)) (by rfl) (by rfl) (by rfl)) (by rfl) (by rfl) ?_
    rintro ⟨⟨a0, c0⟩, ms⟩ hms
    dsimp only at hms ⊢
    refine Ent.pick [2, 0, 3, 4, 5, 6, 7, 1] (by rfl) (Ent.map (fun w h => h.starx_see (f := fun q : Option Addr × Nat => row q.1 xs.length q.2 3 1 (ints xs)) (g := fun q : Option Addr × Nat => rd q.1 xs.length 1 (ints xs)) (fun _ => rfl) (fun p w h => row_rd.1 w h) (fun p k h => h.2)) ?_)
    refine Ls.ev (some 12) (Ev.assign (show Oper.op _ = Op.assign (Operand.tmp 52) from rfl) (by rfl)) (by rfl) (by rfl) ?_
    refine Ls.nil ?_
    refine Cd.seq ?_
    refine Cd.region ?_
    refine Ls.ev (some 53) (Ev.move (show Oper.op _ = Op.move (Operand.tmp 9) from rfl) (by rfl)) (by rfl) (by rfl) ?_
    refine Ls.ev (some 54) (Ev.move (show Oper.op _ = Op.move (Operand.tmp 11) from rfl) (by rfl)) (by rfl) (by rfl) ?_
    refine Ls.ev (some 55) (Ev.max (show Oper.op _ = Op.call { callee := Callee.builtin Builtin.max, args := #[Operand.tmp 54, Operand.const (Value.int IntKind.i64 0)], argTypes := #[3, 3] } from rfl) (by rfl) (by rfl)) (by rfl) (by rfl) ?_
    refine Ls.ev (some 56) (Ev.subI (show Oper.op _ = Op.binOp BinOp.sub 3 (Operand.tmp 53) (Operand.tmp 55) 3 from rfl) (by rfl) (by rfl) (by omega)) (by rfl) (by rfl) ?_
    refine Ls.ev (some 9) (Ev.assign (show Oper.op _ = Op.assign (Operand.tmp 56) from rfl) (by rfl)) (by rfl) (by rfl) ?_
    refine Ls.nil ?_
    refine Cd.seq ?_
    refine Cd.region ?_
    refine Ls.ev (some 57) (Ev.move (show Oper.op _ = Op.move (Operand.tmp 8) from rfl) (by rfl)) (by rfl) (by rfl) ?_
    refine Ls.ev (some 58) (Ev.move (show Oper.op _ = Op.move (Operand.tmp 12) from rfl) (by rfl)) (by rfl) (by rfl) ?_
    refine Ls.ev (some 59) (Ev.len (show Oper.op _ = Op.call { callee := Callee.builtin Builtin.len, args := #[Operand.tmp 58], argTypes := #[46] } from rfl) (by rfl) Try.underlying46) (by rfl) (by rfl) ?_
    refine Ls.ev (some 60) (Ev.addI (show Oper.op _ = Op.binOp BinOp.add 3 (Operand.tmp 57) (Operand.tmp 59) 3 from rfl) (by rfl) (by rfl) (by omega)) (by rfl) (by rfl) ?_
    refine Ls.ev (some 8) (Ev.assign (show Oper.op _ = Op.assign (Operand.tmp 60) from rfl) (by rfl)) (by rfl) (by rfl) ?_
    refine Ls.nil ?_
    refine Cd.seq ?_
    refine Cd.seq ?_
    refine Cd.region ?_
    refine Ls.ev (some 61) (Ev.move (show Oper.op _ = Op.move (Operand.tmp 12) from rfl) (by rfl)) (by rfl) (by rfl) ?_
    refine Ls.ev (some 62) (Ev.len (show Oper.op _ = Op.call { callee := Callee.builtin Builtin.len, args := #[Operand.tmp 61], argTypes := #[46] } from rfl) (by rfl) Try.underlying46) (by rfl) (by rfl) ?_
    refine Ls.ev (some 63) (Ev.move (show Oper.op _ = Op.move (Operand.const (Value.int IntKind.i64 0)) from rfl) (by rfl)) (by rfl) (by rfl) ?_
    refine Ls.nil ?_
    have hk : ms.length ≤ 5 := by
      rcases Int.lt_or_le 0 (remT sent wt - max m 0) with h | h
      · have := (r1 h).2.2.2.2; have := (r1 h).2.2.1; omega
      · have := (r2 (by omega)).2; omega
    refine Cd.cut (ι := Unit) (fun _ => [(1, .slice T ts.length td), (2, .pointer (some ⟨g1, 0, none⟩)), (5, .pointer (some ⟨g, 0, none⟩)), (6, .pointer (some ⟨g2, 0, none⟩)), (7, .int .i64 0), (8, .int .i64 (sent + ms.length)), (9, .int .i64 (left - (if m < 0 then 0 else m))), (10, .int .i64 i)]) (fun _ => [stars (ms.map fun q : Option Addr × Nat => rd q.1 xs.length 1 (ints xs)), blk g 90 (callC 1001 1 (tickF 5 true sent wt m 0).1 (msg 1001 1 6 1 vb ep st q.1.1 xs.length q.1.2) (tickF 5 true sent wt m 0).2.1 (tickF 5 true sent wt m 0).2.2.1), rd q.1.1 xs.length 1 (ints xs), blk g2 41 (msg 1001 1 6 1 vb ep st q.2.1 xs.length q.2.2), rd q.2.1 xs.length 1 (ints xs), blk g1 27 [.int .i64 vb, .int .i64 ep, .int .i64 st, .slice B xs.length d], argc W, row a0 ms.length c0 41 19 (flatM 1001 1 6 1 vb ep st xs.length ms)]) (fun _ => True) ?_ ?_
    · skip
      refine Cd.block ?_
      refine Cd.loop (ι := Nat) (fun j => [(1, .slice T ts.length td), (2, .pointer (some ⟨g1, 0, none⟩)), (5, .pointer (some ⟨g, 0, none⟩)), (6, .pointer (some ⟨g2, 0, none⟩)), (7, .int .i64 0), (8, .int .i64 (sent + ms.length)), (9, .int .i64 (left - (if m < 0 then 0 else m))), (10, .int .i64 i), (61, .slice a0 ms.length c0), (62, .int .i64 ms.length), (63, .int .i64 j)]) (fun _ => [stars (ms.map fun q : Option Addr × Nat => rd q.1 xs.length 1 (ints xs)), blk g 90 (callC 1001 1 (tickF 5 true sent wt m 0).1 (msg 1001 1 6 1 vb ep st q.1.1 xs.length q.1.2) (tickF 5 true sent wt m 0).2.1 (tickF 5 true sent wt m 0).2.2.1), rd q.1.1 xs.length 1 (ints xs), blk g2 41 (msg 1001 1 6 1 vb ep st q.2.1 xs.length q.2.2), rd q.2.1 xs.length 1 (ints xs), blk g1 27 [.int .i64 vb, .int .i64 ep, .int .i64 st, .slice B xs.length d], argc W, row a0 ms.length c0 41 19 (flatM 1001 1 6 1 vb ep st xs.length ms)]) (fun j => j ≤ ms.length) (fun j => ms.length - j) (0) (Nat.zero_le _) ?_ rfl ?_
      · (repeat (first | exact trivial | refine ⟨by rfl, ?_⟩))
      intro j hj
      refine Cd.seq ?_
      refine Cd.region ?_
      refine Ls.ev (some 64) (Ev.lss (show Oper.op _ = Op.binOp BinOp.lss 3 (Operand.tmp 63) (Operand.tmp 62) 3 from rfl) (by rfl) (by rfl)) (by rfl) (by rfl) ?_
      refine Ls.nil ?_
      refine Cd.seq ?_
      refine Cd.cond _ (by rfl) (fun hlj => ?_) (fun hlj => ?_)
      · skip
        have hlj : j < ms.length := by have := of_decide_eq_true hlj; omega
        obtain ⟨q', hq'⟩ := get_of_lt hlj
        refine Ent.rowSome 7 (by rfl) (by omega) (fun ad had => ?_)
        subst had
        refine Cd.skip ?_
        refine Cd.seq ?_
        refine Cd.block ?_
        refine Cd.seq ?_
        refine Cd.region ?_
        refine Ls.ev (some 65) (Ev.indexAt (sz := 19) (show Oper.op _ = Op.indexAddr 46 (Operand.tmp 61) (Operand.tmp 63) from rfl) (by rfl) (by rfl) Try.underlying46 (by kernel_rfl) (by omega)) (by rfl) (by rfl) ?_
        refine Ls.ev (some 66) (Ev.loadEl (show Oper.op _ = Op.load 41 (Operand.tmp 65) from rfl) (by rfl) (ReadsIn.row 7 (by rfl)) (by kernel_rfl) (by intro _; rfl) (by assumption)) (by rfl) (by rfl) ?_
        refine Ls.does (some 14) (Does.alloc (cs := [.int .i64 0, .int .i64 0, .int .i64 0, .int .i64 0, .int .i64 0, .int .i64 0, .int .i64 0, .slice none 0 0, .slice none 0 0, .bool false, .int .i64 0, .int .i64 0, .int .i64 0, .int .i64 0, .slice none 0 0, .int .i64 0, .int .i64 0, .int .i64 0, .slice none 0 0]) (show Oper.op _ = Op.alloc 41 from rfl) (ZeroIs.mk (.agg #[.int .i64 0, .int .i64 0, .int .i64 0, .int .i64 0, .int .i64 0, .int .i64 0, .int .i64 0, .slice none 0 0, .slice none 0 0, .bool false, .int .i64 0, .int .i64 0, .int .i64 0, .int .i64 0, .slice none 0 0, .int .i64 0, .int .i64 0, .int .i64 0, .slice none 0 0]) (by kernel_rfl) (by rfl))) (by rfl) (by rfl) ?_
        intro g3 _
        refine Ls.does none (Does.store 0 (show Oper.op _ = Op.store 41 (Operand.tmp 14) (Operand.tmp 66) from rfl) (by rfl) (by rfl) (by rfl) (by kernel_rfl) (by rfl) (by kernel_rfl) (by rfl)) (by rfl) (by rfl) ?_
        intro _ _
        refine Ls.nil ?_
        refine Cd.seq ?_
        refine Cd.region ?_
        refine Ls.ev (some 67) (Ev.loads 0 (show Oper.op _ = Op.load 41 (Operand.tmp 14) from rfl) (by rfl) (by rfl) (n := 19) (by kernel_rfl) (by rfl) (by rfl)) (by rfl) (by rfl) ?_
        refine Ls.ev (some 68) (Ev.loads 4 (show Oper.op _ = Op.load 41 (Operand.tmp 6) from rfl) (by rfl) (by rfl) (n := 19) (by kernel_rfl) (by rfl) (by rfl)) (by rfl) (by rfl) ?_
        refine Ent.map (fun w h => h.stars_get (i := 1) rfl (List.mem_map_of_mem (List.mem_of_getElem? hq'))) ?_
        refine Ls.does (some 69) (Does.call [0, 6, 2, 3, 4, 5, 6, 7, 8, 9] (show Oper.op _ = Op.call { callee := Callee.value (Operand.func 13), args := #[Operand.tmp 67, Operand.tmp 68], argTypes := #[41, 41] } from rfl) Try.func13 (by kernel_rfl) (by kernel_rfl) (same_true 1001 1 6 1 vb ep st q'.1 q.2.1 q'.2 q.2.2 xs hn) (by rfl) (by rfl) (by rfl)) (by rfl) (by rfl) ?_
        intro _ _
        refine Ls.ev (some 70) (Ev.not (show Oper.op _ = Op.unOp UnOp.not 4 (Operand.tmp 69) from rfl) (by rfl)) (by rfl) (by rfl) ?_
        refine Ls.nil ?_
        refine Cd.cond_false (by rfl) (rfl) ?_
        refine Cd.skip ?_
        refine Cd.region ?_
        refine Ls.ev (some 71) (Ev.addI (show Oper.op _ = Op.binOp BinOp.add 3 (Operand.tmp 63) (Operand.const (Value.int IntKind.i64 1)) 3 from rfl) (by rfl) (by rfl) (by omega)) (by rfl) (by rfl) ?_
        refine Ls.ev (some 63) (Ev.move (show Oper.op _ = Op.move (Operand.tmp 71) from rfl) (by rfl)) (by rfl) (by rfl) ?_
        refine Ls.nil ?_
        refine Ent.inv (j + 1) ?_ ?_ ?_
        · (try dsimp only); exact ⟨by omega, by omega⟩
        · (repeat (first | exact trivial | refine ⟨by rfl, ?_⟩ | refine ⟨by simp only [List.length_append, List.length_cons, List.length_nil]; rfl, ?_⟩ | refine ⟨by push_cast; rfl, ?_⟩))
        · rfl
      · skip
        refine Cd.exit ?_
        refine Ent.inv (()) ?_ ?_ ?_
        · (try dsimp only); try trivial
        · (repeat (first | exact trivial | refine ⟨by rfl, ?_⟩ | refine ⟨by simp only [List.length_append, List.length_cons, List.length_nil]; rfl, ?_⟩ | refine ⟨by push_cast; rfl, ?_⟩))
        · rfl
    skip
    intro _ _
    obtain ⟨mx, hmx⟩ : ∃ v, v = if m < 0 then 0 else m := ⟨_, rfl⟩
    rw [← hmx]
    have hmx : mx = max m 0 := by
      rw [hmx]
      try omega
    rw [← hmx, e1] at r1 r2
    refine Cd.seq ?_
    refine Cd.region ?_
    refine Ls.ev (some 72) (Ev.move (show Oper.op _ = Op.move (Operand.tmp 5) from rfl) (by rfl)) (by rfl) (by rfl) ?_
    refine Ls.does (some 73) (Does.call [1, 2, 3, 4, 5, 6] (show Oper.op _ = Op.call { callee := Callee.value (Operand.func 14), args := #[Operand.tmp 72], argTypes := #[28] } from rfl) Try.func14 (by kernel_rfl) (by kernel_rfl) (busy_sl g 1001 1 _ 1001 1 6 1 vb ep st _ _ q.1.1 xs.length q.1.2) (by rfl) (by rfl) (by rfl)) (by rfl) (by rfl) ?_
    intro _ _
    refine Ls.ev (some 74) (Ev.move (show Oper.op _ = Op.move (Operand.tmp 9) from rfl) (by rfl)) (by rfl) (by rfl) ?_
    refine Ls.ev (some 75) (Ev.gtr (show Oper.op _ = Op.binOp BinOp.gtr 3 (Operand.tmp 74) (Operand.const (Value.int IntKind.i64 0)) 3 from rfl) (by rfl) (by rfl)) (by rfl) (by rfl) ?_
    refine Ls.ev (some 76) (Ev.neqB (show Oper.op _ = Op.binOp BinOp.neq 4 (Operand.tmp 73) (Operand.tmp 75) 4 from rfl) (by rfl) (by rfl) Try.underlying4) (by rfl) (by rfl) ?_
    refine Ls.nil ?_
    refine Cd.cond_false (by rfl) (by
      show (!((tickF 5 true sent wt m 0).1 == decide (0 < left - mx))) = false
      rcases Int.lt_or_le 0 (left - mx) with h | h
      · rw [(r1 h).1, decide_eq_true h]; rfl
      · rw [(r2 (by omega)).1, decide_eq_false (by omega)]; rfl) ?_
    refine Cd.skip ?_
    refine Cd.region ?_
    refine Ls.ev (some 33) (Ev.move (show Oper.op _ = Op.move (Operand.tmp 10) from rfl) (by rfl)) (by rfl) (by rfl) ?_
    refine Ls.ev (some 34) (Ev.addI (show Oper.op _ = Op.binOp BinOp.add 3 (Operand.tmp 33) (Operand.const (Value.int IntKind.i64 1)) 3 from rfl) (by rfl) (by rfl) (by omega)) (by rfl) (by rfl) ?_
    refine Ls.ev (some 10) (Ev.assign (show Oper.op _ = Op.assign (Operand.tmp 34) from rfl) (by rfl)) (by rfl) (by rfl) ?_
    refine Ls.nil ?_
    have hm3 : ¬ i < ts.length → mx = 1 := fun h => by have := hm1.2.2 (hn2 h); omega
    have hi4 : i + 1 ≤ ts.length ∨ ((i + 1 : Nat) : Int) + (left - mx) ≤ ts.length + 62 := by
      rcases Nat.lt_or_ge i ts.length with hx | hx
      · exact Or.inl hx
      · have := hm3 (by omega)
        right
        rcases h4 with h | h <;> omega
    have hmu : ts.length - (i + 1) + (left - mx).toNat < ts.length - i + left.toNat := by
      rcases Nat.lt_or_ge i ts.length with hx | hx
      · omega
      · have := hm3 (by omega); omega
    refine Ent.inv (⟨i + 1, (tickF 5 true sent wt m 0).1, (tickF 5 true sent wt m 0).2.1, (tickF 5 true sent wt m 0).2.2.1, left - mx, sent + ms.length⟩) ?_ ?_ ?_
    · (try dsimp only); exact ⟨⟨by omega, fun h => ⟨(r1 h).1, (r1 h).2.1, (r1 h).2.2.1, (r1 h).2.2.2.1, by have := (r1 h).2.2.2.2; omega⟩, fun h => ⟨(r2 h).1, by have := (r2 h).2; omega⟩, hi4⟩, hmu⟩
    · (repeat (first | exact trivial | refine ⟨by rfl, ?_⟩ | refine ⟨by simp only [List.length_append, List.length_cons, List.length_nil]; rfl, ?_⟩ | refine ⟨by push_cast; rfl, ?_⟩))
    · rfl
  · skip
    have hl : left = 0 := by have := of_decide_eq_false h; omega
    obtain ⟨rfl, rfl⟩ := h3 hl
    refine Cd.exit ?_
    refine Cd.seq ?_
    refine Cd.region ?_
    refine Ls.ev (some 78) (Ev.move (show Oper.op _ = Op.move (Operand.tmp 5) from rfl) (by rfl)) (by rfl) (by rfl) ?_
    refine Ls.ev (some 79) (Ev.loads 4 (show Oper.op _ = Op.load 27 (Operand.tmp 2) from rfl) (by rfl) (by rfl) (n := 4) (by kernel_rfl) (by rfl) (by rfl)) (by rfl) (by rfl) ?_
    refine Ent.arg 5 (by rfl) hr ?_
    refine Ls.does (some 80) (Does.call [1, 0] (show Oper.op _ = Op.call { callee := Callee.value (Operand.func 10), args := #[Operand.tmp 78, Operand.const (Value.int IntKind.i64 1), Operand.tmp 79], argTypes := #[28, 3, 27] } from rfl) Try.func10 (by kernel_rfl) (by kernel_rfl) (call_sl g 1001 1 1001 1 6 1 vb ep st tr wt 1 vb ep st q.1.1 B xs.length q.1.2 xs.length d xs hn (by decide)) (by rfl) (by rfl) (by rfl)) (by rfl) (by rfl) ?_
    intro s _
    refine Ls.ev (some 77) (Ev.move (show Oper.op _ = Op.move (Operand.tmp 80) from rfl) (by rfl)) (by rfl) (by rfl) ?_
    refine Ls.ev (some 81) (Ev.extract (show Oper.op _ = Op.extract (Operand.tmp 77) 0 from rfl) (by rfl) (by rfl)) (by rfl) (by rfl) ?_
    refine Ls.ev (some 82) (Ev.extract (show Oper.op _ = Op.extract (Operand.tmp 77) 1 from rfl) (by rfl) (by rfl)) (by rfl) (by rfl) ?_
    refine Ls.does (some 15) (Does.alloc (cs := [.int .i64 0, .int .i64 0, .int .i64 0, .int .i64 0, .int .i64 0, .int .i64 0, .int .i64 0, .slice none 0 0, .slice none 0 0, .bool false, .int .i64 0, .int .i64 0, .int .i64 0, .int .i64 0, .slice none 0 0, .int .i64 0, .int .i64 0, .int .i64 0, .slice none 0 0]) (show Oper.op _ = Op.alloc 41 from rfl) (ZeroIs.mk (.agg #[.int .i64 0, .int .i64 0, .int .i64 0, .int .i64 0, .int .i64 0, .int .i64 0, .int .i64 0, .slice none 0 0, .slice none 0 0, .bool false, .int .i64 0, .int .i64 0, .int .i64 0, .int .i64 0, .slice none 0 0, .int .i64 0, .int .i64 0, .int .i64 0, .slice none 0 0]) (by kernel_rfl) (by rfl))) (by rfl) (by rfl) ?_
    intro g3 _
    refine Ls.does none (Does.store 0 (show Oper.op _ = Op.store 41 (Operand.tmp 15) (Operand.tmp 81) from rfl) (by rfl) (by rfl) (by rfl) (by kernel_rfl) (by rfl) (by kernel_rfl) (by rfl)) (by rfl) (by rfl) ?_
    intro _ _
    refine Ls.ev (some 16) (Ev.assign (show Oper.op _ = Op.assign (Operand.tmp 82) from rfl) (by rfl)) (by rfl) (by rfl) ?_
    refine Ls.nil ?_
    refine Cd.seq ?_
    refine Cd.region ?_
    refine Ls.ev (some 83) (Ev.move (show Oper.op _ = Op.move (Operand.tmp 7) from rfl) (by rfl)) (by rfl) (by rfl) ?_
    refine Ls.ev (some 84) (Ev.eql (show Oper.op _ = Op.binOp BinOp.eql 37 (Operand.tmp 83) (Operand.const (Value.int IntKind.i64 0)) 37 from rfl) (by rfl) (by rfl)) (by rfl) (by rfl) ?_
    refine Ls.ev (some 85) (Ev.move (show Oper.op _ = Op.move (Operand.tmp 84) from rfl) (by rfl)) (by rfl) (by rfl) ?_
    refine Ls.ev (some 86) (Ev.move (show Oper.op _ = Op.move (Operand.tmp 8) from rfl) (by rfl)) (by rfl) (by rfl) ?_
    refine Ls.ev (some 87) (Ev.eql (show Oper.op _ = Op.binOp BinOp.eql 3 (Operand.tmp 86) (Operand.const (Value.int IntKind.i64 5)) 3 from rfl) (by rfl) (by rfl)) (by rfl) (by rfl) ?_
    refine Ls.ev (some 88) (Ev.pickT (show Oper.op _ = Op.pick (Operand.tmp 85) (Operand.tmp 87) (Operand.const (Value.bool false)) from rfl) (by rfl) (by rfl)) (by rfl) (by rfl) ?_
    refine Ls.ev (some 89) (Ev.move (show Oper.op _ = Op.move (Operand.tmp 88) from rfl) (by rfl)) (by rfl) (by rfl) ?_
    refine Ls.ev (some 90) (Ev.move (show Oper.op _ = Op.move (Operand.tmp 16) from rfl) (by rfl)) (by rfl) (by rfl) ?_
    refine Ls.ev (some 91) (Ev.eql (show Oper.op _ = Op.binOp BinOp.eql 37 (Operand.tmp 90) (Operand.const (Value.int IntKind.i64 0)) 37 from rfl) (by rfl) (by rfl)) (by rfl) (by rfl) ?_
    refine Ls.ev (some 92) (Ev.pickT (show Oper.op _ = Op.pick (Operand.tmp 89) (Operand.tmp 91) (Operand.const (Value.bool false)) from rfl) (by rfl) (by rfl)) (by rfl) (by rfl) ?_
    refine Ls.ev (some 93) (Ev.move (show Oper.op _ = Op.move (Operand.tmp 92) from rfl) (by rfl)) (by rfl) (by rfl) ?_
    refine Ls.ev (some 94) (Ev.move (show Oper.op _ = Op.move (Operand.tmp 5) from rfl) (by rfl)) (by rfl) (by rfl) ?_
    refine Ls.does (some 95) (Does.call [1, 2] (show Oper.op _ = Op.call { callee := Callee.value (Operand.func 15), args := #[Operand.tmp 94], argTypes := #[28] } from rfl) Try.func15 (by kernel_rfl) (by kernel_rfl) (id_sl g 1001 2 true 1001 1 6 2 vb ep st 1 2 s.1.1 xs.length s.1.2) (by rfl) (by rfl) (by rfl)) (by rfl) (by rfl) ?_
    intro _ _
    refine Ls.ev (some 96) (Ev.eql (show Oper.op _ = Op.binOp BinOp.eql 3 (Operand.tmp 95) (Operand.const (Value.int IntKind.i64 2)) 3 from rfl) (by rfl) (by rfl)) (by rfl) (by rfl) ?_
    refine Ls.ev (some 97) (Ev.pickT (show Oper.op _ = Op.pick (Operand.tmp 93) (Operand.tmp 96) (Operand.const (Value.bool false)) from rfl) (by rfl) (by rfl)) (by rfl) (by rfl) ?_
    refine Ls.ev (some 98) (Ev.move (show Oper.op _ = Op.move (Operand.tmp 97) from rfl) (by rfl)) (by rfl) (by rfl) ?_
    refine Ls.ev (some 99) (Ev.move (show Oper.op _ = Op.move (Operand.tmp 5) from rfl) (by rfl)) (by rfl) (by rfl) ?_
    refine Ls.does (some 100) (Does.call [0, 1] (show Oper.op _ = Op.call { callee := Callee.value (Operand.func 12), args := #[Operand.tmp 99, Operand.const (Value.int IntKind.i64 (-5))], argTypes := #[28, 3] } from rfl) Try.func12 (by kernel_rfl) (by kernel_rfl) (tick_sl g 1001 2 true 1001 1 6 2 vb ep st 1 2 (-5) s.1.1 xs.length s.1.2 xs hn (fun _ => by decide) (by decide)) (by rfl) (by rfl) (by rfl)) (by rfl) (by rfl) ?_
    rintro ⟨ao, ms⟩ hms
    obtain rfl : ms = [] := List.length_eq_zero_iff.1 (hms.trans (by decide))
    refine Ls.ev (some 101) (Ev.len (show Oper.op _ = Op.call { callee := Callee.builtin Builtin.len, args := #[Operand.tmp 100], argTypes := #[46] } from rfl) (by rfl) Try.underlying46) (by rfl) (by rfl) ?_
    refine Ls.ev (some 102) (Ev.eql (show Oper.op _ = Op.binOp BinOp.eql 3 (Operand.tmp 101) (Operand.const (Value.int IntKind.i64 0)) 3 from rfl) (by rfl) (by rfl)) (by rfl) (by rfl) ?_
    refine Ls.ev (some 103) (Ev.pickT (show Oper.op _ = Op.pick (Operand.tmp 98) (Operand.tmp 102) (Operand.const (Value.bool false)) from rfl) (by rfl) (by rfl)) (by rfl) (by rfl) ?_
    refine Ls.ev (some 4) (Ev.assign (show Oper.op _ = Op.assign (Operand.tmp 103) from rfl) (by rfl)) (by rfl) (by rfl) ?_
    refine Ls.nil ?_
    refine Cd.ret ?_
    refine Ent.ret (()) (trivial) (Res.tmp (by rfl) (by rfl)) ?_ [] (by rfl) ?_
    · rfl
    · rfl
theorem ends_vals (W : World) (args : Array Value) (hv : Vals Try.prog W [27, 23] args.toList) (_ : Smalls Try.prog [27, 23] args.toList) :
    Calls Try.prog 3 args W fun e W' => e = .returned (.bool true) ∧ Below W.heap.size W W' := by
  obtain ⟨v0, r0, e0, h0, v1, r1, rfl, h1, rfl⟩ := hv
  obtain rfl : args = #[v0, v1] := by cases args; simp_all
  obtain ⟨cs, n, rfl, hc⟩ := val_celS Try.underlying27 h0
  obtain ⟨⟨vb, ep, ⟨st, A, c, xs⟩⟩, hcs, ⟨_, _, _, hr, _, hl⟩⟩ := cel_calla _ _ hc
  obtain rfl : cs = #[.int .i64 vb, .int .i64 ep, .int .i64 st, .slice A xs.length c] := by
    apply Array.ext'
    exact hcs
  obtain ⟨B, d, ids, rfl, hr2, _, hn⟩ := val_ints Try.underlying23 Try.underlying3 (by kernel_rfl) (by kernel_rfl) h1
  exact Fn.law (ends_sl W vb ep st A c xs hl hr B d ids hn hr2)

set_option maxRecDepth 100000 in
theorem ends_lifted (os : Os) (started : os.Started) (H : Type) (enc : TypeId × Value → H) (F : Stop.Interp) :
    ReturnsInHanded {} Try.checked os 3 .any ((Rows.OpenSpec.upto Rows.rpcEndsSpec).pre6 enc Try.prog Try.f3 Rows.rpcEndsUptoRow.domain false) (((Rows.OpenSpec.upto Rows.rpcEndsSpec).at F).post enc Try.prog Try.f3 false true false false) :=
  lift_upto (C := Try.checked) #[27, 23] (by kernel_rfl) (by kernel_rfl) started (by kernel_rfl) Try.func3
    (OpenSpec.witness (enc := enc) (C := Try.checked) (s := Rows.OpenSpec.upto Rows.rpcEndsSpec) (k := Rows.uptoSmall) rfl false ⟨#[], #[.agg #[.int .i64 0, .int .i64 0, .int .i64 0, .slice none 0 0], .slice none 0 0], []⟩ 8 (by kernel_rfl) (by kernel_rfl) (by kernel_rfl)
      (x := ([.agg [.lit (.int .i64 0), .lit (.int .i64 0), .agg [.lit (.int .i64 0), .nil]], .nil], [], [])) (by kernel_rfl) rfl (by kernel_rfl))
    Try.params3 (by kernel_rfl) rfl rfl Try.underlying4 (fun ds hl => match ds, hl with | [_, _], _ => rfl) (fun W args hv hs => ends_vals W args hv hs)

theorem ends_holds : Rows.RpcEndsUptoSaid :=
  OpenClaim.holds_of_cond 3 Try.f3 rfl rfl rfl rfl rfl rfl rfl ⟨rfl, rfl, rfl, rfl, rfl⟩ rfl rfl rfl rfl rfl (by kernel_rfl) Try.func3 (by kernel_rfl)
    (of_decide_eq_true (by kernel_rfl)) (by unfold Func.isWrapper; rw [if_neg (of_decide_eq_false (by kernel_rfl))]; exact ⟨rfl, rfl⟩)
    (fun os started H enc _ F => ends_lifted os started H enc F)

end Go.Proofs.Ytgidkjfakecniaa
