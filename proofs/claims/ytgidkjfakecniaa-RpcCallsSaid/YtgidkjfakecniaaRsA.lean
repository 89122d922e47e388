/- rpc over pieces: Clone, own, New, Busy, ID, sent, Call -/
import Derived.Test.YtgidkjfakecniaaSlE
import Derived.Test.YtgidkjfakecniaaLibI
import Derived.Test.YtgidkjfakecniaaProg
namespace Go.Proofs.Ytgidkjfakecniaa
open Go.RowKit
theorem elem_int : Elem Try.prog 23 3 1 8 := elem_of (by kernel_rfl)

theorem one_ints (xs : List Int) : ∀ u ∈ ints xs, u.oneCell' = true := fun u hu => by
  simp only [ints, List.mem_map] at hu
  obtain ⟨x, _, rfl⟩ := hu
  rfl
theorem clone_sl (A : Option Addr) (n c : Nat) (xs : List Int) (hn : n ≤ 17592186044415) :
    Fn Try.prog 38 #[.slice A n c] [rd A n 1 (ints xs)] (Option Addr × Nat) (fun p => .slice p.1 n p.2) (fun p => [row p.1 n p.2 3 1 (ints xs)]) (fun _ => True) := by
  refine Fn.enter Try.func38 rfl Try.ntmps38 (by rfl) ?_
  intro w0
  refine Cd.seq ?_
  refine Cd.region ?_
  refine Ls.ev (some 2) (Ev.assign (show Oper.op _ = Op.assign (Operand.const (Value.slice none 0 0)) from rfl) (by rfl)) (by rfl) (by rfl) ?_
  refine Ls.nil ?_
  refine Cd.seq ?_
  refine Cd.seq ?_
  refine Cd.region ?_
  refine Ls.ev (some 3) (Ev.move (show Oper.op _ = Op.move (Operand.tmp 0) from rfl) (by rfl)) (by rfl) (by rfl) ?_
  refine Ls.ev (some 4) (Ev.isNil (show Oper.op _ = Op.binOp BinOp.eql 23 (Operand.tmp 3) (Operand.const (Value.slice none 0 0)) 23 from rfl) (by rfl) (by rfl) Try.underlying23) (by rfl) (by rfl) ?_
  refine Ls.nil ?_
  refine Cd.cond _ (by rfl) (fun h => ?_) (fun h => ?_)
  · skip
    refine Cd.seq ?_
    refine Cd.region ?_
    refine Ls.ev (some 2) (Ev.assign (show Oper.op _ = Op.assign (Operand.const (Value.slice none 0 0)) from rfl) (by rfl)) (by rfl) (by rfl) ?_
    refine Ls.nil ?_
    have hA : A = none := by simpa using h
    subst hA
    refine Ent.fact 0 (by rfl) (p := n = 0 ∧ xs = []) (fun w hw => ?_) ?_
    · have h0 : n = 0 := by
        rcases Nat.eq_zero_or_pos n with h | h
        · exact h
        · obtain ⟨_, h, _⟩ := hw.2 h; cases h
      subst h0
      exact ⟨rfl, by simpa [ints] using hw.1⟩
    rintro ⟨rfl, rfl⟩
    refine Ent.nil 3 1 ?_
    refine Cd.ret ?_
    refine Ent.ret ((none, 0)) (trivial) (Res.tmp (by rfl) (by rfl)) ?_ [0] (by rfl) ?_
    · rfl
    · rfl
  · skip
    refine Cd.skip ?_
    refine Cd.seq ?_
    refine Cd.region ?_
    refine Ls.does (some 5) (Does.lit0 (sz := 1) (show Oper.op _ = Op.buildSlice 23 0 #[] from rfl) Try.underlying23 (by kernel_rfl)) (by rfl) (by rfl) ?_
    intro g1 _
    refine Ls.ev (some 6) (Ev.move (show Oper.op _ = Op.move (Operand.tmp 0) from rfl) (by rfl)) (by rfl) (by rfl) ?_
    refine Ls.does (some 7) (Does.app 0 (show Oper.op _ = Op.call { callee := Callee.builtin Builtin.append, args := #[Operand.tmp 5, Operand.tmp 6], argTypes := #[23, 23] } from rfl) (by rfl) (by rfl) (by rfl) (ReadsIn.rd 1 (by rfl)) elem_int (one_ints xs) (by omega)) (by rfl) (by rfl) ?_
    intro p _
    refine Ls.ev (some 2) (Ev.assign (show Oper.op _ = Op.assign (Operand.tmp 7) from rfl) (by rfl)) (by rfl) (by rfl) ?_
    refine Ls.nil ?_
    refine Cd.ret ?_
    refine Ent.ret (p) (trivial) (Res.tmp (by rfl) (by rfl)) ?_ [0] (by rfl) ?_
    · rw [Nat.zero_add]
    · simp only [Nat.zero_add, List.nil_append]
      rfl

theorem own_sl (st : Int) (A : Option Addr) (n c : Nat) (xs : List Int) (hn : n ≤ 17592186044415) :
    Fn Try.prog 33 #[.agg #[.int .i64 st, .slice A n c]] [rd A n 1 (ints xs)] (Option Addr × Nat) (fun p => .agg #[.int .i64 st, .slice p.1 n p.2]) (fun p => [row p.1 n p.2 3 1 (ints xs)]) (fun _ => True) := by
  refine Fn.enter Try.func33 rfl Try.ntmps33 (by rfl) ?_
  intro w0
  refine Cd.seq ?_
  refine Cd.region ?_
  refine Ls.does (some 1) (Does.box (show Oper.op _ = Op.box 25 (Operand.tmp 0) from rfl) (by rfl)) (by rfl) (by rfl) ?_
  intro g1 _
  refine Ls.does (some 2) (Does.alloc (cs := [.int .i64 0, .slice none 0 0]) (show Oper.op _ = Op.alloc 25 from rfl) (ZeroIs.mk (.agg #[.int .i64 0, .slice none 0 0]) (by kernel_rfl) (by rfl))) (by rfl) (by rfl) ?_
  intro g2 _
  refine Ls.nil ?_
  refine Cd.seq ?_
  refine Cd.region ?_
  refine Ls.ev (some 3) (Ev.fieldAddr (k := 1) (show Oper.op _ = Op.fieldAddr 25 (Operand.tmp 1) 1 from rfl) (by rfl) (by kernel_rfl) (by rfl)) (by rfl) (by rfl) ?_
  refine Ls.ev (some 4) (Ev.load 1 (show Oper.op _ = Op.load 23 (Operand.tmp 3) from rfl) (by rfl) (by rfl) (by kernel_rfl) (by rfl)) (by rfl) (by rfl) ?_
  refine Ls.does (some 5) (Does.call [2, 0, 1] (show Oper.op _ = Op.call { callee := Callee.value (Operand.func 38), args := #[Operand.tmp 4], argTypes := #[23] } from rfl) Try.func38 (by kernel_rfl) (by kernel_rfl) (clone_sl A n c xs hn) (by rfl) (by rfl) (by rfl)) (by rfl) (by rfl) ?_
  intro p _
  refine Ls.ev (some 6) (Ev.fieldAddr (k := 1) (show Oper.op _ = Op.fieldAddr 25 (Operand.tmp 1) 1 from rfl) (by rfl) (by kernel_rfl) (by rfl)) (by rfl) (by rfl) ?_
  refine Ls.does none (Does.store 2 (show Oper.op _ = Op.store 23 (Operand.tmp 6) (Operand.tmp 5) from rfl) (by rfl) (by rfl) (by rfl) (by kernel_rfl) (by rfl) (by kernel_rfl) (by rfl)) (by rfl) (by rfl) ?_
  intro _ _
  refine Ls.nil ?_
  refine Cd.seq ?_
  refine Cd.region ?_
  refine Ls.ev (some 7) (Ev.loads 2 (show Oper.op _ = Op.load 25 (Operand.tmp 1) from rfl) (by rfl) (by rfl) (n := 2) (by kernel_rfl) (by rfl) (by rfl)) (by rfl) (by rfl) ?_
  refine Ls.does none (Does.store 1 (show Oper.op _ = Op.store 25 (Operand.tmp 2) (Operand.tmp 7) from rfl) (by rfl) (by rfl) (by rfl) (by kernel_rfl) (by rfl) (by kernel_rfl) (by rfl)) (by rfl) (by rfl) ?_
  intro _ _
  refine Ls.nil ?_
  refine Cd.ret ?_
  refine Ent.ret (p) (trivial) (Res.cell 1 (by rfl) (by rfl) (by rfl) (n := 2) (by kernel_rfl) (by rfl) (by rfl)) ?_ [0] (by rfl) ?_
  · rfl
  · rfl

/-- A message that a caller makes. -/
def msg (fr to kd id vb ep st : Int) (A : Option Addr) (n c : Nat) : List Value :=
  [.int .i64 fr, .int .i64 to, .int .i64 kd, .int .i64 0, .int .i64 0, .int .i64 0, .int .i64 0, .slice none 0 0, .slice none 0 0, .bool false, .int .i64 id, .int .i64 vb, .int .i64 ep, .int .i64 st, .slice A n c, .int .i64 0, .int .i64 0, .int .i64 0, .slice none 0 0]
/-- A caller's block. -/
def callC (fr id : Int) (b : Bool) (m : List Value) (tr wt : Int) : List Value := .int .i64 fr :: .int .i64 id :: .bool b :: (m ++ [.int .i64 tr, .int .i64 wt])

theorem new_sl (fr : Int) : Fn Try.prog 8 #[.int .i64 fr] [] Nat (fun g => .pointer (some ⟨g, 0, none⟩)) (fun g => [blk g 90 (callC fr 0 false (msg 0 0 0 0 0 0 0 none 0 0) 0 0)]) (fun _ => True) := by
  refine Fn.enter Try.func8 rfl Try.ntmps8 (by rfl) ?_
  intro w0
  refine Cd.seq ?_
  refine Cd.region ?_
  refine Ls.ev (some 2) (Ev.assign (show Oper.op _ = Op.assign (Operand.const (Value.pointer none)) from rfl) (by rfl)) (by rfl) (by rfl) ?_
  refine Ls.nil ?_
  refine Cd.seq ?_
  refine Cd.region ?_
  refine Ls.ev (some 3) (Ev.move (show Oper.op _ = Op.move (Operand.tmp 0) from rfl) (by rfl)) (by rfl) (by rfl) ?_
  refine Ls.ev (some 4) (Ev.buildP (pl := [(0, 1), (1, 1), (2, 1), (3, 19), (22, 1), (23, 1)]) (zs := [.int .i64 0, .int .i64 0, .bool false, .int .i64 0, .int .i64 0, .int .i64 0, .int .i64 0, .int .i64 0, .int .i64 0, .int .i64 0, .slice none 0 0, .slice none 0 0, .bool false, .int .i64 0, .int .i64 0, .int .i64 0, .int .i64 0, .slice none 0 0, .int .i64 0, .int .i64 0, .int .i64 0, .slice none 0 0, .int .i64 0, .int .i64 0]) (show Oper.op _ = Op.build 90 #[(0, Operand.tmp 3)] from rfl) (by rfl) (by kernel_rfl) (by rfl)) (by rfl) (by rfl) ?_
  refine Ls.does (some 5) (Does.box (show Oper.op _ = Op.box 90 (Operand.tmp 4) from rfl) (by rfl)) (by rfl) (by rfl) ?_
  intro g1 _
  refine Ls.ev (some 2) (Ev.assign (show Oper.op _ = Op.assign (Operand.tmp 5) from rfl) (by rfl)) (by rfl) (by rfl) ?_
  refine Ls.nil ?_
  refine Cd.ret ?_
  refine Ent.ret (g1) (trivial) (Res.tmp (by rfl) (by rfl)) ?_ [0] (by rfl) ?_
  · rfl
  · rfl
theorem busy_sl (g : Nat) (fr id : Int) (b : Bool) (f0 to kd i0 vb ep st tr wt : Int) (A : Option Addr) (n c : Nat) : Fn Try.prog 14 #[.pointer (some ⟨g, 0, none⟩)] [blk g 90 (callC fr id b (msg f0 to kd i0 vb ep st A n c) tr wt)] Unit (fun _ => .bool b) (fun _ => [blk g 90 (callC fr id b (msg f0 to kd i0 vb ep st A n c) tr wt)]) (fun _ => True) := by
  refine Fn.enter Try.func14 rfl Try.ntmps14 (by rfl) ?_
  intro w0
  refine Cd.seq ?_
  refine Cd.region ?_
  refine Ls.ev (some 2) (Ev.assign (show Oper.op _ = Op.assign (Operand.const (Value.bool false)) from rfl) (by rfl)) (by rfl) (by rfl) ?_
  refine Ls.nil ?_
  refine Cd.seq ?_
  refine Cd.region ?_
  refine Ls.ev (some 3) (Ev.move (show Oper.op _ = Op.move (Operand.tmp 0) from rfl) (by rfl)) (by rfl) (by rfl) ?_
  refine Ls.ev (some 4) (Ev.nilCheck (show Oper.op _ = Op.nilCheck (Operand.tmp 3) from rfl) (by rfl)) (by rfl) (by rfl) ?_
  refine Ls.ev (some 5) (Ev.fieldAddr (k := 2) (show Oper.op _ = Op.fieldAddr 90 (Operand.tmp 4) 2 from rfl) (by rfl) (by kernel_rfl) (by rfl)) (by rfl) (by rfl) ?_
  refine Ls.ev (some 6) (Ev.load 0 (show Oper.op _ = Op.load 4 (Operand.tmp 5) from rfl) (by rfl) (by rfl) (by kernel_rfl) (by rfl)) (by rfl) (by rfl) ?_
  refine Ls.ev (some 2) (Ev.assign (show Oper.op _ = Op.assign (Operand.tmp 6) from rfl) (by rfl)) (by rfl) (by rfl) ?_
  refine Ls.nil ?_
  refine Cd.ret ?_
  refine Ent.ret (()) (trivial) (Res.tmp (by rfl) (by rfl)) ?_ [0] (by rfl) ?_
  · rfl
  · rfl
theorem id_sl (g : Nat) (fr id : Int) (b : Bool) (f0 to kd i0 vb ep st tr wt : Int) (A : Option Addr) (n c : Nat) : Fn Try.prog 15 #[.pointer (some ⟨g, 0, none⟩)] [blk g 90 (callC fr id b (msg f0 to kd i0 vb ep st A n c) tr wt)] Unit (fun _ => .int .i64 id) (fun _ => [blk g 90 (callC fr id b (msg f0 to kd i0 vb ep st A n c) tr wt)]) (fun _ => True) := by
  refine Fn.enter Try.func15 rfl Try.ntmps15 (by rfl) ?_
  intro w0
  refine Cd.seq ?_
  refine Cd.region ?_
  refine Ls.ev (some 2) (Ev.assign (show Oper.op _ = Op.assign (Operand.const (Value.int IntKind.i64 0)) from rfl) (by rfl)) (by rfl) (by rfl) ?_
  refine Ls.nil ?_
  refine Cd.seq ?_
  refine Cd.region ?_
  refine Ls.ev (some 3) (Ev.move (show Oper.op _ = Op.move (Operand.tmp 0) from rfl) (by rfl)) (by rfl) (by rfl) ?_
  refine Ls.ev (some 4) (Ev.nilCheck (show Oper.op _ = Op.nilCheck (Operand.tmp 3) from rfl) (by rfl)) (by rfl) (by rfl) ?_
  refine Ls.ev (some 5) (Ev.fieldAddr (k := 1) (show Oper.op _ = Op.fieldAddr 90 (Operand.tmp 4) 1 from rfl) (by rfl) (by kernel_rfl) (by rfl)) (by rfl) (by rfl) ?_
  refine Ls.ev (some 6) (Ev.load 0 (show Oper.op _ = Op.load 3 (Operand.tmp 5) from rfl) (by rfl) (by rfl) (by kernel_rfl) (by rfl)) (by rfl) (by rfl) ?_
  refine Ls.ev (some 2) (Ev.assign (show Oper.op _ = Op.assign (Operand.tmp 6) from rfl) (by rfl)) (by rfl) (by rfl) ?_
  refine Ls.nil ?_
  refine Cd.ret ?_
  refine Ent.ret (()) (trivial) (Res.tmp (by rfl) (by rfl)) ?_ [0] (by rfl) ?_
  · rfl
  · rfl
theorem sent_sl (g : Nat) (fr id : Int) (b : Bool) (f0 to kd i0 vb ep st tr wt : Int) (A : Option Addr) (n c : Nat) (xs : List Int) (hn : n ≤ 17592186044415) :
    Fn Try.prog 34 #[.pointer (some ⟨g, 0, none⟩)] [blk g 90 (callC fr id b (msg f0 to kd i0 vb ep st A n c) tr wt), rd A n 1 (ints xs)] (Option Addr × Nat) (fun p => .agg (msg f0 to kd i0 vb ep st p.1 n p.2).toArray)
      (fun p => [blk g 90 (callC fr id b (msg f0 to kd i0 vb ep st A n c) tr wt), row p.1 n p.2 3 1 (ints xs)]) (fun _ => True) := by
  refine Fn.enter Try.func34 rfl Try.ntmps34 (by rfl) ?_
  intro w0
  refine Cd.seq ?_
  refine Cd.region ?_
  refine Ls.does (some 2) (Does.alloc (cs := [.int .i64 0, .int .i64 0, .int .i64 0, .int .i64 0, .int .i64 0, .int .i64 0, .int .i64 0, .slice none 0 0, .slice none 0 0, .bool false, .int .i64 0, .int .i64 0, .int .i64 0, .int .i64 0, .slice none 0 0, .int .i64 0, .int .i64 0, .int .i64 0, .slice none 0 0]) (show Oper.op _ = Op.alloc 41 from rfl) (ZeroIs.mk (.agg #[.int .i64 0, .int .i64 0, .int .i64 0, .int .i64 0, .int .i64 0, .int .i64 0, .int .i64 0, .slice none 0 0, .slice none 0 0, .bool false, .int .i64 0, .int .i64 0, .int .i64 0, .int .i64 0, .slice none 0 0, .int .i64 0, .int .i64 0, .int .i64 0, .slice none 0 0]) (by kernel_rfl) (by rfl))) (by rfl) (by rfl) ?_
  intro g1 _
  refine Ls.nil ?_
  refine Cd.seq ?_
  refine Cd.region ?_
  refine Ls.ev (some 4) (Ev.move (show Oper.op _ = Op.move (Operand.tmp 0) from rfl) (by rfl)) (by rfl) (by rfl) ?_
  refine Ls.ev (some 5) (Ev.nilCheck (show Oper.op _ = Op.nilCheck (Operand.tmp 4) from rfl) (by rfl)) (by rfl) (by rfl) ?_
  refine Ls.ev (some 6) (Ev.fieldAddr (k := 3) (show Oper.op _ = Op.fieldAddr 90 (Operand.tmp 5) 3 from rfl) (by rfl) (by kernel_rfl) (by rfl)) (by rfl) (by rfl) ?_
  refine Ls.ev (some 7) (Ev.loads 1 (show Oper.op _ = Op.load 41 (Operand.tmp 6) from rfl) (by rfl) (by rfl) (n := 19) (by kernel_rfl) (by rfl) (by rfl)) (by rfl) (by rfl) ?_
  refine Ls.does (some 3) (Does.alloc (cs := [.int .i64 0, .int .i64 0, .int .i64 0, .int .i64 0, .int .i64 0, .int .i64 0, .int .i64 0, .slice none 0 0, .slice none 0 0, .bool false, .int .i64 0, .int .i64 0, .int .i64 0, .int .i64 0, .slice none 0 0, .int .i64 0, .int .i64 0, .int .i64 0, .slice none 0 0]) (show Oper.op _ = Op.alloc 41 from rfl) (ZeroIs.mk (.agg #[.int .i64 0, .int .i64 0, .int .i64 0, .int .i64 0, .int .i64 0, .int .i64 0, .int .i64 0, .slice none 0 0, .slice none 0 0, .bool false, .int .i64 0, .int .i64 0, .int .i64 0, .int .i64 0, .slice none 0 0, .int .i64 0, .int .i64 0, .int .i64 0, .slice none 0 0]) (by kernel_rfl) (by rfl))) (by rfl) (by rfl) ?_
  intro g2 _
  refine Ls.does none (Does.store 0 (show Oper.op _ = Op.store 41 (Operand.tmp 3) (Operand.tmp 7) from rfl) (by rfl) (by rfl) (by rfl) (by kernel_rfl) (by rfl) (by kernel_rfl) (by rfl)) (by rfl) (by rfl) ?_
  intro _ _
  refine Ls.nil ?_
  refine Cd.seq ?_
  refine Cd.region ?_
  refine Ls.ev (some 8) (Ev.fieldAddr (k := 11) (show Oper.op _ = Op.fieldAddr 41 (Operand.tmp 3) 7 from rfl) (by rfl) (by kernel_rfl) (by rfl)) (by rfl) (by rfl) ?_
  refine Ls.ev (some 9) (Ev.fieldAddr (k := 2) (show Oper.op _ = Op.fieldAddr 27 (Operand.tmp 8) 2 from rfl) (by rfl) (by kernel_rfl) (by rfl)) (by rfl) (by rfl) ?_
  refine Ls.ev (some 10) (Ev.loads 0 (show Oper.op _ = Op.load 25 (Operand.tmp 9) from rfl) (by rfl) (by rfl) (n := 2) (by kernel_rfl) (by rfl) (by rfl)) (by rfl) (by rfl) ?_
  refine Ls.does (some 11) (Does.call [3, 0, 1, 2] (show Oper.op _ = Op.call { callee := Callee.value (Operand.func 33), args := #[Operand.tmp 10], argTypes := #[25] } from rfl) Try.func33 (by kernel_rfl) (by kernel_rfl) (own_sl st A n c xs hn) (by rfl) (by rfl) (by rfl)) (by rfl) (by rfl) ?_
  intro p _
  refine Ls.ev (some 12) (Ev.fieldAddr (k := 11) (show Oper.op _ = Op.fieldAddr 41 (Operand.tmp 3) 7 from rfl) (by rfl) (by kernel_rfl) (by rfl)) (by rfl) (by rfl) ?_
  refine Ls.ev (some 13) (Ev.fieldAddr (k := 2) (show Oper.op _ = Op.fieldAddr 27 (Operand.tmp 12) 2 from rfl) (by rfl) (by kernel_rfl) (by rfl)) (by rfl) (by rfl) ?_
  refine Ls.does none (Does.store 1 (show Oper.op _ = Op.store 25 (Operand.tmp 13) (Operand.tmp 11) from rfl) (by rfl) (by rfl) (by rfl) (by kernel_rfl) (by rfl) (by kernel_rfl) (by rfl)) (by rfl) (by rfl) ?_
  intro _ _
  refine Ls.nil ?_
  refine Cd.seq ?_
  refine Cd.region ?_
  refine Ls.ev (some 14) (Ev.loads 1 (show Oper.op _ = Op.load 41 (Operand.tmp 3) from rfl) (by rfl) (by rfl) (n := 19) (by kernel_rfl) (by rfl) (by rfl)) (by rfl) (by rfl) ?_
  refine Ls.does none (Does.store 2 (show Oper.op _ = Op.store 41 (Operand.tmp 2) (Operand.tmp 14) from rfl) (by rfl) (by rfl) (by rfl) (by kernel_rfl) (by rfl) (by kernel_rfl) (by rfl)) (by rfl) (by rfl) ?_
  intro _ _
  refine Ls.nil ?_
  refine Cd.ret ?_
  refine Ent.ret (p) (trivial) (Res.cell 2 (by rfl) (by rfl) (by rfl) (n := 19) (by kernel_rfl) (by rfl) (by rfl)) ?_ [3, 0] (by rfl) ?_
  · rfl
  · rfl
theorem call_busy (g : Nat) (fr id : Int) (f0 to0 kd i0 vb0 ep0 st0 tr wt to vb ep st : Int) (A0 A : Option Addr) (n0 c0 n c : Nat) :
    Fn Try.prog 10 #[.pointer (some ⟨g, 0, none⟩), .int .i64 to, .agg #[.int .i64 vb, .int .i64 ep, .int .i64 st, .slice A n c]] [blk g 90 (callC fr id true (msg f0 to0 kd i0 vb0 ep0 st0 A0 n0 c0) tr wt)] Unit (fun _ => .tuple #[.agg (msg 0 0 0 0 0 0 0 none 0 0).toArray, .int .i64 8])
      (fun _ => [blk g 90 (callC fr id true (msg f0 to0 kd i0 vb0 ep0 st0 A0 n0 c0) tr wt)]) (fun _ => True) := by
  refine Fn.enter Try.func10 rfl Try.ntmps10 (by rfl) ?_
  intro w0
  refine Cd.seq ?_
  refine Cd.region ?_
  refine Ls.does (some 5) (Does.box (show Oper.op _ = Op.box 27 (Operand.tmp 2) from rfl) (by rfl)) (by rfl) (by rfl) ?_
  intro g1 _
  refine Ls.does (some 6) (Does.alloc (cs := [.int .i64 0, .int .i64 0, .int .i64 0, .int .i64 0, .int .i64 0, .int .i64 0, .int .i64 0, .slice none 0 0, .slice none 0 0, .bool false, .int .i64 0, .int .i64 0, .int .i64 0, .int .i64 0, .slice none 0 0, .int .i64 0, .int .i64 0, .int .i64 0, .slice none 0 0]) (show Oper.op _ = Op.alloc 41 from rfl) (ZeroIs.mk (.agg #[.int .i64 0, .int .i64 0, .int .i64 0, .int .i64 0, .int .i64 0, .int .i64 0, .int .i64 0, .slice none 0 0, .slice none 0 0, .bool false, .int .i64 0, .int .i64 0, .int .i64 0, .int .i64 0, .slice none 0 0, .int .i64 0, .int .i64 0, .int .i64 0, .slice none 0 0]) (by kernel_rfl) (by rfl))) (by rfl) (by rfl) ?_
  intro g2 _
  refine Ls.ev (some 7) (Ev.assign (show Oper.op _ = Op.assign (Operand.const (Value.int IntKind.i64 0)) from rfl) (by rfl)) (by rfl) (by rfl) ?_
  refine Ls.nil ?_
  refine Cd.seq ?_
  refine Cd.seq ?_
  refine Cd.region ?_
  refine Ls.ev (some 8) (Ev.move (show Oper.op _ = Op.move (Operand.tmp 0) from rfl) (by rfl)) (by rfl) (by rfl) ?_
  refine Ls.ev (some 9) (Ev.nilCheck (show Oper.op _ = Op.nilCheck (Operand.tmp 8) from rfl) (by rfl)) (by rfl) (by rfl) ?_
  refine Ls.ev (some 10) (Ev.fieldAddr (k := 2) (show Oper.op _ = Op.fieldAddr 90 (Operand.tmp 9) 2 from rfl) (by rfl) (by kernel_rfl) (by rfl)) (by rfl) (by rfl) ?_
  refine Ls.ev (some 11) (Ev.load 2 (show Oper.op _ = Op.load 4 (Operand.tmp 10) from rfl) (by rfl) (by rfl) (by kernel_rfl) (by rfl)) (by rfl) (by rfl) ?_
  refine Ls.nil ?_
  refine Cd.cond_true (by rfl) (rfl) ?_
  refine Cd.seq ?_
  refine Cd.region ?_
  refine Ls.ev (some 12) (Ev.buildP (pl := [(0, 1), (1, 1), (2, 1), (3, 3), (6, 3), (9, 1), (10, 1), (11, 4), (15, 4)]) (zs := [.int .i64 0, .int .i64 0, .int .i64 0, .int .i64 0, .int .i64 0, .int .i64 0, .int .i64 0, .slice none 0 0, .slice none 0 0, .bool false, .int .i64 0, .int .i64 0, .int .i64 0, .int .i64 0, .slice none 0 0, .int .i64 0, .int .i64 0, .int .i64 0, .slice none 0 0]) (show Oper.op _ = Op.build 41 #[] from rfl) (by rfl) (by kernel_rfl) (by rfl)) (by rfl) (by rfl) ?_
  refine Ls.does none (Does.store 0 (show Oper.op _ = Op.store 41 (Operand.tmp 6) (Operand.tmp 12) from rfl) (by rfl) (by rfl) (by rfl) (by kernel_rfl) (by rfl) (by kernel_rfl) (by rfl)) (by rfl) (by rfl) ?_
  intro _ _
  refine Ls.ev (some 7) (Ev.assign (show Oper.op _ = Op.assign (Operand.const (Value.int IntKind.i64 8)) from rfl) (by rfl)) (by rfl) (by rfl) ?_
  refine Ls.nil ?_
  refine Cd.ret ?_
  refine Ent.ret (()) (trivial) (Res.cell_tmp 0 (by rfl) (by rfl) (by rfl) (n := 19) (by kernel_rfl) (by rfl) (by rfl) (by rfl)) ?_ [2] (by rfl) ?_
  · rfl
  · rfl
theorem call_sl (g : Nat) (fr id : Int) (f0 to0 kd i0 vb0 ep0 st0 tr wt to vb ep st : Int) (A0 A : Option Addr) (n0 c0 n c : Nat) (xs : List Int) (hn : n ≤ 17592186044415) (hi : 0 ≤ id ∧ id ≤ 1000) :
    Fn Try.prog 10 #[.pointer (some ⟨g, 0, none⟩), .int .i64 to, .agg #[.int .i64 vb, .int .i64 ep, .int .i64 st, .slice A n c]] [blk g 90 (callC fr id false (msg f0 to0 kd i0 vb0 ep0 st0 A0 n0 c0) tr wt), rd A n 1 (ints xs)]
      ((Option Addr × Nat) × (Option Addr × Nat)) (fun p => .tuple #[.agg (msg fr to 6 (id + 1) vb ep st p.2.1 n p.2.2).toArray, .int .i64 0])
      (fun p => [blk g 90 (callC fr (id + 1) true (msg fr to 6 (id + 1) vb ep st p.1.1 n p.1.2) 1 2), rd p.1.1 n 1 (ints xs), row p.2.1 n p.2.2 3 1 (ints xs)]) (fun _ => True) := by
  refine Fn.enter Try.func10 rfl Try.ntmps10 (by rfl) ?_
  intro w0
  refine Cd.seq ?_
  refine Cd.region ?_
  refine Ls.does (some 5) (Does.box (show Oper.op _ = Op.box 27 (Operand.tmp 2) from rfl) (by rfl)) (by rfl) (by rfl) ?_
  intro g1 _
  refine Ls.does (some 6) (Does.alloc (cs := [.int .i64 0, .int .i64 0, .int .i64 0, .int .i64 0, .int .i64 0, .int .i64 0, .int .i64 0, .slice none 0 0, .slice none 0 0, .bool false, .int .i64 0, .int .i64 0, .int .i64 0, .int .i64 0, .slice none 0 0, .int .i64 0, .int .i64 0, .int .i64 0, .slice none 0 0]) (show Oper.op _ = Op.alloc 41 from rfl) (ZeroIs.mk (.agg #[.int .i64 0, .int .i64 0, .int .i64 0, .int .i64 0, .int .i64 0, .int .i64 0, .int .i64 0, .slice none 0 0, .slice none 0 0, .bool false, .int .i64 0, .int .i64 0, .int .i64 0, .int .i64 0, .slice none 0 0, .int .i64 0, .int .i64 0, .int .i64 0, .slice none 0 0]) (by kernel_rfl) (by rfl))) (by rfl) (by rfl) ?_
  intro g2 _
  refine Ls.ev (some 7) (Ev.assign (show Oper.op _ = Op.assign (Operand.const (Value.int IntKind.i64 0)) from rfl) (by rfl)) (by rfl) (by rfl) ?_
  refine Ls.nil ?_
  refine Cd.seq ?_
  refine Cd.seq ?_
  refine Cd.region ?_
  refine Ls.ev (some 8) (Ev.move (show Oper.op _ = Op.move (Operand.tmp 0) from rfl) (by rfl)) (by rfl) (by rfl) ?_
  refine Ls.ev (some 9) (Ev.nilCheck (show Oper.op _ = Op.nilCheck (Operand.tmp 8) from rfl) (by rfl)) (by rfl) (by rfl) ?_
  refine Ls.ev (some 10) (Ev.fieldAddr (k := 2) (show Oper.op _ = Op.fieldAddr 90 (Operand.tmp 9) 2 from rfl) (by rfl) (by kernel_rfl) (by rfl)) (by rfl) (by rfl) ?_
  refine Ls.ev (some 11) (Ev.load 2 (show Oper.op _ = Op.load 4 (Operand.tmp 10) from rfl) (by rfl) (by rfl) (by kernel_rfl) (by rfl)) (by rfl) (by rfl) ?_
  refine Ls.nil ?_
  refine Cd.cond_false (by rfl) (rfl) ?_
  refine Cd.skip ?_
  refine Cd.seq ?_
  refine Cd.region ?_
  refine Ls.ev (some 13) (Ev.fieldAddr (k := 2) (show Oper.op _ = Op.fieldAddr 27 (Operand.tmp 5) 2 from rfl) (by rfl) (by kernel_rfl) (by rfl)) (by rfl) (by rfl) ?_
  refine Ls.ev (some 14) (Ev.loads 1 (show Oper.op _ = Op.load 25 (Operand.tmp 13) from rfl) (by rfl) (by rfl) (n := 2) (by kernel_rfl) (by rfl) (by rfl)) (by rfl) (by rfl) ?_
  refine Ls.does (some 15) (Does.call [3, 0, 1, 2] (show Oper.op _ = Op.call { callee := Callee.value (Operand.func 33), args := #[Operand.tmp 14], argTypes := #[25] } from rfl) Try.func33 (by kernel_rfl) (by kernel_rfl) (own_sl st A n c xs hn) (by rfl) (by rfl) (by rfl)) (by rfl) (by rfl) ?_
  intro p _
  refine Ls.ev (some 16) (Ev.fieldAddr (k := 2) (show Oper.op _ = Op.fieldAddr 27 (Operand.tmp 5) 2 from rfl) (by rfl) (by kernel_rfl) (by rfl)) (by rfl) (by rfl) ?_
  refine Ls.does none (Does.store 2 (show Oper.op _ = Op.store 25 (Operand.tmp 16) (Operand.tmp 15) from rfl) (by rfl) (by rfl) (by rfl) (by kernel_rfl) (by rfl) (by kernel_rfl) (by rfl)) (by rfl) (by rfl) ?_
  intro _ _
  refine Ls.nil ?_
  refine Cd.seq ?_
  refine Cd.region ?_
  refine Ls.ev (some 17) (Ev.move (show Oper.op _ = Op.move (Operand.tmp 0) from rfl) (by rfl)) (by rfl) (by rfl) ?_
  refine Ls.ev (some 18) (Ev.nilCheck (show Oper.op _ = Op.nilCheck (Operand.tmp 17) from rfl) (by rfl)) (by rfl) (by rfl) ?_
  refine Ls.ev (some 19) (Ev.fieldAddr (k := 1) (show Oper.op _ = Op.fieldAddr 90 (Operand.tmp 18) 1 from rfl) (by rfl) (by kernel_rfl) (by rfl)) (by rfl) (by rfl) ?_
  refine Ls.ev (some 20) (Ev.load 3 (show Oper.op _ = Op.load 3 (Operand.tmp 19) from rfl) (by rfl) (by rfl) (by kernel_rfl) (by rfl)) (by rfl) (by rfl) ?_
  refine Ls.ev (some 21) (Ev.addI (show Oper.op _ = Op.binOp BinOp.add 3 (Operand.tmp 20) (Operand.const (Value.int IntKind.i64 1)) 3 from rfl) (by rfl) (by rfl) (by omega)) (by rfl) (by rfl) ?_
  refine Ls.ev (some 22) (Ev.nilCheck (show Oper.op _ = Op.nilCheck (Operand.tmp 17) from rfl) (by rfl)) (by rfl) (by rfl) ?_
  refine Ls.ev (some 23) (Ev.fieldAddr (k := 1) (show Oper.op _ = Op.fieldAddr 90 (Operand.tmp 22) 1 from rfl) (by rfl) (by kernel_rfl) (by rfl)) (by rfl) (by rfl) ?_
  refine Ls.does none (Does.store 3 (show Oper.op _ = Op.store 3 (Operand.tmp 23) (Operand.tmp 21) from rfl) (by rfl) (by rfl) (by rfl) (by kernel_rfl) (by rfl) (by kernel_rfl) (by rfl)) (by rfl) (by rfl) ?_
  intro _ _
  refine Ls.nil ?_
  refine Cd.seq ?_
  refine Cd.draw [14] (by kernel_rfl) ?_
  refine Rg.ev 0 (by rfl) (fun _ h => h) (Ev.move (show Oper.op _ = Op.move (Operand.tmp 0) from rfl) (by rfl)) (by rfl) (some 24) (by rfl) (by kernel_rfl) (by kernel_rfl) (by kernel_rfl) (by kernel_rfl) ?_
  refine Rg.ev 1 (by rfl) (fun _ h => h) (Ev.move (show Oper.op _ = Op.move (Operand.tmp 0) from rfl) (by rfl)) (by rfl) (some 25) (by rfl) (by kernel_rfl) (by kernel_rfl) (by kernel_rfl) (by kernel_rfl) ?_
  refine Rg.ev 2 (by rfl) (fun _ h => h) (Ev.nilCheck (show Oper.op _ = Op.nilCheck (Operand.tmp 25) from rfl) (by rfl)) (by rfl) (some 26) (by rfl) (by kernel_rfl) (by kernel_rfl) (by kernel_rfl) (by kernel_rfl) ?_
  refine Rg.ev 3 (by rfl) (fun _ h => h) (Ev.fieldAddr (k := 0) (show Oper.op _ = Op.fieldAddr 90 (Operand.tmp 26) 0 from rfl) (by rfl) (by kernel_rfl) (by rfl)) (by rfl) (some 27) (by rfl) (by kernel_rfl) (by kernel_rfl) (by kernel_rfl) (by kernel_rfl) ?_
  refine Rg.ev 4 (by rfl) (fun _ h => h) (Ev.load 3 (show Oper.op _ = Op.load 3 (Operand.tmp 27) from rfl) (by rfl) (by rfl) (by kernel_rfl) (by rfl)) (by rfl) (some 28) (by rfl) (by kernel_rfl) (by kernel_rfl) (by kernel_rfl) (by kernel_rfl) ?_
  refine Rg.ev 5 (by rfl) (fun _ h => h) (Ev.move (show Oper.op _ = Op.move (Operand.tmp 1) from rfl) (by rfl)) (by rfl) (some 29) (by rfl) (by kernel_rfl) (by kernel_rfl) (by kernel_rfl) (by kernel_rfl) ?_
  refine Rg.ev 6 (by rfl) (fun _ h => h) (Ev.move (show Oper.op _ = Op.move (Operand.tmp 0) from rfl) (by rfl)) (by rfl) (some 30) (by rfl) (by kernel_rfl) (by kernel_rfl) (by kernel_rfl) (by kernel_rfl) ?_
  refine Rg.ev 7 (by rfl) (fun _ h => h) (Ev.nilCheck (show Oper.op _ = Op.nilCheck (Operand.tmp 30) from rfl) (by rfl)) (by rfl) (some 31) (by rfl) (by kernel_rfl) (by kernel_rfl) (by kernel_rfl) (by kernel_rfl) ?_
  refine Rg.ev 8 (by rfl) (fun _ h => h) (Ev.fieldAddr (k := 1) (show Oper.op _ = Op.fieldAddr 90 (Operand.tmp 31) 1 from rfl) (by rfl) (by kernel_rfl) (by rfl)) (by rfl) (some 32) (by rfl) (by kernel_rfl) (by kernel_rfl) (by kernel_rfl) (by kernel_rfl) ?_
  refine Rg.ev 9 (by rfl) (fun _ h => h) (Ev.load 3 (show Oper.op _ = Op.load 3 (Operand.tmp 32) from rfl) (by rfl) (by rfl) (by kernel_rfl) (by rfl)) (by rfl) (some 33) (by rfl) (by kernel_rfl) (by kernel_rfl) (by kernel_rfl) (by kernel_rfl) ?_
  refine Rg.ev 10 (by rfl) (fun _ h => h) (Ev.loads 2 (show Oper.op _ = Op.load 27 (Operand.tmp 5) from rfl) (by rfl) (by rfl) (n := 4) (by kernel_rfl) (by rfl) (by rfl)) (by rfl) (some 34) (by rfl) (by kernel_rfl) (by kernel_rfl) (by kernel_rfl) (by kernel_rfl) ?_
  refine Rg.ev 11 (by rfl) (fun _ h => h) (Ev.buildP (pl := [(0, 1), (1, 1), (2, 1), (3, 3), (6, 3), (9, 1), (10, 1), (11, 4), (15, 4)]) (zs := [.int .i64 0, .int .i64 0, .int .i64 0, .int .i64 0, .int .i64 0, .int .i64 0, .int .i64 0, .slice none 0 0, .slice none 0 0, .bool false, .int .i64 0, .int .i64 0, .int .i64 0, .int .i64 0, .slice none 0 0, .int .i64 0, .int .i64 0, .int .i64 0, .slice none 0 0]) (show Oper.op _ = Op.build 41 #[(0, Operand.tmp 28), (1, Operand.tmp 29), (2, Operand.const (Value.int IntKind.i64 6)), (6, Operand.tmp 33), (7, Operand.tmp 34)] from rfl) (by rfl) (by kernel_rfl) (by rfl)) (by rfl) (some 35) (by rfl) (by kernel_rfl) (by kernel_rfl) (by kernel_rfl) (by kernel_rfl) ?_
  refine Rg.ev 12 (by rfl) (fun _ h => h) (Ev.nilCheck (show Oper.op _ = Op.nilCheck (Operand.tmp 24) from rfl) (by rfl)) (by rfl) (some 36) (by rfl) (by kernel_rfl) (by kernel_rfl) (by kernel_rfl) (by kernel_rfl) ?_
  refine Rg.ev 13 (by rfl) (fun _ h => h) (Ev.fieldAddr (k := 3) (show Oper.op _ = Op.fieldAddr 90 (Operand.tmp 36) 3 from rfl) (by rfl) (by kernel_rfl) (by rfl)) (by rfl) (some 37) (by rfl) (by kernel_rfl) (by kernel_rfl) (by kernel_rfl) (by kernel_rfl) ?_
  refine Rg.tail 14 [] (by rfl) (by kernel_rfl) (Does.store 3 (show Oper.op _ = Op.store 41 (Operand.tmp 37) (Operand.tmp 35) from rfl) (by rfl) (by rfl) (by rfl) (by kernel_rfl) (by rfl) (by kernel_rfl) (by rfl)) (by rfl) none (by rfl) (by kernel_rfl) (by kernel_rfl) ?_
  intro _ _
  refine Rg.done (by kernel_rfl) ?_ _
  refine Cd.seq ?_
  refine Cd.region ?_
  refine Ls.ev (some 38) (Ev.move (show Oper.op _ = Op.move (Operand.tmp 0) from rfl) (by rfl)) (by rfl) (by rfl) ?_
  refine Ls.ev (some 39) (Ev.move (show Oper.op _ = Op.move (Operand.tmp 0) from rfl) (by rfl)) (by rfl) (by rfl) ?_
  refine Ls.ev (some 40) (Ev.move (show Oper.op _ = Op.move (Operand.tmp 0) from rfl) (by rfl)) (by rfl) (by rfl) ?_
  refine Ls.ev (some 41) (Ev.nilCheck (show Oper.op _ = Op.nilCheck (Operand.tmp 38) from rfl) (by rfl)) (by rfl) (by rfl) ?_
  refine Ls.ev (some 42) (Ev.fieldAddr (k := 2) (show Oper.op _ = Op.fieldAddr 90 (Operand.tmp 41) 2 from rfl) (by rfl) (by kernel_rfl) (by rfl)) (by rfl) (by rfl) ?_
  refine Ls.does none (Does.store 3 (show Oper.op _ = Op.store 4 (Operand.tmp 42) (Operand.const (Value.bool true)) from rfl) (by rfl) (by rfl) (by rfl) (by kernel_rfl) (by rfl) (by kernel_rfl) (by rfl)) (by rfl) (by rfl) ?_
  intro _ _
  refine Ls.ev (some 43) (Ev.nilCheck (show Oper.op _ = Op.nilCheck (Operand.tmp 39) from rfl) (by rfl)) (by rfl) (by rfl) ?_
  refine Ls.ev (some 44) (Ev.fieldAddr (k := 22) (show Oper.op _ = Op.fieldAddr 90 (Operand.tmp 43) 4 from rfl) (by rfl) (by kernel_rfl) (by rfl)) (by rfl) (by rfl) ?_
  refine Ls.does none (Does.store 3 (show Oper.op _ = Op.store 3 (Operand.tmp 44) (Operand.const (Value.int IntKind.i64 1)) from rfl) (by rfl) (by rfl) (by rfl) (by kernel_rfl) (by rfl) (by kernel_rfl) (by rfl)) (by rfl) (by rfl) ?_
  intro _ _
  refine Ls.ev (some 45) (Ev.nilCheck (show Oper.op _ = Op.nilCheck (Operand.tmp 40) from rfl) (by rfl)) (by rfl) (by rfl) ?_
  refine Ls.ev (some 46) (Ev.fieldAddr (k := 23) (show Oper.op _ = Op.fieldAddr 90 (Operand.tmp 45) 5 from rfl) (by rfl) (by kernel_rfl) (by rfl)) (by rfl) (by rfl) ?_
  refine Ls.does none (Does.store 3 (show Oper.op _ = Op.store 3 (Operand.tmp 46) (Operand.const (Value.int IntKind.i64 2)) from rfl) (by rfl) (by rfl) (by rfl) (by kernel_rfl) (by rfl) (by kernel_rfl) (by rfl)) (by rfl) (by rfl) ?_
  intro _ _
  refine Ls.nil ?_
  refine Cd.seq ?_
  refine Cd.region ?_
  refine Ls.ev (some 47) (Ev.move (show Oper.op _ = Op.move (Operand.tmp 0) from rfl) (by rfl)) (by rfl) (by rfl) ?_
  refine Ent.see 0 (by rfl) ?_
  refine Ls.does (some 48) (Does.call [3, 0, 0, 1, 2] (show Oper.op _ = Op.call { callee := Callee.value (Operand.func 34), args := #[Operand.tmp 47], argTypes := #[28] } from rfl) Try.func34 (by kernel_rfl) (by kernel_rfl) (sent_sl g fr (id + 1) true fr to 6 (id + 1) vb ep st 1 2 p.1 n p.2 xs hn) (by rfl) (by rfl) (by rfl)) (by rfl) (by rfl) ?_
  intro q _
  refine Ls.does none (Does.store 3 (show Oper.op _ = Op.store 41 (Operand.tmp 6) (Operand.tmp 48) from rfl) (by rfl) (by rfl) (by rfl) (by kernel_rfl) (by rfl) (by kernel_rfl) (by rfl)) (by rfl) (by rfl) ?_
  intro _ _
  refine Ls.ev (some 7) (Ev.assign (show Oper.op _ = Op.assign (Operand.const (Value.int IntKind.i64 0)) from rfl) (by rfl)) (by rfl) (by rfl) ?_
  refine Ls.nil ?_
  refine Cd.ret ?_
  refine Ent.ret ((p, q)) (trivial) (Res.cell_tmp 3 (by rfl) (by rfl) (by rfl) (n := 19) (by kernel_rfl) (by rfl) (by rfl) (by rfl)) ?_ [0, 2, 1] (by rfl) ?_
  · rfl
  · rfl
end Go.Proofs.Ytgidkjfakecniaa
