/- rpc over pieces: Tick -/
import Derived.Test.YtgidkjfakecniaaRsA
import Derived.Test.YtgidkjfakecniaaSlF
namespace Go.Proofs.Ytgidkjfakecniaa
open Go.RowKit
theorem elem_msg : Elem Try.prog 46 41 19 216 := elem_of (by kernel_rfl)
/-- The cells of a list of messages that differ in their lists' places alone. -/
def flatM (f0 to kd id vb ep st : Int) (n : Nat) (ms : List (Option Addr × Nat)) : List Value := ms.flatMap fun p => msg f0 to kd id vb ep st p.1 n p.2
theorem flatM_length (f0 to kd id vb ep st : Int) (n : Nat) (ms : List (Option Addr × Nat)) : (flatM f0 to kd id vb ep st n ms).length = ms.length * 19 := by
  induction ms with
  | nil => rfl
  | cons p ms ih => simp only [flatM, List.flatMap_cons, List.length_append, List.length_cons] at *; rw [ih]; simp [msg]; omega
/-- What becomes of a caller in n ticks: is it busy, its tries, its wait, how often it has sent. -/
def tickF : Nat → Bool → Int → Int → Int → Nat → Bool × Int × Int × Nat
  | 0, b, tr, wt, n, k => (b, tr, if b = true ∧ 0 < n then wt - n else wt, k)
  | f + 1, b, tr, wt, n, k => if b = true ∧ wt ≤ n then (if tr = 5 then (false, tr, wt, k) else tickF f true (tr + 1) (2 * 2 ^ tr.toNat) (n - wt) (k + 1)) else (b, tr, if b = true ∧ 0 < n then wt - n else wt, k)

structure TickI where
  n : Int
  b : Bool
  tr : Int
  wt : Int
  A : Option Addr
  c : Nat
  ms : List (Option Addr × Nat)

theorem one_msg (f0 to kd i0 vb ep st : Int) (A : Option Addr) (n c : Nat) : ∀ u ∈ msg f0 to kd i0 vb ep st A n c, u.oneCell' = true := by
  intro u hu
  simp only [msg, List.mem_cons, List.not_mem_nil, or_false] at hu
  rcases hu with h | h | h | h | h | h | h | h | h | h | h | h | h | h | h | h | h | h | h <;> subst h <;> rfl

set_option maxHeartbeats 1000000 in
theorem tick_sl (g : Nat) (fr id : Int) (b0 : Bool) (f0 to kd i0 vb ep st tr0 wt0 n0 : Int) (A : Option Addr) (n c : Nat) (xs : List Int) (hn : n ≤ 17592186044415) (hb : b0 = true → 1 ≤ tr0 ∧ tr0 ≤ 5 ∧ 1 ≤ wt0 ∧ wt0 ≤ 1000) (hn0 : -9223372036854775808 ≤ n0 ∧ n0 ≤ 9223372036854775807) :
    Fn Try.prog 12 #[.pointer (some ⟨g, 0, none⟩), .int .i64 n0] [blk g 90 (callC fr id b0 (msg f0 to kd i0 vb ep st A n c) tr0 wt0), rd A n 1 (ints xs)]
      ((Option Addr × Nat) × List (Option Addr × Nat)) (fun p => .slice p.1.1 p.2.length p.1.2)
      (fun p => [blk g 90 (callC fr id (tickF 5 b0 tr0 wt0 n0 0).1 (msg f0 to kd i0 vb ep st A n c) (tickF 5 b0 tr0 wt0 n0 0).2.1 (tickF 5 b0 tr0 wt0 n0 0).2.2.1), row p.1.1 p.2.length p.1.2 41 19 (flatM f0 to kd i0 vb ep st n p.2), starx (p.2.map fun q => row q.1 n q.2 3 1 (ints xs))])
      (fun p => p.2.length = (tickF 5 b0 tr0 wt0 n0 0).2.2.2) := by
  refine Fn.enter Try.func12 rfl Try.ntmps12 (by rfl) ?_
  intro w0
  refine Cd.seq ?_
  refine Cd.region ?_
  refine Ls.ev (some 4) (Ev.assign (show Oper.op _ = Op.assign (Operand.const (Value.slice none 0 0)) from rfl) (by rfl)) (by rfl) (by rfl) ?_
  refine Ls.nil ?_
  refine Cd.seq ?_
  refine Cd.region ?_
  refine Ls.ev (some 5) (Ev.assign (show Oper.op _ = Op.assign (Operand.const (Value.slice none 0 0)) from rfl) (by rfl)) (by rfl) (by rfl) ?_
  refine Ls.nil ?_
  refine Cd.seq ?_
  refine Cd.block ?_
  refine Ent.nil 41 19 (Ent.map (fun w h => h.starx_nil) ?_)
  refine Cd.loop (ι := TickI) (fun j => [(0, .pointer (some ⟨g, 0, none⟩)), (1, .int .i64 j.n), (5, .slice j.A j.ms.length j.c)]) (fun j => [starx (j.ms.map fun q => row q.1 n q.2 3 1 (ints xs)), row j.A j.ms.length j.c 41 19 (flatM f0 to kd i0 vb ep st n j.ms), blk g 90 (callC fr id j.b (msg f0 to kd i0 vb ep st A n c) j.tr j.wt), rd A n 1 (ints xs)]) (fun j => (j.b = true → 1 ≤ j.tr ∧ j.tr ≤ 5 ∧ 1 ≤ j.wt ∧ j.wt ≤ 1000 ∧ (j.ms.length : Int) + 1 ≤ j.tr) ∧ j.ms.length ≤ 5 ∧ (-9223372036854775808 ≤ j.n ∧ j.n ≤ 9223372036854775807) ∧ tickF (5 - j.ms.length) j.b j.tr j.wt j.n j.ms.length = tickF 5 b0 tr0 wt0 n0 0) (fun j => 5 - j.ms.length) (⟨n0, b0, tr0, wt0, none, 0, []⟩) (⟨fun h => ⟨(hb h).1, (hb h).2.1, (hb h).2.2.1, (hb h).2.2.2, by simpa using (hb h).1⟩, Nat.zero_le _, hn0, rfl⟩) ?_ rfl ?_
  · (repeat (first | exact trivial | refine ⟨by rfl, ?_⟩))
  rintro ⟨k, b, tr, wt, Ao, co, ms⟩ ⟨h1, h2, h3, h4⟩
  dsimp only at h1 h2 h3 h4 ⊢
  cases b
  · have e4 : tickF (5 - ms.length) false tr wt k ms.length = (false, tr, wt, ms.length) := by
      cases h : 5 - ms.length <;> simp [tickF]
    rw [e4] at h4
    skip
    refine Cd.seq ?_
    refine Cd.seq ?_
    refine Cd.region ?_
    refine Ls.ev (some 6) (Ev.move (show Oper.op _ = Op.move (Operand.tmp 0) from rfl) (by rfl)) (by rfl) (by rfl) ?_
    refine Ls.ev (some 7) (Ev.nilCheck (show Oper.op _ = Op.nilCheck (Operand.tmp 6) from rfl) (by rfl)) (by rfl) (by rfl) ?_
    refine Ls.ev (some 8) (Ev.fieldAddr (k := 2) (show Oper.op _ = Op.fieldAddr 90 (Operand.tmp 7) 2 from rfl) (by rfl) (by kernel_rfl) (by rfl)) (by rfl) (by rfl) ?_
    refine Ls.ev (some 9) (Ev.load 2 (show Oper.op _ = Op.load 4 (Operand.tmp 8) from rfl) (by rfl) (by rfl) (by kernel_rfl) (by rfl)) (by rfl) (by rfl) ?_
    refine Ls.ev (some 10) (Ev.move (show Oper.op _ = Op.move (Operand.tmp 9) from rfl) (by rfl)) (by rfl) (by rfl) ?_
    refine Ls.pass (some 11) (by rfl) (by rfl) ?_
    refine Ls.pass (some 12) (by rfl) (by rfl) ?_
    refine Ls.pass (some 13) (by rfl) (by rfl) ?_
    refine Ls.pass (some 14) (by rfl) (by rfl) ?_
    refine Ls.pass (some 15) (by rfl) (by rfl) ?_
    refine Ls.pass (some 16) (by rfl) (by rfl) ?_
    refine Ls.ev (some 17) (Ev.pickF (show Oper.op _ = Op.pick (Operand.tmp 10) (Operand.tmp 16) (Operand.const (Value.bool false)) from rfl) (by rfl) (by rfl)) (by rfl) (by rfl) ?_
    refine Ls.nil ?_
    refine Cd.cond_false (by rfl) (rfl) ?_
    refine Cd.exit ?_
    refine Cd.seq ?_
    refine Cd.seq ?_
    refine Cd.region ?_
    refine Ls.ev (some 52) (Ev.move (show Oper.op _ = Op.move (Operand.tmp 0) from rfl) (by rfl)) (by rfl) (by rfl) ?_
    refine Ls.ev (some 53) (Ev.nilCheck (show Oper.op _ = Op.nilCheck (Operand.tmp 52) from rfl) (by rfl)) (by rfl) (by rfl) ?_
    refine Ls.ev (some 54) (Ev.fieldAddr (k := 2) (show Oper.op _ = Op.fieldAddr 90 (Operand.tmp 53) 2 from rfl) (by rfl) (by kernel_rfl) (by rfl)) (by rfl) (by rfl) ?_
    refine Ls.ev (some 55) (Ev.load 2 (show Oper.op _ = Op.load 4 (Operand.tmp 54) from rfl) (by rfl) (by rfl) (by kernel_rfl) (by rfl)) (by rfl) (by rfl) ?_
    refine Ls.ev (some 56) (Ev.move (show Oper.op _ = Op.move (Operand.tmp 55) from rfl) (by rfl)) (by rfl) (by rfl) ?_
    refine Ls.pass (some 57) (by rfl) (by rfl) ?_
    refine Ls.pass (some 58) (by rfl) (by rfl) ?_
    refine Ls.ev (some 59) (Ev.pickF (show Oper.op _ = Op.pick (Operand.tmp 56) (Operand.tmp 58) (Operand.const (Value.bool false)) from rfl) (by rfl) (by rfl)) (by rfl) (by rfl) ?_
    refine Ls.nil ?_
    refine Cd.cond_false (by rfl) (rfl) ?_
    refine Cd.skip ?_
    refine Cd.seq ?_
    refine Cd.region ?_
    refine Ls.ev (some 68) (Ev.move (show Oper.op _ = Op.move (Operand.tmp 5) from rfl) (by rfl)) (by rfl) (by rfl) ?_
    refine Ls.ev (some 4) (Ev.assign (show Oper.op _ = Op.assign (Operand.tmp 68) from rfl) (by rfl)) (by rfl) (by rfl) ?_
    refine Ls.nil ?_
    refine Cd.ret ?_
    refine Ent.ret (((Ao, co), ms)) (by rw [← h4]) (Res.tmp (by rfl) (by rfl)) ?_ [2, 1, 0] (by rfl) ?_
    · rfl
    · rw [← h4]; rfl
  · obtain ⟨t1, t2, t3, t4, t5⟩ := h1 rfl
    obtain ⟨f, hf⟩ : ∃ f, 5 - ms.length = f + 1 := ⟨4 - ms.length, by omega⟩
    skip
    refine Cd.seq ?_
    refine Cd.seq ?_
    refine Cd.region ?_
    refine Ls.ev (some 6) (Ev.move (show Oper.op _ = Op.move (Operand.tmp 0) from rfl) (by rfl)) (by rfl) (by rfl) ?_
    refine Ls.ev (some 7) (Ev.nilCheck (show Oper.op _ = Op.nilCheck (Operand.tmp 6) from rfl) (by rfl)) (by rfl) (by rfl) ?_
    refine Ls.ev (some 8) (Ev.fieldAddr (k := 2) (show Oper.op _ = Op.fieldAddr 90 (Operand.tmp 7) 2 from rfl) (by rfl) (by kernel_rfl) (by rfl)) (by rfl) (by rfl) ?_
    refine Ls.ev (some 9) (Ev.load 2 (show Oper.op _ = Op.load 4 (Operand.tmp 8) from rfl) (by rfl) (by rfl) (by kernel_rfl) (by rfl)) (by rfl) (by rfl) ?_
    refine Ls.ev (some 10) (Ev.move (show Oper.op _ = Op.move (Operand.tmp 9) from rfl) (by rfl)) (by rfl) (by rfl) ?_
    refine Ls.ev (some 11) (Ev.move (show Oper.op _ = Op.move (Operand.tmp 1) from rfl) (by rfl)) (by rfl) (by rfl) ?_
    refine Ls.ev (some 12) (Ev.move (show Oper.op _ = Op.move (Operand.tmp 0) from rfl) (by rfl)) (by rfl) (by rfl) ?_
    refine Ls.ev (some 13) (Ev.nilCheck (show Oper.op _ = Op.nilCheck (Operand.tmp 12) from rfl) (by rfl)) (by rfl) (by rfl) ?_
    refine Ls.ev (some 14) (Ev.fieldAddr (k := 23) (show Oper.op _ = Op.fieldAddr 90 (Operand.tmp 13) 5 from rfl) (by rfl) (by kernel_rfl) (by rfl)) (by rfl) (by rfl) ?_
    refine Ls.ev (some 15) (Ev.load 2 (show Oper.op _ = Op.load 3 (Operand.tmp 14) from rfl) (by rfl) (by rfl) (by kernel_rfl) (by rfl)) (by rfl) (by rfl) ?_
    refine Ls.ev (some 16) (Ev.geq (show Oper.op _ = Op.binOp BinOp.geq 3 (Operand.tmp 11) (Operand.tmp 15) 3 from rfl) (by rfl) (by rfl)) (by rfl) (by rfl) ?_
    refine Ls.ev (some 17) (Ev.pickT (show Oper.op _ = Op.pick (Operand.tmp 10) (Operand.tmp 16) (Operand.const (Value.bool false)) from rfl) (by rfl) (by rfl)) (by rfl) (by rfl) ?_
    refine Ls.nil ?_
    refine Cd.cond _ (by rfl) (fun h => ?_) (fun h => ?_)
    · skip
      have hwt : wt ≤ k := of_decide_eq_true h
      refine Cd.skip ?_
      refine Cd.block ?_
      refine Cd.seq ?_
      refine Cd.region ?_
      refine Ls.ev (some 18) (Ev.move (show Oper.op _ = Op.move (Operand.tmp 1) from rfl) (by rfl)) (by rfl) (by rfl) ?_
      refine Ls.ev (some 19) (Ev.move (show Oper.op _ = Op.move (Operand.tmp 0) from rfl) (by rfl)) (by rfl) (by rfl) ?_
      refine Ls.ev (some 20) (Ev.nilCheck (show Oper.op _ = Op.nilCheck (Operand.tmp 19) from rfl) (by rfl)) (by rfl) (by rfl) ?_
      refine Ls.ev (some 21) (Ev.fieldAddr (k := 23) (show Oper.op _ = Op.fieldAddr 90 (Operand.tmp 20) 5 from rfl) (by rfl) (by kernel_rfl) (by rfl)) (by rfl) (by rfl) ?_
      refine Ls.ev (some 22) (Ev.load 2 (show Oper.op _ = Op.load 3 (Operand.tmp 21) from rfl) (by rfl) (by rfl) (by kernel_rfl) (by rfl)) (by rfl) (by rfl) ?_
      refine Ls.ev (some 23) (Ev.subI (show Oper.op _ = Op.binOp BinOp.sub 3 (Operand.tmp 18) (Operand.tmp 22) 3 from rfl) (by rfl) (by rfl) (by omega)) (by rfl) (by rfl) ?_
      refine Ls.ev (some 1) (Ev.assign (show Oper.op _ = Op.assign (Operand.tmp 23) from rfl) (by rfl)) (by rfl) (by rfl) ?_
      refine Ls.nil ?_
      refine Cd.seq ?_
      refine Cd.seq ?_
      refine Cd.region ?_
      refine Ls.ev (some 24) (Ev.move (show Oper.op _ = Op.move (Operand.tmp 0) from rfl) (by rfl)) (by rfl) (by rfl) ?_
      refine Ls.ev (some 25) (Ev.nilCheck (show Oper.op _ = Op.nilCheck (Operand.tmp 24) from rfl) (by rfl)) (by rfl) (by rfl) ?_
      refine Ls.ev (some 26) (Ev.fieldAddr (k := 22) (show Oper.op _ = Op.fieldAddr 90 (Operand.tmp 25) 4 from rfl) (by rfl) (by kernel_rfl) (by rfl)) (by rfl) (by rfl) ?_
      refine Ls.ev (some 27) (Ev.load 2 (show Oper.op _ = Op.load 3 (Operand.tmp 26) from rfl) (by rfl) (by rfl) (by kernel_rfl) (by rfl)) (by rfl) (by rfl) ?_
      refine Ls.ev (some 28) (Ev.eql (show Oper.op _ = Op.binOp BinOp.eql 3 (Operand.tmp 27) (Operand.const (Value.int IntKind.i64 5)) 3 from rfl) (by rfl) (by rfl)) (by rfl) (by rfl) ?_
      refine Ls.nil ?_
      refine Cd.cond _ (by rfl) (fun h5 => ?_) (fun h5 => ?_)
      · skip
        have h5 : tr = 5 := of_decide_eq_true h5
        have e4 : tickF (5 - ms.length) true tr wt k ms.length = (false, tr, wt, ms.length) := by rw [hf]; simp [tickF, hwt, h5]
        rw [e4] at h4
        refine Cd.seq ?_
        refine Cd.region ?_
        refine Ls.ev (some 29) (Ev.move (show Oper.op _ = Op.move (Operand.tmp 0) from rfl) (by rfl)) (by rfl) (by rfl) ?_
        refine Ls.ev (some 30) (Ev.nilCheck (show Oper.op _ = Op.nilCheck (Operand.tmp 29) from rfl) (by rfl)) (by rfl) (by rfl) ?_
        refine Ls.ev (some 31) (Ev.fieldAddr (k := 2) (show Oper.op _ = Op.fieldAddr 90 (Operand.tmp 30) 2 from rfl) (by rfl) (by kernel_rfl) (by rfl)) (by rfl) (by rfl) ?_
        refine Ls.does none (Does.store 2 (show Oper.op _ = Op.store 4 (Operand.tmp 31) (Operand.const (Value.bool false)) from rfl) (by rfl) (by rfl) (by rfl) (by kernel_rfl) (by rfl) (by kernel_rfl) (by rfl)) (by rfl) (by rfl) ?_
        intro _ _
        refine Ls.nil ?_
        refine Cd.exit ?_
        refine Cd.seq ?_
        refine Cd.seq ?_
        refine Cd.region ?_
        refine Ls.ev (some 52) (Ev.move (show Oper.op _ = Op.move (Operand.tmp 0) from rfl) (by rfl)) (by rfl) (by rfl) ?_
        refine Ls.ev (some 53) (Ev.nilCheck (show Oper.op _ = Op.nilCheck (Operand.tmp 52) from rfl) (by rfl)) (by rfl) (by rfl) ?_
        refine Ls.ev (some 54) (Ev.fieldAddr (k := 2) (show Oper.op _ = Op.fieldAddr 90 (Operand.tmp 53) 2 from rfl) (by rfl) (by kernel_rfl) (by rfl)) (by rfl) (by rfl) ?_
        refine Ls.ev (some 55) (Ev.load 2 (show Oper.op _ = Op.load 4 (Operand.tmp 54) from rfl) (by rfl) (by rfl) (by kernel_rfl) (by rfl)) (by rfl) (by rfl) ?_
        refine Ls.ev (some 56) (Ev.move (show Oper.op _ = Op.move (Operand.tmp 55) from rfl) (by rfl)) (by rfl) (by rfl) ?_
        refine Ls.pass (some 57) (by rfl) (by rfl) ?_
        refine Ls.pass (some 58) (by rfl) (by rfl) ?_
        refine Ls.ev (some 59) (Ev.pickF (show Oper.op _ = Op.pick (Operand.tmp 56) (Operand.tmp 58) (Operand.const (Value.bool false)) from rfl) (by rfl) (by rfl)) (by rfl) (by rfl) ?_
        refine Ls.nil ?_
        refine Cd.cond_false (by rfl) (rfl) ?_
        refine Cd.skip ?_
        refine Cd.seq ?_
        refine Cd.region ?_
        refine Ls.ev (some 68) (Ev.move (show Oper.op _ = Op.move (Operand.tmp 5) from rfl) (by rfl)) (by rfl) (by rfl) ?_
        refine Ls.ev (some 4) (Ev.assign (show Oper.op _ = Op.assign (Operand.tmp 68) from rfl) (by rfl)) (by rfl) (by rfl) ?_
        refine Ls.nil ?_
        refine Cd.ret ?_
        refine Ent.ret (((Ao, co), ms)) (by rw [← h4]) (Res.tmp (by rfl) (by rfl)) ?_ [2, 1, 0] (by rfl) ?_
        · rfl
        · rw [← h4]; rfl
      · skip
        have h5 : tr ≠ 5 := of_decide_eq_false h5
        refine Cd.skip ?_
        refine Cd.seq ?_
        refine Cd.region ?_
        refine Ls.ev (some 32) (Ev.move (show Oper.op _ = Op.move (Operand.tmp 0) from rfl) (by rfl)) (by rfl) (by rfl) ?_
        refine Ls.ev (some 33) (Ev.move (show Oper.op _ = Op.move (Operand.tmp 0) from rfl) (by rfl)) (by rfl) (by rfl) ?_
        refine Ls.ev (some 34) (Ev.nilCheck (show Oper.op _ = Op.nilCheck (Operand.tmp 33) from rfl) (by rfl)) (by rfl) (by rfl) ?_
        refine Ls.ev (some 35) (Ev.fieldAddr (k := 22) (show Oper.op _ = Op.fieldAddr 90 (Operand.tmp 34) 4 from rfl) (by rfl) (by kernel_rfl) (by rfl)) (by rfl) (by rfl) ?_
        refine Ls.ev (some 36) (Ev.load 2 (show Oper.op _ = Op.load 3 (Operand.tmp 35) from rfl) (by rfl) (by rfl) (by kernel_rfl) (by rfl)) (by rfl) (by rfl) ?_
        refine Ls.ev (some 37) (Ev.shl (show Oper.op _ = Op.binOp BinOp.shl 3 (Operand.const (Value.int IntKind.i64 2)) (Operand.tmp 36) 3 from rfl) (by rfl) (by rfl) (by omega)) (by rfl) (by rfl) ?_
        refine Ls.ev (some 38) (Ev.nilCheck (show Oper.op _ = Op.nilCheck (Operand.tmp 32) from rfl) (by rfl)) (by rfl) (by rfl) ?_
        refine Ls.ev (some 39) (Ev.fieldAddr (k := 23) (show Oper.op _ = Op.fieldAddr 90 (Operand.tmp 38) 5 from rfl) (by rfl) (by kernel_rfl) (by rfl)) (by rfl) (by rfl) ?_
        refine Ls.does none (Does.store 2 (show Oper.op _ = Op.store 3 (Operand.tmp 39) (Operand.tmp 37) from rfl) (by rfl) (by rfl) (by rfl) (by kernel_rfl) (by rfl) (by kernel_rfl) (by rfl)) (by rfl) (by rfl) ?_
        intro _ _
        refine Ls.nil ?_
        refine Cd.seq ?_
        refine Cd.region ?_
        refine Ls.ev (some 40) (Ev.move (show Oper.op _ = Op.move (Operand.tmp 0) from rfl) (by rfl)) (by rfl) (by rfl) ?_
        refine Ls.ev (some 41) (Ev.nilCheck (show Oper.op _ = Op.nilCheck (Operand.tmp 40) from rfl) (by rfl)) (by rfl) (by rfl) ?_
        refine Ls.ev (some 42) (Ev.fieldAddr (k := 22) (show Oper.op _ = Op.fieldAddr 90 (Operand.tmp 41) 4 from rfl) (by rfl) (by kernel_rfl) (by rfl)) (by rfl) (by rfl) ?_
        refine Ls.ev (some 43) (Ev.load 2 (show Oper.op _ = Op.load 3 (Operand.tmp 42) from rfl) (by rfl) (by rfl) (by kernel_rfl) (by rfl)) (by rfl) (by rfl) ?_
        refine Ls.ev (some 44) (Ev.addI (show Oper.op _ = Op.binOp BinOp.add 3 (Operand.tmp 43) (Operand.const (Value.int IntKind.i64 1)) 3 from rfl) (by rfl) (by rfl) (by omega)) (by rfl) (by rfl) ?_
        refine Ls.ev (some 45) (Ev.nilCheck (show Oper.op _ = Op.nilCheck (Operand.tmp 40) from rfl) (by rfl)) (by rfl) (by rfl) ?_
        refine Ls.ev (some 46) (Ev.fieldAddr (k := 22) (show Oper.op _ = Op.fieldAddr 90 (Operand.tmp 45) 4 from rfl) (by rfl) (by kernel_rfl) (by rfl)) (by rfl) (by rfl) ?_
        refine Ls.does none (Does.store 2 (show Oper.op _ = Op.store 3 (Operand.tmp 46) (Operand.tmp 44) from rfl) (by rfl) (by rfl) (by rfl) (by kernel_rfl) (by rfl) (by kernel_rfl) (by rfl)) (by rfl) (by rfl) ?_
        intro _ _
        refine Ls.nil ?_
        refine Cd.region ?_
        refine Ls.ev (some 47) (Ev.move (show Oper.op _ = Op.move (Operand.tmp 5) from rfl) (by rfl)) (by rfl) (by rfl) ?_
        refine Ls.ev (some 48) (Ev.move (show Oper.op _ = Op.move (Operand.tmp 0) from rfl) (by rfl)) (by rfl) (by rfl) ?_
        refine Ls.does (some 49) (Does.call [2, 3, 3, 0, 1] (show Oper.op _ = Op.call { callee := Callee.value (Operand.func 34), args := #[Operand.tmp 48], argTypes := #[28] } from rfl) Try.func34 (by kernel_rfl) (by kernel_rfl) (sent_sl g fr id true f0 to kd i0 vb ep st _ _ A n c xs hn) (by rfl) (by rfl) (by rfl)) (by rfl) (by rfl) ?_
        intro q _
        refine Ls.does (some 50) (Does.lit (sz := 19) (show Oper.op _ = Op.buildSlice 46 1 #[(0, Operand.tmp 49)] from rfl) (by rfl) Try.underlying46 (by kernel_rfl) (by rfl) (by kernel_rfl)) (by rfl) (by rfl) ?_
        intro g1 _
        refine Ls.does (some 51) (Does.app 5 (show Oper.op _ = Op.call { callee := Callee.builtin Builtin.append, args := #[Operand.tmp 47, Operand.tmp 50], argTypes := #[46, 46] } from rfl) (by rfl) (by rfl) (by rfl) (ReadsIn.row 0 (by rfl)) elem_msg (one_msg f0 to kd i0 vb ep st q.1 n q.2) (by omega)) (by rfl) (by rfl) ?_
        intro r _
        refine Ls.ev (some 5) (Ev.assign (show Oper.op _ = Op.assign (Operand.tmp 51) from rfl) (by rfl)) (by rfl) (by rfl) ?_
        refine Ls.nil ?_
        refine Ent.pick [2, 4, 5, 1, 3] (by rfl) (Ent.map (fun w h => h.starx_add rfl) ?_)
        have hw : IntKind.i64.wrap (2 * 2 ^ (min tr.toNat IntKind.i64.bits)) = 2 * 2 ^ tr.toNat ∧ 4 ≤ (2 : Int) * 2 ^ tr.toNat ∧ (2 : Int) * 2 ^ tr.toNat ≤ 64 := by
          have : tr = 1 ∨ tr = 2 ∨ tr = 3 ∨ tr = 4 := by omega
          rcases this with rfl | rfl | rfl | rfl <;> decide
        have e4 : tickF (5 - ms.length) true tr wt k ms.length = tickF (5 - (ms ++ [q]).length) true (tr + 1) (IntKind.i64.wrap (2 * 2 ^ (min tr.toNat IntKind.i64.bits))) (k - wt) (ms ++ [q]).length := by
          rw [hf, hw.1, show 5 - (ms ++ [q]).length = f by simp; omega]
          simp [tickF, hwt, h5]
        rw [e4] at h4
        refine Ent.inv (⟨k - wt, true, tr + 1, IntKind.i64.wrap (2 * 2 ^ (min tr.toNat IntKind.i64.bits)), r.1, r.2, ms ++ [q]⟩) ?_ ?_ ?_
        · (try dsimp only); exact ⟨⟨fun _ => ⟨by omega, by omega, by rw [hw.1]; omega, by rw [hw.1]; omega, by simp; omega⟩, by simp; omega, by omega, h4⟩, by simp; omega⟩
        · (repeat (first | exact trivial | refine ⟨by rfl, ?_⟩ | refine ⟨by simp only [List.length_append, List.length_cons, List.length_nil]; rfl, ?_⟩ | refine ⟨by push_cast; rfl, ?_⟩))
        · refine cons_eq (by simp) (cons_eq ?_ (cons_eq rfl (cons_eq rfl rfl)))
          show row r.1 (ms.length + 1) r.2 _ 19 (flatM f0 to kd i0 vb ep st n ms ++ msg f0 to kd i0 vb ep st q.1 n q.2) = row r.1 (ms ++ [q]).length r.2 _ 19 (flatM f0 to kd i0 vb ep st n (ms ++ [q]))
          rw [List.length_append]
          simp [flatM]
    · skip
      have hwt : ¬ wt ≤ k := of_decide_eq_false h
      have e4 : tickF (5 - ms.length) true tr wt k ms.length = (true, tr, if 0 < k then wt - k else wt, ms.length) := by rw [hf]; simp [tickF, hwt]
      rw [e4] at h4
      refine Cd.exit ?_
      refine Cd.seq ?_
      refine Cd.seq ?_
      refine Cd.region ?_
      refine Ls.ev (some 52) (Ev.move (show Oper.op _ = Op.move (Operand.tmp 0) from rfl) (by rfl)) (by rfl) (by rfl) ?_
      refine Ls.ev (some 53) (Ev.nilCheck (show Oper.op _ = Op.nilCheck (Operand.tmp 52) from rfl) (by rfl)) (by rfl) (by rfl) ?_
      refine Ls.ev (some 54) (Ev.fieldAddr (k := 2) (show Oper.op _ = Op.fieldAddr 90 (Operand.tmp 53) 2 from rfl) (by rfl) (by kernel_rfl) (by rfl)) (by rfl) (by rfl) ?_
      refine Ls.ev (some 55) (Ev.load 2 (show Oper.op _ = Op.load 4 (Operand.tmp 54) from rfl) (by rfl) (by rfl) (by kernel_rfl) (by rfl)) (by rfl) (by rfl) ?_
      refine Ls.ev (some 56) (Ev.move (show Oper.op _ = Op.move (Operand.tmp 55) from rfl) (by rfl)) (by rfl) (by rfl) ?_
      refine Ls.ev (some 57) (Ev.move (show Oper.op _ = Op.move (Operand.tmp 1) from rfl) (by rfl)) (by rfl) (by rfl) ?_
      refine Ls.ev (some 58) (Ev.gtr (show Oper.op _ = Op.binOp BinOp.gtr 3 (Operand.tmp 57) (Operand.const (Value.int IntKind.i64 0)) 3 from rfl) (by rfl) (by rfl)) (by rfl) (by rfl) ?_
      refine Ls.ev (some 59) (Ev.pickT (show Oper.op _ = Op.pick (Operand.tmp 56) (Operand.tmp 58) (Operand.const (Value.bool false)) from rfl) (by rfl) (by rfl)) (by rfl) (by rfl) ?_
      refine Ls.nil ?_
      refine Cd.cond _ (by rfl) (fun h => ?_) (fun h => ?_)
      · skip
        have h : 0 < k := of_decide_eq_true h
        rw [if_pos h] at h4
        refine Cd.region ?_
        refine Ls.ev (some 60) (Ev.move (show Oper.op _ = Op.move (Operand.tmp 0) from rfl) (by rfl)) (by rfl) (by rfl) ?_
        refine Ls.ev (some 61) (Ev.nilCheck (show Oper.op _ = Op.nilCheck (Operand.tmp 60) from rfl) (by rfl)) (by rfl) (by rfl) ?_
        refine Ls.ev (some 62) (Ev.fieldAddr (k := 23) (show Oper.op _ = Op.fieldAddr 90 (Operand.tmp 61) 5 from rfl) (by rfl) (by kernel_rfl) (by rfl)) (by rfl) (by rfl) ?_
        refine Ls.ev (some 63) (Ev.load 2 (show Oper.op _ = Op.load 3 (Operand.tmp 62) from rfl) (by rfl) (by rfl) (by kernel_rfl) (by rfl)) (by rfl) (by rfl) ?_
        refine Ls.ev (some 64) (Ev.move (show Oper.op _ = Op.move (Operand.tmp 1) from rfl) (by rfl)) (by rfl) (by rfl) ?_
        refine Ls.ev (some 65) (Ev.subI (show Oper.op _ = Op.binOp BinOp.sub 3 (Operand.tmp 63) (Operand.tmp 64) 3 from rfl) (by rfl) (by rfl) (by omega)) (by rfl) (by rfl) ?_
        refine Ls.ev (some 66) (Ev.nilCheck (show Oper.op _ = Op.nilCheck (Operand.tmp 60) from rfl) (by rfl)) (by rfl) (by rfl) ?_
        refine Ls.ev (some 67) (Ev.fieldAddr (k := 23) (show Oper.op _ = Op.fieldAddr 90 (Operand.tmp 66) 5 from rfl) (by rfl) (by kernel_rfl) (by rfl)) (by rfl) (by rfl) ?_
        refine Ls.does none (Does.store 2 (show Oper.op _ = Op.store 3 (Operand.tmp 67) (Operand.tmp 65) from rfl) (by rfl) (by rfl) (by rfl) (by kernel_rfl) (by rfl) (by kernel_rfl) (by rfl)) (by rfl) (by rfl) ?_
        intro _ _
        refine Ls.nil ?_
        refine Cd.seq ?_
        refine Cd.region ?_
        refine Ls.ev (some 68) (Ev.move (show Oper.op _ = Op.move (Operand.tmp 5) from rfl) (by rfl)) (by rfl) (by rfl) ?_
        refine Ls.ev (some 4) (Ev.assign (show Oper.op _ = Op.assign (Operand.tmp 68) from rfl) (by rfl)) (by rfl) (by rfl) ?_
        refine Ls.nil ?_
        refine Cd.ret ?_
        refine Ent.ret (((Ao, co), ms)) (by rw [← h4]) (Res.tmp (by rfl) (by rfl)) ?_ [2, 1, 0] (by rfl) ?_
        · rfl
        · rw [← h4]; rfl
      · skip
        have h : ¬ 0 < k := of_decide_eq_false h
        rw [if_neg h] at h4
        refine Cd.skip ?_
        refine Cd.seq ?_
        refine Cd.region ?_
        refine Ls.ev (some 68) (Ev.move (show Oper.op _ = Op.move (Operand.tmp 5) from rfl) (by rfl)) (by rfl) (by rfl) ?_
        refine Ls.ev (some 4) (Ev.assign (show Oper.op _ = Op.assign (Operand.tmp 68) from rfl) (by rfl)) (by rfl) (by rfl) ?_
        refine Ls.nil ?_
        refine Cd.ret ?_
        refine Ent.ret (((Ao, co), ms)) (by rw [← h4]) (Res.tmp (by rfl) (by rfl)) ?_ [2, 1, 0] (by rfl) ?_
        · rfl
        · rw [← h4]; rfl
end Go.Proofs.Ytgidkjfakecniaa
