/- the document's caller: wait, Tick, Hear, Call -/
import Derived.Test.YtgidkjfakecniaaRsM
import Derived.Test.YtgidkjfakecniaaRsC
namespace Go.Proofs.Ytgidkjfakecniaa
open Go.RowKit
theorem wait_sl (tr : Int) (h1 : 1 ≤ tr) (h2 : tr ≤ 5) : Fn Try.prog 36 #[.int .i64 tr] [] Unit (fun _ => .int .i64 (2 ^ tr.toNat)) (fun _ => []) (fun _ => True) := by
  refine Fn.enter Try.func36 rfl Try.ntmps36 (by rfl) ?_
  intro w0
  refine Cd.seq ?_
  refine Cd.region ?_
  refine Ls.ev (some 2) (Ev.assign (show Oper.op _ = Op.assign (Operand.const (Value.int IntKind.i64 0)) from rfl) (by rfl)) (by rfl) (by rfl) ?_
  refine Ls.nil ?_
  refine Cd.seq ?_
  refine Cd.region ?_
  refine Ls.ev (some 3) (Ev.assign (show Oper.op _ = Op.assign (Operand.const (Value.int IntKind.i64 2)) from rfl) (by rfl)) (by rfl) (by rfl) ?_
  refine Ls.nil ?_
  refine Cd.seq ?_
  refine Cd.seq ?_
  refine Cd.region ?_
  refine Ls.ev (some 4) (Ev.assign (show Oper.op _ = Op.assign (Operand.const (Value.int IntKind.i64 1)) from rfl) (by rfl)) (by rfl) (by rfl) ?_
  refine Ls.nil ?_
  refine Cd.block ?_
  refine Cd.loop (ι := Nat) (fun j => [(0, .int .i64 tr), (3, .int .i64 (2 ^ j)), (4, .int .i64 j)]) (fun _ => []) (fun j => 1 ≤ j ∧ (j : Int) ≤ tr) (fun j => (tr - j).toNat) (1) (⟨by decide, h1⟩) ?_ rfl ?_
  · (repeat (first | exact trivial | refine ⟨by rfl, ?_⟩))
  rintro j ⟨hj1, hj2⟩
  refine Cd.seq ?_
  refine Cd.seq ?_
  refine Cd.region ?_
  refine Ls.ev (some 5) (Ev.move (show Oper.op _ = Op.move (Operand.tmp 4) from rfl) (by rfl)) (by rfl) (by rfl) ?_
  refine Ls.ev (some 6) (Ev.move (show Oper.op _ = Op.move (Operand.tmp 0) from rfl) (by rfl)) (by rfl) (by rfl) ?_
  refine Ls.ev (some 7) (Ev.lss (show Oper.op _ = Op.binOp BinOp.lss 3 (Operand.tmp 5) (Operand.tmp 6) 3 from rfl) (by rfl) (by rfl)) (by rfl) (by rfl) ?_
  refine Ls.nil ?_
  refine Cd.cond _ (by rfl) (fun h => ?_) (fun h => ?_)
  · skip
    have h : (j : Int) < tr := of_decide_eq_true h
    obtain ⟨p, hp⟩ : ∃ p : Int, p = 2 ^ j := ⟨_, rfl⟩
    have hp4 : 0 ≤ p ∧ p ≤ 16 := by
      have : j = 1 ∨ j = 2 ∨ j = 3 ∨ j = 4 := by omega
      rw [hp]
      rcases this with rfl | rfl | rfl | rfl <;> decide
    have e : 2 * p = 2 ^ (j + 1) := by rw [hp, Int.pow_succ]; omega
    rw [← hp]
    refine Cd.skip ?_
    refine Cd.seq ?_
    refine Cd.block ?_
    refine Cd.region ?_
    refine Ls.ev (some 10) (Ev.move (show Oper.op _ = Op.move (Operand.tmp 3) from rfl) (by rfl)) (by rfl) (by rfl) ?_
    refine Ls.ev (some 11) (Ev.mulI (show Oper.op _ = Op.binOp BinOp.mul 3 (Operand.const (Value.int IntKind.i64 2)) (Operand.tmp 10) 3 from rfl) (by rfl) (by rfl) (by omega)) (by rfl) (by rfl) ?_
    refine Ls.ev (some 3) (Ev.assign (show Oper.op _ = Op.assign (Operand.tmp 11) from rfl) (by rfl)) (by rfl) (by rfl) ?_
    refine Ls.nil ?_
    refine Cd.region ?_
    refine Ls.ev (some 8) (Ev.move (show Oper.op _ = Op.move (Operand.tmp 4) from rfl) (by rfl)) (by rfl) (by rfl) ?_
    refine Ls.ev (some 9) (Ev.addI (show Oper.op _ = Op.binOp BinOp.add 3 (Operand.tmp 8) (Operand.const (Value.int IntKind.i64 1)) 3 from rfl) (by rfl) (by rfl) (by omega)) (by rfl) (by rfl) ?_
    refine Ls.ev (some 4) (Ev.assign (show Oper.op _ = Op.assign (Operand.tmp 9) from rfl) (by rfl)) (by rfl) (by rfl) ?_
    refine Ls.nil ?_
    rw [e]
    refine Ent.inv (j + 1) ?_ ?_ ?_
    · (try dsimp only); exact ⟨⟨by omega, by omega⟩, by show (tr - ((j + 1 : Nat) : Int)).toNat < (tr - (j : Int)).toNat; omega⟩
    · (repeat (first | exact trivial | refine ⟨by rfl, ?_⟩ | refine ⟨by simp only [List.length_append, List.length_cons, List.length_nil]; rfl, ?_⟩ | refine ⟨by push_cast; rfl, ?_⟩))
    · rfl
  · skip
    have h : ¬ (j : Int) < tr := of_decide_eq_false h
    obtain rfl : (j : Int) = tr := by omega
    refine Cd.exit ?_
    refine Cd.seq ?_
    refine Cd.region ?_
    refine Ls.ev (some 12) (Ev.move (show Oper.op _ = Op.move (Operand.tmp 3) from rfl) (by rfl)) (by rfl) (by rfl) ?_
    refine Ls.ev (some 2) (Ev.assign (show Oper.op _ = Op.assign (Operand.tmp 12) from rfl) (by rfl)) (by rfl) (by rfl) ?_
    refine Ls.nil ?_
    refine Cd.ret ?_
    refine Ent.ret (()) (trivial) (Res.tmp (by rfl) (by rfl)) ?_ [] (by rfl) ?_
    · rfl
    · rfl
theorem flatM_snoc (f0 to kd i0 vb ep st : Int) (n k : Nat) (A : Option Addr) (c : Nat) : flatM f0 to kd i0 vb ep st n (List.replicate k (A, c)) ++ msg f0 to kd i0 vb ep st A n c = flatM f0 to kd i0 vb ep st n (List.replicate (k + 1) (A, c)) := by
  rw [List.replicate_succ']
  simp [flatM]
structure RTI where
  i : Nat
  x : RS
  O : Option Addr
  oc : Nat
set_option maxHeartbeats 1000000 in
theorem refTick_sl (fr id f0 to kd i0 vb ep st n0 : Int) (A : Option Addr) (n c : Nat) (x0 : RS) (hk : x0.k = 0) (hx : x0.fit) (hn0 : -9223372036854775808 ≤ n0 ∧ n0 ≤ 9223372036854775807) :
    Fn Try.prog 17 #[.agg (callC fr id x0.b (msg f0 to kd i0 vb ep st A n c) x0.tr x0.s).toArray, .int .i64 n0] [] (RS × (Option Addr × Nat)) (fun p => .tuple #[.agg (callC fr id p.1.b (msg f0 to kd i0 vb ep st A n c) p.1.tr p.1.s).toArray, .slice p.2.1 p.1.k p.2.2])
      (fun p => [row p.2.1 p.1.k p.2.2 41 19 (flatM f0 to kd i0 vb ep st n (List.replicate p.1.k (A, c)))]) (fun p => p.1 = riter (min 100 n0.toNat) x0) := by
  obtain ⟨b0, tr0, s0, k0⟩ := x0
  dsimp only at hk
  subst hk
  refine Fn.enter Try.func17 rfl Try.ntmps17 (by rfl) ?_
  intro w0
  refine Cd.seq ?_
  refine Cd.region ?_
  refine Ls.does (some 2) (Does.box (show Oper.op _ = Op.box 53 (Operand.tmp 0) from rfl) (by rfl)) (by rfl) (by rfl) ?_
  intro g1 _
  refine Ls.does (some 4) (Does.alloc (cs := [.int .i64 0, .int .i64 0, .bool false, .int .i64 0, .int .i64 0, .int .i64 0, .int .i64 0, .int .i64 0, .int .i64 0, .int .i64 0, .slice none 0 0, .slice none 0 0, .bool false, .int .i64 0, .int .i64 0, .int .i64 0, .int .i64 0, .slice none 0 0, .int .i64 0, .int .i64 0, .int .i64 0, .slice none 0 0, .int .i64 0, .int .i64 0]) (show Oper.op _ = Op.alloc 53 from rfl) (ZeroIs.mk (.agg #[.int .i64 0, .int .i64 0, .bool false, .int .i64 0, .int .i64 0, .int .i64 0, .int .i64 0, .int .i64 0, .int .i64 0, .int .i64 0, .slice none 0 0, .slice none 0 0, .bool false, .int .i64 0, .int .i64 0, .int .i64 0, .int .i64 0, .slice none 0 0, .int .i64 0, .int .i64 0, .int .i64 0, .slice none 0 0, .int .i64 0, .int .i64 0]) (by kernel_rfl) (by rfl))) (by rfl) (by rfl) ?_
  intro g2 _
  refine Ls.ev (some 5) (Ev.assign (show Oper.op _ = Op.assign (Operand.const (Value.slice none 0 0)) from rfl) (by rfl)) (by rfl) (by rfl) ?_
  refine Ls.nil ?_
  refine Cd.seq ?_
  refine Cd.region ?_
  refine Ls.ev (some 6) (Ev.assign (show Oper.op _ = Op.assign (Operand.const (Value.slice none 0 0)) from rfl) (by rfl)) (by rfl) (by rfl) ?_
  refine Ls.nil ?_
  refine Cd.seq ?_
  refine Cd.seq ?_
  refine Cd.region ?_
  refine Ls.ev (some 7) (Ev.assign (show Oper.op _ = Op.assign (Operand.const (Value.int IntKind.i64 0)) from rfl) (by rfl)) (by rfl) (by rfl) ?_
  refine Ls.nil ?_
  refine Cd.block ?_
  refine Ent.nil 41 19 (Ent.pick [0, 2, 1] (by rfl) ?_)
  refine Cd.loop (ι := RTI) (fun j => [(1, .int .i64 n0), (2, .pointer (some ⟨g1, 0, none⟩)), (4, .pointer (some ⟨g2, 0, none⟩)), (6, .slice j.O j.x.k j.oc), (7, .int .i64 j.i)]) (fun j => [row j.O j.x.k j.oc 41 19 (flatM f0 to kd i0 vb ep st n (List.replicate j.x.k (A, c))), blk g1 53 (callC fr id j.x.b (msg f0 to kd i0 vb ep st A n c) j.x.tr j.x.s), blk g2 53 (callC 0 0 false (msg 0 0 0 0 0 0 0 none 0 0) 0 0)]) (fun j => j.x = riter j.i ⟨b0, tr0, s0, 0⟩ ∧ j.i ≤ 100 ∧ j.i ≤ n0.toNat ∧ j.x.k ≤ j.i ∧ j.x.fit) (fun j => 100 - j.i) (⟨0, ⟨b0, tr0, s0, 0⟩, none, 0⟩) (⟨rfl, Nat.zero_le _, Nat.zero_le _, Nat.le_refl _, hx⟩) ?_ rfl ?_
  · (repeat (first | exact trivial | refine ⟨by rfl, ?_⟩))
  rintro ⟨i, x, O, oc⟩ ⟨h1, h2, h3, h4, h5⟩
  dsimp only at h1 h2 h3 h4 h5 ⊢
  refine Cd.seq ?_
  refine Cd.seq ?_
  refine Cd.region ?_
  refine Ls.ev (some 8) (Ev.move (show Oper.op _ = Op.move (Operand.tmp 7) from rfl) (by rfl)) (by rfl) (by rfl) ?_
  refine Ls.ev (some 9) (Ev.move (show Oper.op _ = Op.move (Operand.tmp 1) from rfl) (by rfl)) (by rfl) (by rfl) ?_
  refine Ls.ev (some 10) (Ev.lss (show Oper.op _ = Op.binOp BinOp.lss 3 (Operand.tmp 8) (Operand.tmp 9) 3 from rfl) (by rfl) (by rfl)) (by rfl) (by rfl) ?_
  refine Ls.ev (some 11) (Ev.move (show Oper.op _ = Op.move (Operand.tmp 10) from rfl) (by rfl)) (by rfl) (by rfl) ?_
  refine Ent.split 11 (by rfl) (fun h => ?_) (fun h => ?_)
  · skip
    have hi : min 100 n0.toNat = i := by have := of_decide_eq_false h; omega
    refine Ls.pass (some 12) (by rfl) (by rfl) ?_
    refine Ls.pass (some 13) (by rfl) (by rfl) ?_
    refine Ls.ev (some 14) (Ev.pickF (show Oper.op _ = Op.pick (Operand.tmp 11) (Operand.tmp 13) (Operand.const (Value.bool false)) from rfl) (by rfl) (by rfl)) (by rfl) (by rfl) ?_
    refine Ls.nil ?_
    refine Cd.cond_false (by rfl) (rfl) ?_
    refine Cd.exit ?_
    refine Cd.seq ?_
    refine Cd.region ?_
    refine Ls.ev (some 44) (Ev.loads 1 (show Oper.op _ = Op.load 53 (Operand.tmp 2) from rfl) (by rfl) (by rfl) (n := 24) (by kernel_rfl) (by rfl) (by rfl)) (by rfl) (by rfl) ?_
    refine Ls.ev (some 45) (Ev.move (show Oper.op _ = Op.move (Operand.tmp 6) from rfl) (by rfl)) (by rfl) (by rfl) ?_
    refine Ls.does none (Does.store 2 (show Oper.op _ = Op.store 53 (Operand.tmp 4) (Operand.tmp 44) from rfl) (by rfl) (by rfl) (by rfl) (by kernel_rfl) (by rfl) (by kernel_rfl) (by rfl)) (by rfl) (by rfl) ?_
    intro _ _
    refine Ls.ev (some 5) (Ev.assign (show Oper.op _ = Op.assign (Operand.tmp 45) from rfl) (by rfl)) (by rfl) (by rfl) ?_
    refine Ls.nil ?_
    refine Cd.ret ?_
    refine Ent.ret ((x, (O, oc))) (by rw [hi]; exact h1) (Res.cell_tmp 2 (by rfl) (by rfl) (by rfl) (n := 24) (by kernel_rfl) (by rfl) (by rfl) (by rfl)) ?_ [0] (by rfl) ?_
    · rfl
    · rfl
  skip
  have h : (i : Int) < n0 := of_decide_eq_true h
  refine Ls.ev (some 12) (Ev.move (show Oper.op _ = Op.move (Operand.tmp 7) from rfl) (by rfl)) (by rfl) (by rfl) ?_
  refine Ls.ev (some 13) (Ev.lss (show Oper.op _ = Op.binOp BinOp.lss 3 (Operand.tmp 12) (Operand.const (Value.int IntKind.i64 100)) 3 from rfl) (by rfl) (by rfl)) (by rfl) (by rfl) ?_
  refine Ls.ev (some 14) (Ev.pickT (show Oper.op _ = Op.pick (Operand.tmp 11) (Operand.tmp 13) (Operand.const (Value.bool false)) from rfl) (by rfl) (by rfl)) (by rfl) (by rfl) ?_
  refine Ls.nil ?_
  refine Cd.cond _ (by rfl) (fun h7 => ?_) (fun h7 => ?_)
  · skip
    have h7 : i < 100 := by have := of_decide_eq_true h7; omega
    obtain ⟨b, tr, s, k⟩ := x
    dsimp only at h1 h4 h5 ⊢
    have hst : riter (i + 1) ⟨b0, tr0, s0, 0⟩ = rstep ⟨b, tr, s, k⟩ := by rw [h1]; rfl
    have hs1 := fit_step h5
    have hk1 := k_step ⟨b, tr, s, k⟩
    dsimp only at hk1
    cases b
    · skip
      have e : rstep ⟨false, tr, s, k⟩ = ⟨false, tr, s, k⟩ := rfl
      rw [e] at hst
      refine Cd.skip ?_
      refine Cd.seq ?_
      refine Cd.block ?_
      refine Cd.seq ?_
      refine Cd.seq ?_
      refine Cd.region ?_
      refine Ls.ev (some 17) (Ev.fieldAddr (k := 2) (show Oper.op _ = Op.fieldAddr 53 (Operand.tmp 2) 2 from rfl) (by rfl) (by kernel_rfl) (by rfl)) (by rfl) (by rfl) ?_
      refine Ls.ev (some 18) (Ev.load 1 (show Oper.op _ = Op.load 4 (Operand.tmp 17) from rfl) (by rfl) (by rfl) (by kernel_rfl) (by rfl)) (by rfl) (by rfl) ?_
      refine Ls.ev (some 19) (Ev.not (show Oper.op _ = Op.unOp UnOp.not 4 (Operand.tmp 18) from rfl) (by rfl)) (by rfl) (by rfl) ?_
      refine Ls.nil ?_
      refine Cd.cond_true (by rfl) (rfl) ?_
      refine Cd.exit ?_
      refine Cd.region ?_
      refine Ls.ev (some 15) (Ev.move (show Oper.op _ = Op.move (Operand.tmp 7) from rfl) (by rfl)) (by rfl) (by rfl) ?_
      refine Ls.ev (some 16) (Ev.addI (show Oper.op _ = Op.binOp BinOp.add 3 (Operand.tmp 15) (Operand.const (Value.int IntKind.i64 1)) 3 from rfl) (by rfl) (by rfl) (by omega)) (by rfl) (by rfl) ?_
      refine Ls.ev (some 7) (Ev.assign (show Oper.op _ = Op.assign (Operand.tmp 16) from rfl) (by rfl)) (by rfl) (by rfl) ?_
      refine Ls.nil ?_
      refine Ent.inv (⟨i + 1, ⟨false, tr, s, k⟩, O, oc⟩) ?_ ?_ ?_
      · (try dsimp only); exact ⟨⟨hst.symm, h7, by show i + 1 ≤ n0.toNat; omega, by show k ≤ i + 1; omega, h5⟩, by show 100 - (i + 1) < 100 - i; omega⟩
      · (repeat (first | exact trivial | refine ⟨by rfl, ?_⟩ | refine ⟨by simp only [List.length_append, List.length_cons, List.length_nil]; rfl, ?_⟩ | refine ⟨by push_cast; rfl, ?_⟩))
      · rfl
    · skip
      obtain ⟨p1, p2, p3, p4⟩ := h5 rfl
      dsimp only at p1 p2 p3 p4
      obtain ⟨q1, q2, q3⟩ := pow_five p1 p2
      refine Cd.skip ?_
      refine Cd.seq ?_
      refine Cd.block ?_
      refine Cd.seq ?_
      refine Cd.seq ?_
      refine Cd.region ?_
      refine Ls.ev (some 17) (Ev.fieldAddr (k := 2) (show Oper.op _ = Op.fieldAddr 53 (Operand.tmp 2) 2 from rfl) (by rfl) (by kernel_rfl) (by rfl)) (by rfl) (by rfl) ?_
      refine Ls.ev (some 18) (Ev.load 1 (show Oper.op _ = Op.load 4 (Operand.tmp 17) from rfl) (by rfl) (by rfl) (by kernel_rfl) (by rfl)) (by rfl) (by rfl) ?_
      refine Ls.ev (some 19) (Ev.not (show Oper.op _ = Op.unOp UnOp.not 4 (Operand.tmp 18) from rfl) (by rfl)) (by rfl) (by rfl) ?_
      refine Ls.nil ?_
      refine Cd.cond_false (by rfl) (rfl) ?_
      refine Cd.skip ?_
      refine Cd.seq ?_
      refine Cd.region ?_
      refine Ls.ev (some 20) (Ev.fieldAddr (k := 23) (show Oper.op _ = Op.fieldAddr 53 (Operand.tmp 2) 5 from rfl) (by rfl) (by kernel_rfl) (by rfl)) (by rfl) (by rfl) ?_
      refine Ls.ev (some 21) (Ev.load 1 (show Oper.op _ = Op.load 3 (Operand.tmp 20) from rfl) (by rfl) (by rfl) (by kernel_rfl) (by rfl)) (by rfl) (by rfl) ?_
      refine Ls.ev (some 22) (Ev.addI (show Oper.op _ = Op.binOp BinOp.add 3 (Operand.tmp 21) (Operand.const (Value.int IntKind.i64 1)) 3 from rfl) (by rfl) (by rfl) (by omega)) (by rfl) (by rfl) ?_
      refine Ls.ev (some 23) (Ev.fieldAddr (k := 23) (show Oper.op _ = Op.fieldAddr 53 (Operand.tmp 2) 5 from rfl) (by rfl) (by kernel_rfl) (by rfl)) (by rfl) (by rfl) ?_
      refine Ls.does none (Does.store 1 (show Oper.op _ = Op.store 3 (Operand.tmp 23) (Operand.tmp 22) from rfl) (by rfl) (by rfl) (by rfl) (by kernel_rfl) (by rfl) (by kernel_rfl) (by rfl)) (by rfl) (by rfl) ?_
      intro _ _
      refine Ls.nil ?_
      refine Cd.seq ?_
      refine Cd.seq ?_
      refine Cd.draw [] (by kernel_rfl) ?_
      refine Rg.ev 0 (by rfl) (fun _ h => h) (Ev.fieldAddr (k := 23) (show Oper.op _ = Op.fieldAddr 53 (Operand.tmp 2) 5 from rfl) (by rfl) (by kernel_rfl) (by rfl)) (by rfl) (some 24) (by rfl) (by kernel_rfl) (by kernel_rfl) (by kernel_rfl) (by kernel_rfl) ?_
      refine Rg.ev 1 (by rfl) (fun _ h => h) (Ev.load 1 (show Oper.op _ = Op.load 3 (Operand.tmp 24) from rfl) (by rfl) (by rfl) (by kernel_rfl) (by rfl)) (by rfl) (some 25) (by rfl) (by kernel_rfl) (by kernel_rfl) (by kernel_rfl) (by kernel_rfl) ?_
      refine Rg.ev 2 (by rfl) (fun _ h => h) (Ev.fieldAddr (k := 22) (show Oper.op _ = Op.fieldAddr 53 (Operand.tmp 2) 4 from rfl) (by rfl) (by kernel_rfl) (by rfl)) (by rfl) (some 26) (by rfl) (by kernel_rfl) (by kernel_rfl) (by kernel_rfl) (by kernel_rfl) ?_
      refine Rg.ev 3 (by rfl) (fun _ h => h) (Ev.load 1 (show Oper.op _ = Op.load 3 (Operand.tmp 26) from rfl) (by rfl) (by rfl) (by kernel_rfl) (by rfl)) (by rfl) (some 27) (by rfl) (by kernel_rfl) (by kernel_rfl) (by kernel_rfl) (by kernel_rfl) ?_
      refine Rg.does 4 (by rfl) (by kernel_rfl) (Does.call [0, 1, 2] (show Oper.op _ = Op.call { callee := Callee.value (Operand.func 36), args := #[Operand.tmp 27], argTypes := #[3] } from rfl) Try.func36 (by kernel_rfl) (by kernel_rfl) (wait_sl tr p1 p2) (by rfl) (by rfl) (by rfl)) (by rfl) (some 28) (by rfl) (fun _ _ h => h) ?_
      intro _ _
      refine Rg.ev 5 (by rfl) (fun _ h => h) (Ev.lss (show Oper.op _ = Op.binOp BinOp.lss 3 (Operand.tmp 25) (Operand.tmp 28) 3 from rfl) (by rfl) (by rfl)) (by rfl) (some 29) (by rfl) (by kernel_rfl) (by kernel_rfl) (by kernel_rfl) (by kernel_rfl) ?_
      refine Rg.done (by kernel_rfl) ?_ _
      refine Cd.cond _ (by rfl) (fun hw => ?_) (fun hw => ?_)
      · skip
        have hw : s + 1 < 2 ^ tr.toNat := of_decide_eq_true hw
        have e : rstep ⟨true, tr, s, k⟩ = ⟨true, tr, s + 1, k⟩ := by unfold rstep; rw [if_neg (by simp), if_pos hw]
        rw [e] at hst hs1
        refine Cd.exit ?_
        refine Cd.region ?_
        refine Ls.ev (some 15) (Ev.move (show Oper.op _ = Op.move (Operand.tmp 7) from rfl) (by rfl)) (by rfl) (by rfl) ?_
        refine Ls.ev (some 16) (Ev.addI (show Oper.op _ = Op.binOp BinOp.add 3 (Operand.tmp 15) (Operand.const (Value.int IntKind.i64 1)) 3 from rfl) (by rfl) (by rfl) (by omega)) (by rfl) (by rfl) ?_
        refine Ls.ev (some 7) (Ev.assign (show Oper.op _ = Op.assign (Operand.tmp 16) from rfl) (by rfl)) (by rfl) (by rfl) ?_
        refine Ls.nil ?_
        refine Ent.inv (⟨i + 1, ⟨true, tr, s + 1, k⟩, O, oc⟩) ?_ ?_ ?_
        · (try dsimp only); exact ⟨⟨hst.symm, h7, by show i + 1 ≤ n0.toNat; omega, by show k ≤ i + 1; omega, hs1⟩, by show 100 - (i + 1) < 100 - i; omega⟩
        · (repeat (first | exact trivial | refine ⟨by rfl, ?_⟩ | refine ⟨by simp only [List.length_append, List.length_cons, List.length_nil]; rfl, ?_⟩ | refine ⟨by push_cast; rfl, ?_⟩))
        · rfl
      · skip
        have hw : ¬ s + 1 < 2 ^ tr.toNat := of_decide_eq_false hw
        refine Cd.skip ?_
        refine Cd.seq ?_
        refine Cd.seq ?_
        refine Cd.region ?_
        refine Ls.ev (some 30) (Ev.fieldAddr (k := 22) (show Oper.op _ = Op.fieldAddr 53 (Operand.tmp 2) 4 from rfl) (by rfl) (by kernel_rfl) (by rfl)) (by rfl) (by rfl) ?_
        refine Ls.ev (some 31) (Ev.load 1 (show Oper.op _ = Op.load 3 (Operand.tmp 30) from rfl) (by rfl) (by rfl) (by kernel_rfl) (by rfl)) (by rfl) (by rfl) ?_
        refine Ls.ev (some 32) (Ev.eql (show Oper.op _ = Op.binOp BinOp.eql 3 (Operand.tmp 31) (Operand.const (Value.int IntKind.i64 5)) 3 from rfl) (by rfl) (by rfl)) (by rfl) (by rfl) ?_
        refine Ls.nil ?_
        refine Cd.cond _ (by rfl) (fun h5' => ?_) (fun h5' => ?_)
        · skip
          have h5' : tr = 5 := of_decide_eq_true h5'
          have e : rstep ⟨true, tr, s, k⟩ = ⟨false, tr, s + 1, k⟩ := by unfold rstep; rw [if_neg (by simp), if_neg hw, if_pos h5']
          rw [e] at hst hs1
          refine Cd.seq ?_
          refine Cd.region ?_
          refine Ls.ev (some 33) (Ev.fieldAddr (k := 2) (show Oper.op _ = Op.fieldAddr 53 (Operand.tmp 2) 2 from rfl) (by rfl) (by kernel_rfl) (by rfl)) (by rfl) (by rfl) ?_
          refine Ls.does none (Does.store 1 (show Oper.op _ = Op.store 4 (Operand.tmp 33) (Operand.const (Value.bool false)) from rfl) (by rfl) (by rfl) (by rfl) (by kernel_rfl) (by rfl) (by kernel_rfl) (by rfl)) (by rfl) (by rfl) ?_
          intro _ _
          refine Ls.nil ?_
          refine Cd.exit ?_
          refine Cd.region ?_
          refine Ls.ev (some 15) (Ev.move (show Oper.op _ = Op.move (Operand.tmp 7) from rfl) (by rfl)) (by rfl) (by rfl) ?_
          refine Ls.ev (some 16) (Ev.addI (show Oper.op _ = Op.binOp BinOp.add 3 (Operand.tmp 15) (Operand.const (Value.int IntKind.i64 1)) 3 from rfl) (by rfl) (by rfl) (by omega)) (by rfl) (by rfl) ?_
          refine Ls.ev (some 7) (Ev.assign (show Oper.op _ = Op.assign (Operand.tmp 16) from rfl) (by rfl)) (by rfl) (by rfl) ?_
          refine Ls.nil ?_
          refine Ent.inv (⟨i + 1, ⟨false, tr, s + 1, k⟩, O, oc⟩) ?_ ?_ ?_
          · (try dsimp only); exact ⟨⟨hst.symm, h7, by show i + 1 ≤ n0.toNat; omega, by show k ≤ i + 1; omega, hs1⟩, by show 100 - (i + 1) < 100 - i; omega⟩
          · (repeat (first | exact trivial | refine ⟨by rfl, ?_⟩ | refine ⟨by simp only [List.length_append, List.length_cons, List.length_nil]; rfl, ?_⟩ | refine ⟨by push_cast; rfl, ?_⟩))
          · rfl
        · skip
          have h5' : tr ≠ 5 := of_decide_eq_false h5'
          have e : rstep ⟨true, tr, s, k⟩ = ⟨true, tr + 1, 0, k + 1⟩ := by unfold rstep; rw [if_neg (by simp), if_neg hw, if_neg h5']
          rw [e] at hst hs1 hk1
          refine Cd.skip ?_
          refine Cd.seq ?_
          refine Cd.region ?_
          refine Ls.ev (some 34) (Ev.fieldAddr (k := 22) (show Oper.op _ = Op.fieldAddr 53 (Operand.tmp 2) 4 from rfl) (by rfl) (by kernel_rfl) (by rfl)) (by rfl) (by rfl) ?_
          refine Ls.ev (some 35) (Ev.load 1 (show Oper.op _ = Op.load 3 (Operand.tmp 34) from rfl) (by rfl) (by rfl) (by kernel_rfl) (by rfl)) (by rfl) (by rfl) ?_
          refine Ls.ev (some 36) (Ev.addI (show Oper.op _ = Op.binOp BinOp.add 3 (Operand.tmp 35) (Operand.const (Value.int IntKind.i64 1)) 3 from rfl) (by rfl) (by rfl) (by omega)) (by rfl) (by rfl) ?_
          refine Ls.ev (some 37) (Ev.fieldAddr (k := 22) (show Oper.op _ = Op.fieldAddr 53 (Operand.tmp 2) 4 from rfl) (by rfl) (by kernel_rfl) (by rfl)) (by rfl) (by rfl) ?_
          refine Ls.does none (Does.store 1 (show Oper.op _ = Op.store 3 (Operand.tmp 37) (Operand.tmp 36) from rfl) (by rfl) (by rfl) (by rfl) (by kernel_rfl) (by rfl) (by kernel_rfl) (by rfl)) (by rfl) (by rfl) ?_
          intro _ _
          refine Ls.nil ?_
          refine Cd.seq ?_
          refine Cd.region ?_
          refine Ls.ev (some 38) (Ev.fieldAddr (k := 23) (show Oper.op _ = Op.fieldAddr 53 (Operand.tmp 2) 5 from rfl) (by rfl) (by kernel_rfl) (by rfl)) (by rfl) (by rfl) ?_
          refine Ls.does none (Does.store 1 (show Oper.op _ = Op.store 3 (Operand.tmp 38) (Operand.const (Value.int IntKind.i64 0)) from rfl) (by rfl) (by rfl) (by rfl) (by kernel_rfl) (by rfl) (by kernel_rfl) (by rfl)) (by rfl) (by rfl) ?_
          intro _ _
          refine Ls.nil ?_
          refine Cd.region ?_
          refine Ls.ev (some 39) (Ev.move (show Oper.op _ = Op.move (Operand.tmp 6) from rfl) (by rfl)) (by rfl) (by rfl) ?_
          refine Ls.ev (some 40) (Ev.fieldAddr (k := 3) (show Oper.op _ = Op.fieldAddr 53 (Operand.tmp 2) 3 from rfl) (by rfl) (by kernel_rfl) (by rfl)) (by rfl) (by rfl) ?_
          refine Ls.ev (some 41) (Ev.loads 1 (show Oper.op _ = Op.load 41 (Operand.tmp 40) from rfl) (by rfl) (by rfl) (n := 19) (by kernel_rfl) (by rfl) (by rfl)) (by rfl) (by rfl) ?_
          refine Ls.does (some 42) (Does.lit (sz := 19) (show Oper.op _ = Op.buildSlice 46 1 #[(0, Operand.tmp 41)] from rfl) (by rfl) Try.underlying46 (by kernel_rfl) (by rfl) (by kernel_rfl)) (by rfl) (by rfl) ?_
          intro g3 _
          refine Ls.does (some 43) (Does.app 1 (show Oper.op _ = Op.call { callee := Callee.builtin Builtin.append, args := #[Operand.tmp 39, Operand.tmp 42], argTypes := #[46, 46] } from rfl) (by rfl) (by rfl) (by rfl) (ReadsIn.row 0 (by rfl)) elem_msg (one_msg f0 to kd i0 vb ep st A n c) (by omega)) (by rfl) (by rfl) ?_
          intro r _
          refine Ls.ev (some 6) (Ev.assign (show Oper.op _ = Op.assign (Operand.tmp 43) from rfl) (by rfl)) (by rfl) (by rfl) ?_
          refine Ls.nil ?_
          refine Cd.region ?_
          refine Ls.ev (some 15) (Ev.move (show Oper.op _ = Op.move (Operand.tmp 7) from rfl) (by rfl)) (by rfl) (by rfl) ?_
          refine Ls.ev (some 16) (Ev.addI (show Oper.op _ = Op.binOp BinOp.add 3 (Operand.tmp 15) (Operand.const (Value.int IntKind.i64 1)) 3 from rfl) (by rfl) (by rfl) (by omega)) (by rfl) (by rfl) ?_
          refine Ls.ev (some 7) (Ev.assign (show Oper.op _ = Op.assign (Operand.tmp 16) from rfl) (by rfl)) (by rfl) (by rfl) ?_
          refine Ls.nil ?_
          refine Ent.pick [1, 2, 3] (by rfl) ?_
          refine Ent.inv (⟨i + 1, ⟨true, tr + 1, 0, k + 1⟩, r.1, r.2⟩) ?_ ?_ ?_
          · (try dsimp only); exact ⟨⟨hst.symm, h7, by show i + 1 ≤ n0.toNat; omega, by show k + 1 ≤ i + 1; omega, hs1⟩, by show 100 - (i + 1) < 100 - i; omega⟩
          · (repeat (first | exact trivial | refine ⟨by rfl, ?_⟩ | refine ⟨by simp only [List.length_append, List.length_cons, List.length_nil]; rfl, ?_⟩ | refine ⟨by push_cast; rfl, ?_⟩))
          · exact cons_eq (congrArg (row r.1 (k + 1) r.2 41 19) (flatM_snoc f0 to kd i0 vb ep st n k A c)) (cons_eq rfl (cons_eq rfl rfl))
  · skip
    have h7 : ¬ i < 100 := by have := of_decide_eq_false h7; omega
    have hi : min 100 n0.toNat = i := by omega
    refine Cd.exit ?_
    refine Cd.seq ?_
    refine Cd.region ?_
    refine Ls.ev (some 44) (Ev.loads 1 (show Oper.op _ = Op.load 53 (Operand.tmp 2) from rfl) (by rfl) (by rfl) (n := 24) (by kernel_rfl) (by rfl) (by rfl)) (by rfl) (by rfl) ?_
    refine Ls.ev (some 45) (Ev.move (show Oper.op _ = Op.move (Operand.tmp 6) from rfl) (by rfl)) (by rfl) (by rfl) ?_
    refine Ls.does none (Does.store 2 (show Oper.op _ = Op.store 53 (Operand.tmp 4) (Operand.tmp 44) from rfl) (by rfl) (by rfl) (by rfl) (by kernel_rfl) (by rfl) (by kernel_rfl) (by rfl)) (by rfl) (by rfl) ?_
    intro _ _
    refine Ls.ev (some 5) (Ev.assign (show Oper.op _ = Op.assign (Operand.tmp 45) from rfl) (by rfl)) (by rfl) (by rfl) ?_
    refine Ls.nil ?_
    refine Cd.ret ?_
    refine Ent.ret ((x, (O, oc))) (by rw [hi]; exact h1) (Res.cell_tmp 2 (by rfl) (by rfl) (by rfl) (n := 24) (by kernel_rfl) (by rfl) (by rfl) (by rfl)) ?_ [0] (by rfl) ?_
    · rfl
    · rfl
end Go.Proofs.Ytgidkjfakecniaa
