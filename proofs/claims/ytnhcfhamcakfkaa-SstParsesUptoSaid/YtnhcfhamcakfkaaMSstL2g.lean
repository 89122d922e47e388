/-
  Texts joined: SstH, SstI, SstPC, SstZ, SstAA, SstAB, SstY.
-/
import Derived.Test.YtnhcfhamcakfkaaMSstL2a
import Derived.Test.YtnhcfhamcakfkaaMSstL2b
import Derived.Test.YtnhcfhamcakfkaaMSstL2e
import Derived.Test.YtnhcfhamcakfkaaMSstL2f
/- the document's tables: convoyref06's Error, Entry, four; convoyref04's Error, Before -/
namespace Go.Proofs.Ytnhcfhamcakfkaa
open Go.RowKit
theorem refBefore_sl (a b : Ety) : Fn Try.prog 38 #[.agg a.enc.toArray, .agg b.enc.toArray] [] Unit (fun _ => .bool (befE a b)) (fun _ => []) (fun _ => True) := by
  refine Fn.enter Try.func38 rfl Try.ntmps38 (by rfl) ?_
  intro w0
  refine Cd.seq ?_
  refine Cd.region ?_
  refine Ls.does (some 2) (Does.box (show Oper.op _ = Op.box 42 (Operand.tmp 0) from rfl) (by rfl)) (by rfl) (by rfl) ?_
  intro g1 _
  refine Ls.does (some 3) (Does.box (show Oper.op _ = Op.box 42 (Operand.tmp 1) from rfl) (by rfl)) (by rfl) (by rfl) ?_
  intro g2 _
  refine Ls.ev (some 4) (Ev.assign (show Oper.op _ = Op.assign (Operand.const (Value.bool false)) from rfl) (by rfl)) (by rfl) (by rfl) ?_
  refine Ls.nil ?_
  refine Cd.seq ?_
  refine Cd.region ?_
  refine Ls.ev (some 5) (Ev.fieldAddr (k := 0) (show Oper.op _ = Op.fieldAddr 42 (Operand.tmp 2) 0 from rfl) (by rfl) (by kernel_rfl) (by rfl)) (by rfl) (by rfl) ?_
  refine Ls.ev (some 6) (Ev.load 1 (show Oper.op _ = Op.load 9 (Operand.tmp 5) from rfl) (by rfl) (by rfl) (by kernel_rfl) (by rfl)) (by rfl) (by rfl) ?_
  refine Ls.ev (some 7) (Ev.fieldAddr (k := 0) (show Oper.op _ = Op.fieldAddr 42 (Operand.tmp 3) 0 from rfl) (by rfl) (by kernel_rfl) (by rfl)) (by rfl) (by rfl) ?_
  refine Ls.ev (some 8) (Ev.load 0 (show Oper.op _ = Op.load 9 (Operand.tmp 7) from rfl) (by rfl) (by rfl) (by kernel_rfl) (by rfl)) (by rfl) (by rfl) ?_
  refine Ls.ev (some 9) (Ev.lssS (show Oper.op _ = Op.binOp BinOp.lss 9 (Operand.tmp 6) (Operand.tmp 8) 9 from rfl) (by rfl) (by rfl)) (by rfl) (by rfl) ?_
  refine Ls.ev (some 10) (Ev.move (show Oper.op _ = Op.move (Operand.tmp 9) from rfl) (by rfl)) (by rfl) (by rfl) ?_
  refine Ent.split 10 (by rfl) (fun h => ?_) (fun h => ?_)
  · skip
    refine Ls.ev (some 11) (Ev.fieldAddr (k := 0) (show Oper.op _ = Op.fieldAddr 42 (Operand.tmp 2) 0 from rfl) (by rfl) (by kernel_rfl) (by rfl)) (by rfl) (by rfl) ?_
    refine Ls.ev (some 12) (Ev.load 1 (show Oper.op _ = Op.load 9 (Operand.tmp 11) from rfl) (by rfl) (by rfl) (by kernel_rfl) (by rfl)) (by rfl) (by rfl) ?_
    refine Ls.ev (some 13) (Ev.fieldAddr (k := 0) (show Oper.op _ = Op.fieldAddr 42 (Operand.tmp 3) 0 from rfl) (by rfl) (by kernel_rfl) (by rfl)) (by rfl) (by rfl) ?_
    refine Ls.ev (some 14) (Ev.load 0 (show Oper.op _ = Op.load 9 (Operand.tmp 13) from rfl) (by rfl) (by rfl) (by kernel_rfl) (by rfl)) (by rfl) (by rfl) ?_
    refine Ls.ev (some 15) (Ev.eqlS (show Oper.op _ = Op.binOp BinOp.eql 9 (Operand.tmp 12) (Operand.tmp 14) 9 from rfl) (by rfl) (by rfl)) (by rfl) (by rfl) ?_
    refine Ls.ev (some 16) (Ev.move (show Oper.op _ = Op.move (Operand.tmp 15) from rfl) (by rfl)) (by rfl) (by rfl) ?_
    refine Ent.split 16 (by rfl) (fun h2 => ?_) (fun h2 => ?_)
    · skip
      refine Ls.pass (some 17) (by rfl) (by rfl) ?_
      refine Ls.pass (some 18) (by rfl) (by rfl) ?_
      refine Ls.pass (some 19) (by rfl) (by rfl) ?_
      refine Ls.pass (some 20) (by rfl) (by rfl) ?_
      refine Ls.pass (some 21) (by rfl) (by rfl) ?_
      refine Ls.ev (some 22) (Ev.pickF (show Oper.op _ = Op.pick (Operand.tmp 16) (Operand.tmp 21) (Operand.const (Value.bool false)) from rfl) (by rfl) (by rfl)) (by rfl) (by rfl) ?_
      refine Ls.ev (some 23) (Ev.pickF (show Oper.op _ = Op.pick (Operand.tmp 10) (Operand.const (Value.bool true)) (Operand.tmp 22) from rfl) (by rfl) (by rfl)) (by rfl) (by rfl) ?_
      refine Ls.ev (some 4) (Ev.assign (show Oper.op _ = Op.assign (Operand.tmp 23) from rfl) (by rfl)) (by rfl) (by rfl) ?_
      refine Ls.nil ?_
      refine Cd.ret ?_
      refine Ent.ret (()) (trivial) (Res.tmp (by rfl) (by rfl)) ?_ [] (by rfl) ?_
      · unfold befE; rw [h, h2]; rfl
      · rfl
    · skip
      refine Ls.ev (some 17) (Ev.fieldAddr (k := 1) (show Oper.op _ = Op.fieldAddr 42 (Operand.tmp 2) 1 from rfl) (by rfl) (by kernel_rfl) (by rfl)) (by rfl) (by rfl) ?_
      refine Ls.ev (some 18) (Ev.load 1 (show Oper.op _ = Op.load 3 (Operand.tmp 17) from rfl) (by rfl) (by rfl) (by kernel_rfl) (by rfl)) (by rfl) (by rfl) ?_
      refine Ls.ev (some 19) (Ev.fieldAddr (k := 1) (show Oper.op _ = Op.fieldAddr 42 (Operand.tmp 3) 1 from rfl) (by rfl) (by kernel_rfl) (by rfl)) (by rfl) (by rfl) ?_
      refine Ls.ev (some 20) (Ev.load 0 (show Oper.op _ = Op.load 3 (Operand.tmp 19) from rfl) (by rfl) (by rfl) (by kernel_rfl) (by rfl)) (by rfl) (by rfl) ?_
      refine Ls.ev (some 21) (Ev.gtr (show Oper.op _ = Op.binOp BinOp.gtr 3 (Operand.tmp 18) (Operand.tmp 20) 3 from rfl) (by rfl) (by rfl)) (by rfl) (by rfl) ?_
      refine Ls.ev (some 22) (Ev.pickT (show Oper.op _ = Op.pick (Operand.tmp 16) (Operand.tmp 21) (Operand.const (Value.bool false)) from rfl) (by rfl) (by rfl)) (by rfl) (by rfl) ?_
      refine Ls.ev (some 23) (Ev.pickF (show Oper.op _ = Op.pick (Operand.tmp 10) (Operand.const (Value.bool true)) (Operand.tmp 22) from rfl) (by rfl) (by rfl)) (by rfl) (by rfl) ?_
      refine Ls.ev (some 4) (Ev.assign (show Oper.op _ = Op.assign (Operand.tmp 23) from rfl) (by rfl)) (by rfl) (by rfl) ?_
      refine Ls.nil ?_
      refine Cd.ret ?_
      refine Ent.ret (()) (trivial) (Res.tmp (by rfl) (by rfl)) ?_ [] (by rfl) ?_
      · unfold befE; rw [h, h2]; rfl
      · rfl
  · skip
    refine Ls.pass (some 11) (by rfl) (by rfl) ?_
    refine Ls.pass (some 12) (by rfl) (by rfl) ?_
    refine Ls.pass (some 13) (by rfl) (by rfl) ?_
    refine Ls.pass (some 14) (by rfl) (by rfl) ?_
    refine Ls.pass (some 15) (by rfl) (by rfl) ?_
    refine Ls.pass (some 16) (by rfl) (by rfl) ?_
    refine Ls.pass (some 17) (by rfl) (by rfl) ?_
    refine Ls.pass (some 18) (by rfl) (by rfl) ?_
    refine Ls.pass (some 19) (by rfl) (by rfl) ?_
    refine Ls.pass (some 20) (by rfl) (by rfl) ?_
    refine Ls.pass (some 21) (by rfl) (by rfl) ?_
    refine Ls.pass (some 22) (by rfl) (by rfl) ?_
    refine Ls.ev (some 23) (Ev.pickT (show Oper.op _ = Op.pick (Operand.tmp 10) (Operand.const (Value.bool true)) (Operand.tmp 22) from rfl) (by rfl) (by rfl)) (by rfl) (by rfl) ?_
    refine Ls.ev (some 4) (Ev.assign (show Oper.op _ = Op.assign (Operand.tmp 23) from rfl) (by rfl)) (by rfl) (by rfl) ?_
    refine Ls.nil ?_
    refine Cd.ret ?_
    refine Ent.ret (()) (trivial) (Res.tmp (by rfl) (by rfl)) ?_ [] (by rfl) ?_
    · unfold befE; rw [h]; rfl
    · rfl
def bad2' (e : Ety) : Bool := decide (e.seq < 1) || (decide (4611686018427387904 < e.seq) || (e.del && decide ((0 : Int) < e.value.size)))
theorem bad2_eq (e : Ety) : bad2' e = bad2 e := by
  unfold bad2' bad2
  have h : decide ((0 : Int) < e.value.size) = decide (e.value ≠ ⟨#[]⟩) := by
    rw [decide_eq_decide]
    constructor
    · rintro h1 h2
      rw [h2] at h1
      exact absurd h1 (by decide)
    · intro h1
      rcases Nat.eq_zero_or_pos e.value.size with h2 | h2
      · exfalso
        apply h1
        have h3 : e.value.data.size = 0 := h2
        have h4 : e.value.data = #[] := Array.eq_empty_of_size_eq_zero h3
        cases hv : e.value
        rw [hv] at h4
        dsimp only at h4
        rw [h4]
      · omega
  rw [h]
theorem refErr_sl (e : Ety) : Fn Try.prog 37 #[.agg e.enc.toArray] [] Unit (fun _ => .int .i64 (errE e)) (fun _ => []) (fun _ => True) := by
  refine Fn.enter Try.func37 rfl Try.ntmps37 (by rfl) ?_
  intro w0
  refine Cd.seq ?_
  refine Cd.region ?_
  refine Ls.does (some 1) (Does.box (show Oper.op _ = Op.box 42 (Operand.tmp 0) from rfl) (by rfl)) (by rfl) (by rfl) ?_
  intro g1 _
  refine Ls.ev (some 2) (Ev.assign (show Oper.op _ = Op.assign (Operand.const (Value.int IntKind.i64 0)) from rfl) (by rfl)) (by rfl) (by rfl) ?_
  refine Ls.nil ?_
  refine Cd.seq ?_
  refine Cd.seq ?_
  refine Cd.cut (ι := Unit) (fun _ => [(1, .pointer (some ⟨g1, 0, none⟩)), (12, .bool (bad1 e))]) (fun _ => [blk g1 42 e.enc]) (fun _ => True) ?_ ?_
  · skip
    refine Cd.region ?_
    refine Ls.ev (some 3) (Ev.fieldAddr (k := 0) (show Oper.op _ = Op.fieldAddr 42 (Operand.tmp 1) 0 from rfl) (by rfl) (by kernel_rfl) (by rfl)) (by rfl) (by rfl) ?_
    refine Ls.ev (some 4) (Ev.load 0 (show Oper.op _ = Op.load 9 (Operand.tmp 3) from rfl) (by rfl) (by rfl) (by kernel_rfl) (by rfl)) (by rfl) (by rfl) ?_
    refine Ls.ev (some 5) (Ev.lenS (show Oper.op _ = Op.call { callee := Callee.builtin Builtin.len, args := #[Operand.tmp 4], argTypes := #[9] } from rfl) (by rfl) Try.underlying9) (by rfl) (by rfl) ?_
    refine Ls.ev (some 6) (Ev.gtr (show Oper.op _ = Op.binOp BinOp.gtr 3 (Operand.tmp 5) (Operand.const (Value.int IntKind.i64 64)) 3 from rfl) (by rfl) (by rfl)) (by rfl) (by rfl) ?_
    refine Ls.ev (some 7) (Ev.move (show Oper.op _ = Op.move (Operand.tmp 6) from rfl) (by rfl)) (by rfl) (by rfl) ?_
    refine Ent.split 7 (by rfl) (fun h4 => ?_) (fun h4 => ?_)
    · skip
      refine Ls.ev (some 8) (Ev.fieldAddr (k := 3) (show Oper.op _ = Op.fieldAddr 42 (Operand.tmp 1) 3 from rfl) (by rfl) (by kernel_rfl) (by rfl)) (by rfl) (by rfl) ?_
      refine Ls.ev (some 9) (Ev.load 0 (show Oper.op _ = Op.load 9 (Operand.tmp 8) from rfl) (by rfl) (by rfl) (by kernel_rfl) (by rfl)) (by rfl) (by rfl) ?_
      refine Ls.ev (some 10) (Ev.lenS (show Oper.op _ = Op.call { callee := Callee.builtin Builtin.len, args := #[Operand.tmp 9], argTypes := #[9] } from rfl) (by rfl) Try.underlying9) (by rfl) (by rfl) ?_
      refine Ls.ev (some 11) (Ev.gtr (show Oper.op _ = Op.binOp BinOp.gtr 3 (Operand.tmp 10) (Operand.const (Value.int IntKind.i64 1024)) 3 from rfl) (by rfl) (by rfl)) (by rfl) (by rfl) ?_
      refine Ls.ev (some 12) (Ev.pickF (show Oper.op _ = Op.pick (Operand.tmp 7) (Operand.const (Value.bool true)) (Operand.tmp 11) from rfl) (by rfl) (by rfl)) (by rfl) (by rfl) ?_
      refine Ls.nil ?_
      refine Ent.inv (()) ?_ ?_ ?_
      · (try dsimp only); skip
      · (repeat (first | exact trivial | refine ⟨by rfl, ?_⟩ | refine ⟨by simp only [List.length_append, List.length_cons, List.length_nil]; rfl, ?_⟩ | refine ⟨by push_cast; rfl, ?_⟩ | refine ⟨by (show some (Value.bool _) = some (Value.bool _); unfold bad1; rw [h4]; rfl), ?_⟩))
      · rfl
    · skip
      refine Ls.pass (some 8) (by rfl) (by rfl) ?_
      refine Ls.pass (some 9) (by rfl) (by rfl) ?_
      refine Ls.pass (some 10) (by rfl) (by rfl) ?_
      refine Ls.pass (some 11) (by rfl) (by rfl) ?_
      refine Ls.ev (some 12) (Ev.pickT (show Oper.op _ = Op.pick (Operand.tmp 7) (Operand.const (Value.bool true)) (Operand.tmp 11) from rfl) (by rfl) (by rfl)) (by rfl) (by rfl) ?_
      refine Ls.nil ?_
      refine Ent.inv (()) ?_ ?_ ?_
      · (try dsimp only); skip
      · (repeat (first | exact trivial | refine ⟨by rfl, ?_⟩ | refine ⟨by simp only [List.length_append, List.length_cons, List.length_nil]; rfl, ?_⟩ | refine ⟨by push_cast; rfl, ?_⟩ | refine ⟨by (show some (Value.bool _) = some (Value.bool _); unfold bad1; rw [h4]; rfl), ?_⟩))
      · rfl
  skip
  rintro _ -
  skip
  refine Cd.cond _ (by rfl) (fun h5 => ?_) (fun h5 => ?_)
  · skip
    refine Cd.seq ?_
    refine Cd.region ?_
    refine Ls.ev (some 2) (Ev.assign (show Oper.op _ = Op.assign (Operand.const (Value.int IntKind.i64 3)) from rfl) (by rfl)) (by rfl) (by rfl) ?_
    refine Ls.nil ?_
    refine Cd.ret ?_
    refine Ent.ret (()) (trivial) (Res.tmp (by rfl) (by rfl)) ?_ [] (by rfl) ?_
    · rw [errE_1 h5]
    · rfl
  · skip
    refine Cd.skip ?_
    refine Cd.seq ?_
    refine Cd.seq ?_
    refine Cd.cut (ι := Unit) (fun _ => [(30, .bool (bad2' e))]) (fun _ => []) (fun _ => True) ?_ ?_
    · skip
      refine Cd.region ?_
      refine Ls.ev (some 13) (Ev.fieldAddr (k := 1) (show Oper.op _ = Op.fieldAddr 42 (Operand.tmp 1) 1 from rfl) (by rfl) (by kernel_rfl) (by rfl)) (by rfl) (by rfl) ?_
      refine Ls.ev (some 14) (Ev.load 0 (show Oper.op _ = Op.load 3 (Operand.tmp 13) from rfl) (by rfl) (by rfl) (by kernel_rfl) (by rfl)) (by rfl) (by rfl) ?_
      refine Ls.ev (some 15) (Ev.lss (show Oper.op _ = Op.binOp BinOp.lss 3 (Operand.tmp 14) (Operand.const (Value.int IntKind.i64 1)) 3 from rfl) (by rfl) (by rfl)) (by rfl) (by rfl) ?_
      refine Ls.ev (some 16) (Ev.move (show Oper.op _ = Op.move (Operand.tmp 15) from rfl) (by rfl)) (by rfl) (by rfl) ?_
      refine Ent.split 16 (by rfl) (fun h6 => ?_) (fun h6 => ?_)
      · skip
        refine Ls.ev (some 17) (Ev.fieldAddr (k := 1) (show Oper.op _ = Op.fieldAddr 42 (Operand.tmp 1) 1 from rfl) (by rfl) (by kernel_rfl) (by rfl)) (by rfl) (by rfl) ?_
        refine Ls.ev (some 18) (Ev.load 0 (show Oper.op _ = Op.load 3 (Operand.tmp 17) from rfl) (by rfl) (by rfl) (by kernel_rfl) (by rfl)) (by rfl) (by rfl) ?_
        refine Ls.ev (some 19) (Ev.gtr (show Oper.op _ = Op.binOp BinOp.gtr 3 (Operand.tmp 18) (Operand.const (Value.int IntKind.i64 4611686018427387904)) 3 from rfl) (by rfl) (by rfl)) (by rfl) (by rfl) ?_
        refine Ls.ev (some 20) (Ev.pickF (show Oper.op _ = Op.pick (Operand.tmp 16) (Operand.const (Value.bool true)) (Operand.tmp 19) from rfl) (by rfl) (by rfl)) (by rfl) (by rfl) ?_
        refine Ls.ev (some 21) (Ev.move (show Oper.op _ = Op.move (Operand.tmp 20) from rfl) (by rfl)) (by rfl) (by rfl) ?_
        refine Ent.split 21 (by rfl) (fun h7 => ?_) (fun h7 => ?_)
        · skip
          refine Ls.ev (some 22) (Ev.fieldAddr (k := 2) (show Oper.op _ = Op.fieldAddr 42 (Operand.tmp 1) 2 from rfl) (by rfl) (by kernel_rfl) (by rfl)) (by rfl) (by rfl) ?_
          refine Ls.ev (some 23) (Ev.load 0 (show Oper.op _ = Op.load 4 (Operand.tmp 22) from rfl) (by rfl) (by rfl) (by kernel_rfl) (by rfl)) (by rfl) (by rfl) ?_
          refine Ls.ev (some 24) (Ev.move (show Oper.op _ = Op.move (Operand.tmp 23) from rfl) (by rfl)) (by rfl) (by rfl) ?_
          refine Ent.split 24 (by rfl) (fun h8 => ?_) (fun h8 => ?_)
          · skip
            refine Ls.pass (some 25) (by rfl) (by rfl) ?_
            refine Ls.pass (some 26) (by rfl) (by rfl) ?_
            refine Ls.pass (some 27) (by rfl) (by rfl) ?_
            refine Ls.pass (some 28) (by rfl) (by rfl) ?_
            refine Ls.ev (some 29) (Ev.pickF (show Oper.op _ = Op.pick (Operand.tmp 24) (Operand.tmp 28) (Operand.const (Value.bool false)) from rfl) (by rfl) (by rfl)) (by rfl) (by rfl) ?_
            refine Ls.ev (some 30) (Ev.pickF (show Oper.op _ = Op.pick (Operand.tmp 21) (Operand.const (Value.bool true)) (Operand.tmp 29) from rfl) (by rfl) (by rfl)) (by rfl) (by rfl) ?_
            refine Ls.nil ?_
            refine Ent.pick [] (by rfl) ?_
            refine Ent.inv (()) ?_ ?_ ?_
            · (try dsimp only); skip
            · (repeat (first | exact trivial | refine ⟨by rfl, ?_⟩ | refine ⟨by simp only [List.length_append, List.length_cons, List.length_nil]; rfl, ?_⟩ | refine ⟨by push_cast; rfl, ?_⟩ | refine ⟨by (show some (Value.bool _) = some (Value.bool _); unfold bad2'; rw [h6, h7, h8]; rfl), ?_⟩))
            · rfl
          · skip
            refine Ls.ev (some 25) (Ev.fieldAddr (k := 3) (show Oper.op _ = Op.fieldAddr 42 (Operand.tmp 1) 3 from rfl) (by rfl) (by kernel_rfl) (by rfl)) (by rfl) (by rfl) ?_
            refine Ls.ev (some 26) (Ev.load 0 (show Oper.op _ = Op.load 9 (Operand.tmp 25) from rfl) (by rfl) (by rfl) (by kernel_rfl) (by rfl)) (by rfl) (by rfl) ?_
            refine Ls.ev (some 27) (Ev.lenS (show Oper.op _ = Op.call { callee := Callee.builtin Builtin.len, args := #[Operand.tmp 26], argTypes := #[9] } from rfl) (by rfl) Try.underlying9) (by rfl) (by rfl) ?_
            refine Ls.ev (some 28) (Ev.gtr (show Oper.op _ = Op.binOp BinOp.gtr 3 (Operand.tmp 27) (Operand.const (Value.int IntKind.i64 0)) 3 from rfl) (by rfl) (by rfl)) (by rfl) (by rfl) ?_
            refine Ls.ev (some 29) (Ev.pickT (show Oper.op _ = Op.pick (Operand.tmp 24) (Operand.tmp 28) (Operand.const (Value.bool false)) from rfl) (by rfl) (by rfl)) (by rfl) (by rfl) ?_
            refine Ls.ev (some 30) (Ev.pickF (show Oper.op _ = Op.pick (Operand.tmp 21) (Operand.const (Value.bool true)) (Operand.tmp 29) from rfl) (by rfl) (by rfl)) (by rfl) (by rfl) ?_
            refine Ls.nil ?_
            refine Ent.pick [] (by rfl) ?_
            refine Ent.inv (()) ?_ ?_ ?_
            · (try dsimp only); skip
            · (repeat (first | exact trivial | refine ⟨by rfl, ?_⟩ | refine ⟨by simp only [List.length_append, List.length_cons, List.length_nil]; rfl, ?_⟩ | refine ⟨by push_cast; rfl, ?_⟩ | refine ⟨by (show some (Value.bool _) = some (Value.bool _); unfold bad2'; rw [h6, h7, h8]; rfl), ?_⟩))
            · rfl
        · skip
          refine Ls.pass (some 22) (by rfl) (by rfl) ?_
          refine Ls.pass (some 23) (by rfl) (by rfl) ?_
          refine Ls.pass (some 24) (by rfl) (by rfl) ?_
          refine Ls.pass (some 25) (by rfl) (by rfl) ?_
          refine Ls.pass (some 26) (by rfl) (by rfl) ?_
          refine Ls.pass (some 27) (by rfl) (by rfl) ?_
          refine Ls.pass (some 28) (by rfl) (by rfl) ?_
          refine Ls.pass (some 29) (by rfl) (by rfl) ?_
          refine Ls.ev (some 30) (Ev.pickT (show Oper.op _ = Op.pick (Operand.tmp 21) (Operand.const (Value.bool true)) (Operand.tmp 29) from rfl) (by rfl) (by rfl)) (by rfl) (by rfl) ?_
          refine Ls.nil ?_
          refine Ent.pick [] (by rfl) ?_
          refine Ent.inv (()) ?_ ?_ ?_
          · (try dsimp only); skip
          · (repeat (first | exact trivial | refine ⟨by rfl, ?_⟩ | refine ⟨by simp only [List.length_append, List.length_cons, List.length_nil]; rfl, ?_⟩ | refine ⟨by push_cast; rfl, ?_⟩ | refine ⟨by (show some (Value.bool _) = some (Value.bool _); unfold bad2'; rw [h6, h7]; rfl), ?_⟩))
          · rfl
      · skip
        refine Ls.pass (some 17) (by rfl) (by rfl) ?_
        refine Ls.pass (some 18) (by rfl) (by rfl) ?_
        refine Ls.pass (some 19) (by rfl) (by rfl) ?_
        refine Ls.ev (some 20) (Ev.pickT (show Oper.op _ = Op.pick (Operand.tmp 16) (Operand.const (Value.bool true)) (Operand.tmp 19) from rfl) (by rfl) (by rfl)) (by rfl) (by rfl) ?_
        refine Ls.ev (some 21) (Ev.move (show Oper.op _ = Op.move (Operand.tmp 20) from rfl) (by rfl)) (by rfl) (by rfl) ?_
        refine Ls.pass (some 22) (by rfl) (by rfl) ?_
        refine Ls.pass (some 23) (by rfl) (by rfl) ?_
        refine Ls.pass (some 24) (by rfl) (by rfl) ?_
        refine Ls.pass (some 25) (by rfl) (by rfl) ?_
        refine Ls.pass (some 26) (by rfl) (by rfl) ?_
        refine Ls.pass (some 27) (by rfl) (by rfl) ?_
        refine Ls.pass (some 28) (by rfl) (by rfl) ?_
        refine Ls.pass (some 29) (by rfl) (by rfl) ?_
        refine Ls.ev (some 30) (Ev.pickT (show Oper.op _ = Op.pick (Operand.tmp 21) (Operand.const (Value.bool true)) (Operand.tmp 29) from rfl) (by rfl) (by rfl)) (by rfl) (by rfl) ?_
        refine Ls.nil ?_
        refine Ent.pick [] (by rfl) ?_
        refine Ent.inv (()) ?_ ?_ ?_
        · (try dsimp only); skip
        · (repeat (first | exact trivial | refine ⟨by rfl, ?_⟩ | refine ⟨by simp only [List.length_append, List.length_cons, List.length_nil]; rfl, ?_⟩ | refine ⟨by push_cast; rfl, ?_⟩ | refine ⟨by (show some (Value.bool _) = some (Value.bool _); unfold bad2'; rw [h6]; rfl), ?_⟩))
        · rfl
    skip
    rintro _ -
    skip
    refine Cd.cond _ (by rfl) (fun h9 => ?_) (fun h9 => ?_)
    · skip
      refine Cd.seq ?_
      refine Cd.region ?_
      refine Ls.ev (some 2) (Ev.assign (show Oper.op _ = Op.assign (Operand.const (Value.int IntKind.i64 1)) from rfl) (by rfl)) (by rfl) (by rfl) ?_
      refine Ls.nil ?_
      rw [bad2_eq] at h9
      refine Cd.ret ?_
      refine Ent.ret (()) (trivial) (Res.tmp (by rfl) (by rfl)) ?_ [] (by rfl) ?_
      · rw [errE_2 h5 h9]
      · rfl
    · skip
      refine Cd.skip ?_
      refine Cd.seq ?_
      refine Cd.region ?_
      refine Ls.ev (some 2) (Ev.assign (show Oper.op _ = Op.assign (Operand.const (Value.int IntKind.i64 0)) from rfl) (by rfl)) (by rfl) (by rfl) ?_
      refine Ls.nil ?_
      rw [bad2_eq] at h9
      refine Cd.ret ?_
      refine Ent.ret (()) (trivial) (Res.tmp (by rfl) (by rfl)) ?_ [] (by rfl) ?_
      · rw [errE_0 h5 h9]
      · rfl
theorem refError_sl (A : Option Addr) (c : Nat) (l : List Ety) (hn : l.length ≤ 8796093022207) : Fn Try.prog 11 #[.slice A l.length c] [rdE A l] Unit (fun _ => .int .i64 (errL l)) (fun _ => []) (fun _ => True) := by
  refine Fn.enter Try.func11 rfl Try.ntmps11 (by rfl) ?_
  intro w0
  skip
  refine Cd.seq ?_
  refine Cd.region ?_
  refine Ls.ev (some 2) (Ev.assign (show Oper.op _ = Op.assign (Operand.const (Value.int IntKind.i64 0)) from rfl) (by rfl)) (by rfl) (by rfl) ?_
  refine Ls.nil ?_
  refine Cd.seq ?_
  refine Cd.seq ?_
  refine Cd.region ?_
  refine Ls.ev (some 5) (Ev.move (show Oper.op _ = Op.move (Operand.tmp 0) from rfl) (by rfl)) (by rfl) (by rfl) ?_
  refine Ls.ev (some 6) (Ev.len (show Oper.op _ = Op.call { callee := Callee.builtin Builtin.len, args := #[Operand.tmp 5], argTypes := #[22] } from rfl) (by rfl) Try.underlying22) (by rfl) (by rfl) ?_
  refine Ls.ev (some 7) (Ev.eql (show Oper.op _ = Op.binOp BinOp.eql 3 (Operand.tmp 6) (Operand.const (Value.int IntKind.i64 0)) 3 from rfl) (by rfl) (by rfl)) (by rfl) (by rfl) ?_
  refine Ls.nil ?_
  refine Cd.cond _ (by rfl) (fun h => ?_) (fun h => ?_)
  · skip
    have h0 : l.length = 0 := by have := of_decide_eq_true h; omega
    refine Cd.seq ?_
    refine Cd.region ?_
    refine Ls.ev (some 2) (Ev.assign (show Oper.op _ = Op.assign (Operand.const (Value.int IntKind.i64 4)) from rfl) (by rfl)) (by rfl) (by rfl) ?_
    refine Ls.nil ?_
    refine Cd.ret ?_
    refine Ent.ret (()) (trivial) (Res.tmp (by rfl) (by rfl)) ?_ [] (by rfl) ?_
    · simp [errL, h0]
    · rfl
  · skip
    have h0 : ¬ l.length = 0 := by have := of_decide_eq_false h; omega
    refine Cd.skip ?_
    refine Cd.seq ?_
    refine Cd.seq ?_
    refine Cd.region ?_
    refine Ls.ev (some 8) (Ev.move (show Oper.op _ = Op.move (Operand.tmp 0) from rfl) (by rfl)) (by rfl) (by rfl) ?_
    refine Ls.ev (some 9) (Ev.len (show Oper.op _ = Op.call { callee := Callee.builtin Builtin.len, args := #[Operand.tmp 8], argTypes := #[22] } from rfl) (by rfl) Try.underlying22) (by rfl) (by rfl) ?_
    refine Ls.ev (some 10) (Ev.gtr (show Oper.op _ = Op.binOp BinOp.gtr 3 (Operand.tmp 9) (Operand.const (Value.int IntKind.i64 84)) 3 from rfl) (by rfl) (by rfl)) (by rfl) (by rfl) ?_
    refine Ls.nil ?_
    refine Cd.cond _ (by rfl) (fun h2 => ?_) (fun h2 => ?_)
    · skip
      have h84 : 84 < l.length := by have := of_decide_eq_true h2; omega
      refine Cd.seq ?_
      refine Cd.region ?_
      refine Ls.ev (some 2) (Ev.assign (show Oper.op _ = Op.assign (Operand.const (Value.int IntKind.i64 5)) from rfl) (by rfl)) (by rfl) (by rfl) ?_
      refine Ls.nil ?_
      refine Cd.ret ?_
      refine Ent.ret (()) (trivial) (Res.tmp (by rfl) (by rfl)) ?_ [] (by rfl) ?_
      · simp [errL, h0, h84]
      · rfl
    · skip
      have h84 : ¬ 84 < l.length := by have := of_decide_eq_false h2; omega
      have hE : errL l = scanE none l := by simp [errL, h0, h84]
      refine Cd.skip ?_
      refine Cd.seq ?_
      refine Cd.seq ?_
      refine Cd.region ?_
      refine Ls.ev (some 3) (Ev.assign (show Oper.op _ = Op.assign (Operand.const (Value.int IntKind.i64 0)) from rfl) (by rfl)) (by rfl) (by rfl) ?_
      refine Ls.nil ?_
      refine Cd.block ?_
      refine Cd.loop (ι := Nat) (fun k => [(0, .slice A l.length c), (3, .int .i64 k)]) (fun _ => [rdE A l]) (fun k => k ≤ l.length ∧ scanE (prevE l k) (l.drop k) = errL l) (fun k => l.length - k) (0) (⟨Nat.zero_le _, hE.symm⟩) ?_ rfl ?_
      · (repeat (first | exact trivial | refine ⟨by rfl, ?_⟩))
      intro k ⟨hk, hs⟩
      refine Cd.seq ?_
      refine Cd.seq ?_
      refine Cd.region ?_
      refine Ls.ev (some 11) (Ev.move (show Oper.op _ = Op.move (Operand.tmp 3) from rfl) (by rfl)) (by rfl) (by rfl) ?_
      refine Ls.ev (some 12) (Ev.move (show Oper.op _ = Op.move (Operand.tmp 0) from rfl) (by rfl)) (by rfl) (by rfl) ?_
      refine Ls.ev (some 13) (Ev.len (show Oper.op _ = Op.call { callee := Callee.builtin Builtin.len, args := #[Operand.tmp 12], argTypes := #[22] } from rfl) (by rfl) Try.underlying22) (by rfl) (by rfl) ?_
      refine Ls.ev (some 14) (Ev.lss (show Oper.op _ = Op.binOp BinOp.lss 3 (Operand.tmp 11) (Operand.tmp 13) 3 from rfl) (by rfl) (by rfl)) (by rfl) (by rfl) ?_
      refine Ls.nil ?_
      refine Cd.cond _ (by rfl) (fun h3 => ?_) (fun h3 => ?_)
      · skip
        have hlt : k < l.length := by have := of_decide_eq_true h3; omega
        obtain ⟨e, he⟩ := get_of_lt hlt
        rw [scanE_step he] at hs
        refine Ent.rdSome 0 (by rfl) (by omega) (fun ad had => ?_)
        subst had
        refine Cd.skip ?_
        refine Cd.seq ?_
        refine Cd.block ?_
        refine Cd.seq ?_
        refine Cd.region ?_
        refine Ls.ev (some 17) (Ev.move (show Oper.op _ = Op.move (Operand.tmp 0) from rfl) (by rfl)) (by rfl) (by rfl) ?_
        refine Ls.ev (some 18) (Ev.move (show Oper.op _ = Op.move (Operand.tmp 3) from rfl) (by rfl)) (by rfl) (by rfl) ?_
        refine Ls.ev (some 19) (Ev.indexAt (sz := 4) (show Oper.op _ = Op.indexAddr 22 (Operand.tmp 17) (Operand.tmp 18) from rfl) (by rfl) (by rfl) Try.underlying22 (by kernel_rfl) (by omega)) (by rfl) (by rfl) ?_
        refine Ls.ev (some 20) (Ev.loadEl (show Oper.op _ = Op.load 42 (Operand.tmp 19) from rfl) (by rfl) (ReadsIn.rd 0 (by rfl)) (by kernel_rfl) (by intro _; rfl) (by assumption)) (by rfl) (by rfl) ?_
        refine Ls.does (some 21) (Does.read (show Oper.op _ = Op.call { callee := Callee.value (Operand.func 37), args := #[Operand.tmp 20], argTypes := #[42] } from rfl) Try.func37 (by kernel_rfl) (by kernel_rfl) (refErr_sl e) (by rfl) (by rfl) trivial) (by rfl) (by rfl) ?_
        rintro _ -
        refine Ls.ev (some 4) (Ev.assign (show Oper.op _ = Op.assign (Operand.tmp 21) from rfl) (by rfl)) (by rfl) (by rfl) ?_
        refine Ls.nil ?_
        refine Cd.seq ?_
        refine Cd.seq ?_
        refine Cd.region ?_
        refine Ls.ev (some 22) (Ev.move (show Oper.op _ = Op.move (Operand.tmp 4) from rfl) (by rfl)) (by rfl) (by rfl) ?_
        refine Ls.ev (some 23) (Ev.neq (show Oper.op _ = Op.binOp BinOp.neq 3 (Operand.tmp 22) (Operand.const (Value.int IntKind.i64 0)) 3 from rfl) (by rfl) (by rfl)) (by rfl) (by rfl) ?_
        refine Ls.nil ?_
        refine Cd.cond _ (by rfl) (fun h5 => ?_) (fun h5 => ?_)
        · skip
          have h5 : errE e ≠ 0 := of_decide_eq_true h5
          refine Cd.seq ?_
          refine Cd.region ?_
          refine Ls.ev (some 24) (Ev.move (show Oper.op _ = Op.move (Operand.tmp 4) from rfl) (by rfl)) (by rfl) (by rfl) ?_
          refine Ls.ev (some 2) (Ev.assign (show Oper.op _ = Op.assign (Operand.tmp 24) from rfl) (by rfl)) (by rfl) (by rfl) ?_
          refine Ls.nil ?_
          refine Cd.ret ?_
          refine Ent.ret (()) (trivial) (Res.tmp (by rfl) (by rfl)) ?_ [] (by rfl) ?_
          · rw [← hs, if_pos h5]
          · rfl
        · skip
          have h5 : ¬ errE e ≠ 0 := of_decide_eq_false h5
          rw [if_neg h5] at hs
          refine Cd.skip ?_
          refine Cd.seq ?_
          refine Cd.cut (ι := Unit) (fun _ => [(0, .slice (some ad) l.length c), (3, .int .i64 k), (39, .bool ((prevE l k).any (fun p => !befE p e)))]) (fun _ => [rdE (some ad) l]) (fun _ => True) ?_ ?_
          · skip
            refine Cd.draw [] (by kernel_rfl) ?_
            refine Rg.ev 0 (by rfl) (fun _ h => h) (Ev.move (show Oper.op _ = Op.move (Operand.tmp 3) from rfl) (by rfl)) (by rfl) (some 25) (by rfl) (by kernel_rfl) (by kernel_rfl) (by kernel_rfl) (by kernel_rfl) ?_
            refine Rg.ev 1 (by rfl) (fun _ h => h) (Ev.gtr (show Oper.op _ = Op.binOp BinOp.gtr 3 (Operand.tmp 25) (Operand.const (Value.int IntKind.i64 0)) 3 from rfl) (by rfl) (by rfl)) (by rfl) (some 26) (by rfl) (by kernel_rfl) (by kernel_rfl) (by kernel_rfl) (by kernel_rfl) ?_
            refine Rg.ev 2 (by rfl) (fun _ h => h) (Ev.move (show Oper.op _ = Op.move (Operand.tmp 26) from rfl) (by rfl)) (by rfl) (some 27) (by rfl) (by kernel_rfl) (by kernel_rfl) (by kernel_rfl) (by kernel_rfl) ?_
            refine Ent.split 27 (by rfl) (fun h10 => ?_) (fun h10 => ?_)
            · skip
              have hk0 : k = 0 := by have := of_decide_eq_false h10; omega
              refine Rg.pass 3 (by rfl) (fun _ h => h) (by rfl) (some 28) (by rfl) (by kernel_rfl) (by kernel_rfl) (by kernel_rfl) (by kernel_rfl) ?_
              refine Rg.pass 4 (by rfl) (fun _ h => h) (by rfl) (some 29) (by rfl) (by kernel_rfl) (by kernel_rfl) (by kernel_rfl) (by kernel_rfl) ?_
              refine Rg.pass 5 (by rfl) (fun _ h => h) (by rfl) (some 30) (by rfl) (by kernel_rfl) (by kernel_rfl) (by kernel_rfl) (by kernel_rfl) ?_
              refine Rg.pass 6 (by rfl) (fun _ h => h) (by rfl) (some 31) (by rfl) (by kernel_rfl) (by kernel_rfl) (by kernel_rfl) (by kernel_rfl) ?_
              refine Rg.pass 7 (by rfl) (fun _ h => h) (by rfl) (some 32) (by rfl) (by kernel_rfl) (by kernel_rfl) (by kernel_rfl) (by kernel_rfl) ?_
              refine Rg.pass 8 (by rfl) (fun _ h => h) (by rfl) (some 33) (by rfl) (by kernel_rfl) (by kernel_rfl) (by kernel_rfl) (by kernel_rfl) ?_
              refine Rg.pass 9 (by rfl) (fun _ h => h) (by rfl) (some 34) (by rfl) (by kernel_rfl) (by kernel_rfl) (by kernel_rfl) (by kernel_rfl) ?_
              refine Rg.pass 10 (by rfl) (fun _ h => h) (by rfl) (some 35) (by rfl) (by kernel_rfl) (by kernel_rfl) (by kernel_rfl) (by kernel_rfl) ?_
              refine Rg.pass 11 (by rfl) (fun _ h => h) (by rfl) (some 36) (by rfl) (by kernel_rfl) (by kernel_rfl) (by kernel_rfl) (by kernel_rfl) ?_
              refine Rg.pass 12 (by rfl) (fun _ h => h) (by rfl) (some 37) (by rfl) (by kernel_rfl) (by kernel_rfl) (by kernel_rfl) (by kernel_rfl) ?_
              refine Rg.pass 13 (by rfl) (fun _ h => h) (by rfl) (some 38) (by rfl) (by kernel_rfl) (by kernel_rfl) (by kernel_rfl) (by kernel_rfl) ?_
              refine Rg.ev 14 (by rfl) (fun _ h => h) (Ev.pickF (show Oper.op _ = Op.pick (Operand.tmp 27) (Operand.tmp 38) (Operand.const (Value.bool false)) from rfl) (by rfl) (by rfl)) (by rfl) (some 39) (by rfl) (by kernel_rfl) (by kernel_rfl) (by kernel_rfl) (by kernel_rfl) ?_
              refine Rg.done (by kernel_rfl) ?_ _
              refine Ent.inv (()) ?_ ?_ ?_
              · (try dsimp only); skip
              · (repeat (first | exact trivial | refine ⟨by rfl, ?_⟩ | refine ⟨by simp only [List.length_append, List.length_cons, List.length_nil]; rfl, ?_⟩ | refine ⟨by push_cast; rfl, ?_⟩ | refine ⟨by (show some (Value.bool _) = some (Value.bool _); subst hk0; rfl), ?_⟩))
              · rfl
            · skip
              have hk0 : 0 < k := by have := of_decide_eq_true h10; omega
              obtain ⟨p, hp⟩ := get_of_lt (show k - 1 < l.length by omega)
              have hp2 : prevE l k = some p := by
                unfold prevE
                rw [if_neg (by omega), ← hp]
              refine Rg.ev 3 (by rfl) (fun _ h => h) (Ev.move (show Oper.op _ = Op.move (Operand.tmp 0) from rfl) (by rfl)) (by rfl) (some 28) (by rfl) (by kernel_rfl) (by kernel_rfl) (by kernel_rfl) (by kernel_rfl) ?_
              refine Rg.ev 4 (by rfl) (fun _ h => h) (Ev.move (show Oper.op _ = Op.move (Operand.tmp 3) from rfl) (by rfl)) (by rfl) (some 29) (by rfl) (by kernel_rfl) (by kernel_rfl) (by kernel_rfl) (by kernel_rfl) ?_
              refine Rg.ev 5 (by rfl) (fun _ h => h) (Ev.subN (b := 1) (show Oper.op _ = Op.binOp BinOp.sub 3 (Operand.tmp 29) (Operand.const (Value.int IntKind.i64 1)) 3 from rfl) (by rfl) (by rfl) (by omega)) (by rfl) (some 30) (by rfl) (by kernel_rfl) (by kernel_rfl) (by kernel_rfl) (by kernel_rfl) ?_
              refine Rg.ev 6 (by rfl) (fun _ h => h) (Ev.indexAt (sz := 4) (show Oper.op _ = Op.indexAddr 22 (Operand.tmp 28) (Operand.tmp 30) from rfl) (by rfl) (by rfl) Try.underlying22 (by kernel_rfl) (by omega)) (by rfl) (some 31) (by rfl) (by kernel_rfl) (by kernel_rfl) (by kernel_rfl) (by kernel_rfl) ?_
              refine Rg.ev 7 (by rfl) (fun _ h => h) (Ev.loadEl (show Oper.op _ = Op.load 42 (Operand.tmp 31) from rfl) (by rfl) (ReadsIn.rd 0 (by rfl)) (by kernel_rfl) (by intro _; rfl) (by assumption)) (by rfl) (some 32) (by rfl) (by kernel_rfl) (by kernel_rfl) (by kernel_rfl) (by kernel_rfl) ?_
              refine Rg.ev 8 (by rfl) (fun _ h => h) (Ev.move (show Oper.op _ = Op.move (Operand.tmp 0) from rfl) (by rfl)) (by rfl) (some 33) (by rfl) (by kernel_rfl) (by kernel_rfl) (by kernel_rfl) (by kernel_rfl) ?_
              refine Rg.ev 9 (by rfl) (fun _ h => h) (Ev.move (show Oper.op _ = Op.move (Operand.tmp 3) from rfl) (by rfl)) (by rfl) (some 34) (by rfl) (by kernel_rfl) (by kernel_rfl) (by kernel_rfl) (by kernel_rfl) ?_
              refine Rg.ev 10 (by rfl) (fun _ h => h) (Ev.indexAt (sz := 4) (show Oper.op _ = Op.indexAddr 22 (Operand.tmp 33) (Operand.tmp 34) from rfl) (by rfl) (by rfl) Try.underlying22 (by kernel_rfl) (by omega)) (by rfl) (some 35) (by rfl) (by kernel_rfl) (by kernel_rfl) (by kernel_rfl) (by kernel_rfl) ?_
              refine Rg.ev 11 (by rfl) (fun _ h => h) (Ev.loadEl (show Oper.op _ = Op.load 42 (Operand.tmp 35) from rfl) (by rfl) (ReadsIn.rd 0 (by rfl)) (by kernel_rfl) (by intro _; rfl) (by assumption)) (by rfl) (some 36) (by rfl) (by kernel_rfl) (by kernel_rfl) (by kernel_rfl) (by kernel_rfl) ?_
              refine Rg.does 12 (by rfl) (by kernel_rfl) (Does.read (show Oper.op _ = Op.call { callee := Callee.value (Operand.func 38), args := #[Operand.tmp 32, Operand.tmp 36], argTypes := #[42, 42] } from rfl) Try.func38 (by kernel_rfl) (by kernel_rfl) (refBefore_sl p e) (by rfl) (by rfl) trivial) (by rfl) (some 37) (by rfl) (by exact fun _ _ h => h) ?_
              rintro _ -
              refine Rg.ev 13 (by rfl) (fun _ h => h) (Ev.not (show Oper.op _ = Op.unOp UnOp.not 4 (Operand.tmp 37) from rfl) (by rfl)) (by rfl) (some 38) (by rfl) (by kernel_rfl) (by kernel_rfl) (by kernel_rfl) (by kernel_rfl) ?_
              refine Rg.ev 14 (by rfl) (fun _ h => h) (Ev.pickT (show Oper.op _ = Op.pick (Operand.tmp 27) (Operand.tmp 38) (Operand.const (Value.bool false)) from rfl) (by rfl) (by rfl)) (by rfl) (some 39) (by rfl) (by kernel_rfl) (by kernel_rfl) (by kernel_rfl) (by kernel_rfl) ?_
              refine Rg.done (by kernel_rfl) ?_ _
              refine Ent.inv (()) ?_ ?_ ?_
              · (try dsimp only); skip
              · (repeat (first | exact trivial | refine ⟨by rfl, ?_⟩ | refine ⟨by simp only [List.length_append, List.length_cons, List.length_nil]; rfl, ?_⟩ | refine ⟨by push_cast; rfl, ?_⟩ | refine ⟨by (show some (Value.bool _) = some (Value.bool _); rw [hp2]; rfl), ?_⟩))
              · rfl
          skip
          rintro _ -
          skip
          refine Cd.cond _ (by rfl) (fun h11 => ?_) (fun h11 => ?_)
          · skip
            refine Cd.seq ?_
            refine Cd.region ?_
            refine Ls.ev (some 2) (Ev.assign (show Oper.op _ = Op.assign (Operand.const (Value.int IntKind.i64 60)) from rfl) (by rfl)) (by rfl) (by rfl) ?_
            refine Ls.nil ?_
            refine Cd.ret ?_
            refine Ent.ret (()) (trivial) (Res.tmp (by rfl) (by rfl)) ?_ [] (by rfl) ?_
            · rw [← hs, if_pos h11]
            · rfl
          · skip
            rw [if_neg (by rw [h11]; decide)] at hs
            refine Cd.skip ?_
            refine Cd.region ?_
            refine Ls.ev (some 15) (Ev.move (show Oper.op _ = Op.move (Operand.tmp 3) from rfl) (by rfl)) (by rfl) (by rfl) ?_
            refine Ls.ev (some 16) (Ev.addN (b := 1) (show Oper.op _ = Op.binOp BinOp.add 3 (Operand.tmp 15) (Operand.const (Value.int IntKind.i64 1)) 3 from rfl) (by rfl) (by rfl) (by omega)) (by rfl) (by rfl) ?_
            refine Ls.ev (some 3) (Ev.assign (show Oper.op _ = Op.assign (Operand.tmp 16) from rfl) (by rfl)) (by rfl) (by rfl) ?_
            refine Ls.nil ?_
            refine Ent.inv (k + 1) ?_ ?_ ?_
            · (try dsimp only); exact ⟨⟨by omega, hs⟩, by omega⟩
            · (repeat (first | exact trivial | refine ⟨by rfl, ?_⟩ | refine ⟨by simp only [List.length_append, List.length_cons, List.length_nil]; rfl, ?_⟩ | refine ⟨by push_cast; rfl, ?_⟩))
            · rfl
      · skip
        have hk : k = l.length := by have := of_decide_eq_false h3; omega
        subst hk
        refine Cd.exit ?_
        refine Cd.seq ?_
        refine Cd.region ?_
        refine Ls.ev (some 2) (Ev.assign (show Oper.op _ = Op.assign (Operand.const (Value.int IntKind.i64 0)) from rfl) (by rfl)) (by rfl) (by rfl) ?_
        refine Ls.nil ?_
        refine Cd.ret ?_
        refine Ent.ret (()) (trivial) (Res.tmp (by rfl) (by rfl)) ?_ [] (by rfl) ?_
        · rw [← hs, List.drop_length]; rfl
        · rfl
theorem fourL_u82 (n : Nat) : u8s (fourL n) = [.int .u8 (IntKind.u8.wrap ((n : Int) % 256)), .int .u8 (IntKind.u8.wrap ((n : Int) / 256 % 256)), .int .u8 (IntKind.u8.wrap ((n : Int) / 65536 % 256)), .int .u8 (IntKind.u8.wrap ((n : Int) / 16777216))] := by
  have key : ∀ m : Nat, (((UInt8.ofNat m).toNat : Nat) : Int) = IntKind.u8.wrap (m : Int) := fun m => by
    rw [IntKind.wrap_u8]
    simp
  have key2 : ∀ m : Int, IntKind.u8.wrap (m % 256) = IntKind.u8.wrap m := fun m => by
    rw [IntKind.wrap_u8, IntKind.wrap_u8]
    omega
  have e : ∀ j : Nat, (n : Int) / (j : Int) = ((n / j : Nat) : Int) := fun j => by norm_cast
  rw [key2, key2, key2, show (n : Int) / 256 = ((n / 256 : Nat) : Int) from e 256, show (n : Int) / 65536 = ((n / 65536 : Nat) : Int) from e 65536, show (n : Int) / 16777216 = ((n / 16777216 : Nat) : Int) from e 16777216, ← key, ← key, ← key, ← key]
  rfl
theorem refFour_sl (n : Nat) (hn : n ≤ 9223372036854775807) : Fn Try.prog 43 #[.int .i64 n] [] (Option Addr × Nat) (fun p => .slice p.1 (fourL n).length p.2) (fun p => [rowB p.1 p.2 (fourL n)]) (fun _ => True) := by
  refine Fn.enter Try.func43 rfl Try.ntmps43 (by rfl) ?_
  intro w0
  refine Cd.seq ?_
  refine Cd.region ?_
  refine Ls.ev (some 2) (Ev.assign (show Oper.op _ = Op.assign (Operand.const (Value.slice none 0 0)) from rfl) (by rfl)) (by rfl) (by rfl) ?_
  refine Ls.nil ?_
  refine Cd.seq ?_
  refine Cd.region ?_
  refine Ls.ev (some 3) (Ev.move (show Oper.op _ = Op.move (Operand.tmp 0) from rfl) (by rfl)) (by rfl) (by rfl) ?_
  refine Ls.ev (some 4) (Ev.remI (show Oper.op _ = Op.binOp BinOp.rem 3 (Operand.tmp 3) (Operand.const (Value.int IntKind.i64 256)) 3 from rfl) (by rfl) (by rfl) (by omega)) (by rfl) (by rfl) ?_
  refine Ls.ev (some 5) (Ev.conv (show Oper.op _ = Op.convert 3 5 (Operand.tmp 4) from rfl) (by rfl) (by kernel_rfl) Try.underlying5) (by rfl) (by rfl) ?_
  refine Ls.ev (some 6) (Ev.move (show Oper.op _ = Op.move (Operand.tmp 0) from rfl) (by rfl)) (by rfl) (by rfl) ?_
  refine Ls.ev (some 7) (Ev.quoI (show Oper.op _ = Op.binOp BinOp.quo 3 (Operand.tmp 6) (Operand.const (Value.int IntKind.i64 256)) 3 from rfl) (by rfl) (by rfl) (by omega)) (by rfl) (by rfl) ?_
  refine Ls.ev (some 8) (Ev.remI (show Oper.op _ = Op.binOp BinOp.rem 3 (Operand.tmp 7) (Operand.const (Value.int IntKind.i64 256)) 3 from rfl) (by rfl) (by rfl) (by omega)) (by rfl) (by rfl) ?_
  refine Ls.ev (some 9) (Ev.conv (show Oper.op _ = Op.convert 3 5 (Operand.tmp 8) from rfl) (by rfl) (by kernel_rfl) Try.underlying5) (by rfl) (by rfl) ?_
  refine Ls.ev (some 10) (Ev.move (show Oper.op _ = Op.move (Operand.tmp 0) from rfl) (by rfl)) (by rfl) (by rfl) ?_
  refine Ls.ev (some 11) (Ev.quoI (show Oper.op _ = Op.binOp BinOp.quo 3 (Operand.tmp 10) (Operand.const (Value.int IntKind.i64 65536)) 3 from rfl) (by rfl) (by rfl) (by omega)) (by rfl) (by rfl) ?_
  refine Ls.ev (some 12) (Ev.remI (show Oper.op _ = Op.binOp BinOp.rem 3 (Operand.tmp 11) (Operand.const (Value.int IntKind.i64 256)) 3 from rfl) (by rfl) (by rfl) (by omega)) (by rfl) (by rfl) ?_
  refine Ls.ev (some 13) (Ev.conv (show Oper.op _ = Op.convert 3 5 (Operand.tmp 12) from rfl) (by rfl) (by kernel_rfl) Try.underlying5) (by rfl) (by rfl) ?_
  refine Ls.ev (some 14) (Ev.move (show Oper.op _ = Op.move (Operand.tmp 0) from rfl) (by rfl)) (by rfl) (by rfl) ?_
  refine Ls.ev (some 15) (Ev.quoI (show Oper.op _ = Op.binOp BinOp.quo 3 (Operand.tmp 14) (Operand.const (Value.int IntKind.i64 16777216)) 3 from rfl) (by rfl) (by rfl) (by omega)) (by rfl) (by rfl) ?_
  refine Ls.ev (some 16) (Ev.conv (show Oper.op _ = Op.convert 3 5 (Operand.tmp 15) from rfl) (by rfl) (by kernel_rfl) Try.underlying5) (by rfl) (by rfl) ?_
  refine Ls.does (some 17) (Does.lit (sz := 1) (show Oper.op _ = Op.buildSlice 25 4 #[(0, Operand.tmp 5), (1, Operand.tmp 9), (2, Operand.tmp 13), (3, Operand.tmp 16)] from rfl) (by rfl) Try.underlying25 (by kernel_rfl) (by rfl) (by kernel_rfl)) (by rfl) (by rfl) ?_
  intro g1 _
  refine Ls.ev (some 2) (Ev.assign (show Oper.op _ = Op.assign (Operand.tmp 17) from rfl) (by rfl)) (by rfl) (by rfl) ?_
  refine Ls.nil ?_
  refine Cd.ret ?_
  refine Ent.ret ((some ⟨g1, 0, none⟩, 4)) (trivial) (Res.tmp (by rfl) (by rfl)) ?_ [0] (by rfl) ?_
  · rfl
  · show [_] = [rowB _ _ _]
    unfold rowB
    rw [fourL_u82]
    rfl
theorem refUint_slI (n : Int) (hn : 0 ≤ n ∧ n < 18446744073709551616) : Fn Try.prog 42 #[.int .u64 n] [] (Option Addr × Nat) (fun p => .slice p.1 (uintL n.toNat).length p.2) (fun p => [rowB p.1 p.2 (uintL n.toNat)]) (fun _ => True) := by
  have := refUint_sl n.toNat (by omega)
  rwa [Int.toNat_of_nonneg hn.1] at this
theorem refEntry_sl (e : Ety) (he : errE e = 0) : Fn Try.prog 39 #[.agg e.enc.toArray] [] (Option Addr × Nat) (fun p => .slice p.1 (putL e).length p.2) (fun p => [rowB p.1 p.2 (putL e)]) (fun _ => True) := by
  have hl := putL_len he
  have hs : 1 ≤ e.seq ∧ e.seq ≤ 4611686018427387904 ∧ e.key.size ≤ 64 ∧ e.value.size ≤ 1024 := by
    unfold errE at he
    split at he
    · cases he
    · split at he
      · cases he
      · omega
  have hsum : (textL e.key).length + (uintL e.seq.toNat).length + 1 + (textL e.value).length = (putL e).length := by simp [putL]; omega
  refine Fn.enter Try.func39 rfl Try.ntmps39 (by rfl) ?_
  intro w0
  skip
  refine Cd.seq ?_
  refine Cd.region ?_
  refine Ls.does (some 1) (Does.box (show Oper.op _ = Op.box 42 (Operand.tmp 0) from rfl) (by rfl)) (by rfl) (by rfl) ?_
  intro g1 _
  refine Ls.ev (some 2) (Ev.assign (show Oper.op _ = Op.assign (Operand.const (Value.slice none 0 0)) from rfl) (by rfl)) (by rfl) (by rfl) ?_
  refine Ls.nil ?_
  refine Cd.seq ?_
  refine Cd.draw [] (by kernel_rfl) ?_
  refine Rg.ev 0 (by rfl) (fun _ h => h) (Ev.fieldAddr (k := 0) (show Oper.op _ = Op.fieldAddr 42 (Operand.tmp 1) 0 from rfl) (by rfl) (by kernel_rfl) (by rfl)) (by rfl) (some 4) (by rfl) (by kernel_rfl) (by kernel_rfl) (by kernel_rfl) (by kernel_rfl) ?_
  refine Rg.ev 1 (by rfl) (fun _ h => h) (Ev.load 0 (show Oper.op _ = Op.load 9 (Operand.tmp 4) from rfl) (by rfl) (by rfl) (by kernel_rfl) (by rfl)) (by rfl) (some 5) (by rfl) (by kernel_rfl) (by kernel_rfl) (by kernel_rfl) (by kernel_rfl) ?_
  refine Rg.ev 3 (by rfl) (fun _ h => h) (Ev.fieldAddr (k := 1) (show Oper.op _ = Op.fieldAddr 42 (Operand.tmp 1) 1 from rfl) (by rfl) (by kernel_rfl) (by rfl)) (by rfl) (some 7) (by rfl) (by kernel_rfl) (by kernel_rfl) (by kernel_rfl) (by kernel_rfl) ?_
  refine Rg.ev 4 (by rfl) (fun _ h => h) (Ev.load 0 (show Oper.op _ = Op.load 3 (Operand.tmp 7) from rfl) (by rfl) (by rfl) (by kernel_rfl) (by rfl)) (by rfl) (some 8) (by rfl) (by kernel_rfl) (by kernel_rfl) (by kernel_rfl) (by kernel_rfl) ?_
  refine Rg.ev 5 (by rfl) (fun _ h => h) (Ev.convU (show Oper.op _ = Op.convert 3 64 (Operand.tmp 8) from rfl) (by rfl) (by kernel_rfl) Try.underlying64 (by omega)) (by rfl) (some 9) (by rfl) (by kernel_rfl) (by kernel_rfl) (by kernel_rfl) (by kernel_rfl) ?_
  skip
  refine Rg.one 2 (by kernel_rfl) ?_; refine RgO.does 2 (by rfl) (Does.readN (show Oper.op _ = Op.call { callee := Callee.value (Operand.func 41), args := #[Operand.tmp 5], argTypes := #[9] } from rfl) Try.func41 (by kernel_rfl) (by kernel_rfl) (refText_sl e.key (by omega)) (by rfl) (by rfl) trivial (fun _ => by rfl)) (by rfl) (some 6) (by rfl) (by exact fun _ _ h => h.pick [1] (by rfl)) ?_
  intro q1 _
  refine Rg.one 6 (by kernel_rfl) ?_; refine RgO.does 6 (by rfl) (Does.readN (show Oper.op _ = Op.call { callee := Callee.value (Operand.func 42), args := #[Operand.tmp 9], argTypes := #[64] } from rfl) Try.func42 (by kernel_rfl) (by kernel_rfl) (refUint_slI e.seq (by omega)) (by rfl) (by rfl) trivial (fun _ => by rfl)) (by rfl) (some 10) (by rfl) (by exact fun _ _ h => h.pick [2] (by rfl)) ?_
  intro q2 _
  refine Rg.one 7 (by kernel_rfl) ?_; refine RgO.does 7 (by rfl) (Does.appB (l := textL e.key) (m := uintL e.seq.toNat) 1 (show Oper.op _ = Op.call { callee := Callee.builtin Builtin.append, args := #[Operand.tmp 6, Operand.tmp 10], argTypes := #[25, 25] } from rfl) (by rfl) (by rfl) (by rfl) (ReadsIn.row 0 (by rfl)) (by omega)) (by rfl) (some 11) (by rfl) (by exact fun _ _ h => h.pick [2] (by rfl)) ?_
  intro q3 _
  refine Rg.ev 8 (by rfl) (by exact fun _ h => h.pick [2] (by rfl)) (Ev.assign (show Oper.op _ = Op.assign (Operand.tmp 11) from rfl) (by rfl)) (by rfl) (some 3) (by rfl) (by kernel_rfl) (by kernel_rfl) (by kernel_rfl) (by kernel_rfl) ?_
  refine Rg.done (by kernel_rfl) ?_ _
  refine Cd.seq ?_
  refine Cd.seq ?_
  refine Cd.region ?_
  refine Ls.ev (some 12) (Ev.fieldAddr (k := 2) (show Oper.op _ = Op.fieldAddr 42 (Operand.tmp 1) 2 from rfl) (by rfl) (by kernel_rfl) (by rfl)) (by rfl) (by rfl) ?_
  refine Ls.ev (some 13) (Ev.load 2 (show Oper.op _ = Op.load 4 (Operand.tmp 12) from rfl) (by rfl) (by rfl) (by kernel_rfl) (by rfl)) (by rfl) (by rfl) ?_
  refine Ls.nil ?_
  refine Ent.pick [2, 1] (by rfl) ?_
  refine Cd.cut (ι := Option Addr × Nat) (fun q => [(1, .pointer (some ⟨g1, 0, none⟩)), (3, .slice q.1 (textL e.key ++ uintL e.seq.toNat ++ [delB e.del]).length q.2)]) (fun q => [blk g1 42 e.enc, rowB q.1 q.2 (textL e.key ++ uintL e.seq.toNat ++ [delB e.del])]) (fun _ => True) ?_ ?_
  · skip
    have hal : (textL e.key ++ uintL e.seq.toNat).length = (textL e.key).length + (uintL e.seq.toNat).length := List.length_append
    refine Cd.cond _ (by rfl) (fun h => ?_) (fun h => ?_)
    · skip
      refine Cd.region ?_
      refine Ls.ev (some 14) (Ev.move (show Oper.op _ = Op.move (Operand.tmp 3) from rfl) (by rfl)) (by rfl) (by rfl) ?_
      refine Ls.does (some 15) (Does.lit (sz := 1) (show Oper.op _ = Op.buildSlice 25 1 #[(0, Operand.const (Value.int IntKind.u8 1))] from rfl) (by rfl) Try.underlying25 (by kernel_rfl) (by rfl) (by kernel_rfl)) (by rfl) (by rfl) ?_
      intro g2 _
      refine Ls.does (some 16) (Does.appB (l := textL e.key ++ uintL e.seq.toNat) (m := [1]) 2 (show Oper.op _ = Op.call { callee := Callee.builtin Builtin.append, args := #[Operand.tmp 14, Operand.tmp 15], argTypes := #[25, 25] } from rfl) (by rfl) (by rfl) (by rfl) (ReadsIn.row 0 (by rfl)) (by rw [hal]; simp only [List.length_cons, List.length_nil]; omega)) (by rfl) (by rfl) ?_
      intro q4 _
      refine Ls.ev (some 3) (Ev.assign (show Oper.op _ = Op.assign (Operand.tmp 16) from rfl) (by rfl)) (by rfl) (by rfl) ?_
      refine Ls.nil ?_
      refine Ent.pick [1, 2] (by rfl) ?_
      rw [h]
      refine Ent.inv (q4) ?_ ?_ ?_
      · (try dsimp only); skip
      · (repeat (first | exact trivial | refine ⟨by rfl, ?_⟩ | refine ⟨by simp only [List.length_append, List.length_cons, List.length_nil]; rfl, ?_⟩ | refine ⟨by push_cast; rfl, ?_⟩))
      · rfl
    · skip
      refine Cd.region ?_
      refine Ls.ev (some 17) (Ev.move (show Oper.op _ = Op.move (Operand.tmp 3) from rfl) (by rfl)) (by rfl) (by rfl) ?_
      refine Ls.does (some 18) (Does.lit (sz := 1) (show Oper.op _ = Op.buildSlice 25 1 #[(0, Operand.const (Value.int IntKind.u8 0))] from rfl) (by rfl) Try.underlying25 (by kernel_rfl) (by rfl) (by kernel_rfl)) (by rfl) (by rfl) ?_
      intro g2 _
      refine Ls.does (some 19) (Does.appB (l := textL e.key ++ uintL e.seq.toNat) (m := [0]) 2 (show Oper.op _ = Op.call { callee := Callee.builtin Builtin.append, args := #[Operand.tmp 17, Operand.tmp 18], argTypes := #[25, 25] } from rfl) (by rfl) (by rfl) (by rfl) (ReadsIn.row 0 (by rfl)) (by rw [hal]; simp only [List.length_cons, List.length_nil]; omega)) (by rfl) (by rfl) ?_
      intro q4 _
      refine Ls.ev (some 3) (Ev.assign (show Oper.op _ = Op.assign (Operand.tmp 19) from rfl) (by rfl)) (by rfl) (by rfl) ?_
      refine Ls.nil ?_
      refine Ent.pick [1, 2] (by rfl) ?_
      rw [h]
      refine Ent.inv (q4) ?_ ?_ ?_
      · (try dsimp only); skip
      · (repeat (first | exact trivial | refine ⟨by rfl, ?_⟩ | refine ⟨by simp only [List.length_append, List.length_cons, List.length_nil]; rfl, ?_⟩ | refine ⟨by push_cast; rfl, ?_⟩))
      · rfl
  skip
  rintro q5 -
  refine Cd.seq ?_
  refine Cd.region ?_
  refine Ls.ev (some 20) (Ev.move (show Oper.op _ = Op.move (Operand.tmp 3) from rfl) (by rfl)) (by rfl) (by rfl) ?_
  refine Ls.ev (some 21) (Ev.fieldAddr (k := 3) (show Oper.op _ = Op.fieldAddr 42 (Operand.tmp 1) 3 from rfl) (by rfl) (by kernel_rfl) (by rfl)) (by rfl) (by rfl) ?_
  refine Ls.ev (some 22) (Ev.load 0 (show Oper.op _ = Op.load 9 (Operand.tmp 21) from rfl) (by rfl) (by rfl) (by kernel_rfl) (by rfl)) (by rfl) (by rfl) ?_
  refine Ls.does (some 23) (Does.readN (show Oper.op _ = Op.call { callee := Callee.value (Operand.func 41), args := #[Operand.tmp 22], argTypes := #[9] } from rfl) Try.func41 (by kernel_rfl) (by kernel_rfl) (refText_sl e.value (by omega)) (by rfl) (by rfl) trivial (fun _ => by rfl)) (by rfl) (by rfl) ?_
  intro q6 _
  refine Ls.does (some 24) (Does.appB (l := textL e.key ++ uintL e.seq.toNat ++ [delB e.del]) (m := textL e.value) 2 (show Oper.op _ = Op.call { callee := Callee.builtin Builtin.append, args := #[Operand.tmp 20, Operand.tmp 23], argTypes := #[25, 25] } from rfl) (by rfl) (by rfl) (by rfl) (ReadsIn.row 0 (by rfl)) (by simp only [List.length_append, List.length_cons, List.length_nil]; omega)) (by rfl) (by rfl) ?_
  intro q7 _
  refine Ls.ev (some 2) (Ev.assign (show Oper.op _ = Op.assign (Operand.tmp 24) from rfl) (by rfl)) (by rfl) (by rfl) ?_
  refine Ls.nil ?_
  refine Cd.ret ?_
  refine Ent.ret (q7) (trivial) (Res.tmp (by rfl) (by rfl)) ?_ [2] (by rfl) ?_
  · rfl
  · rfl
end Go.Proofs.Ytnhcfhamcakfkaa
/- the document's Build, over pieces -/
namespace Go.Proofs.Ytnhcfhamcakfkaa
open Go.RowKit
theorem min_blk {n k : Nat} (h : 3 * k < n) : 3 * k + blkN n k = min n (3 * k + 3) := by
  show 3 * k + Nat.min 3 (n - 3 * k) = _
  have : Nat.min 3 (n - 3 * k) = min 3 (n - 3 * k) := rfl
  omega
set_option maxHeartbeats 1000000 in
theorem refBuild_sl (A : Option Addr) (c : Nat) (l : List Ety) (h : errL l = 0) : Fn Try.prog 12 #[.slice A l.length c] [rdE A l] (Option Addr × Nat) (fun p => .slice p.1 (tabL l).length p.2) (fun p => [rowB p.1 p.2 (tabL l)]) (fun _ => True) := by
  have hg := good_of h
  have hle := hg.le
  have hpos := hg.pos
  have hnb := hg.nb_le
  refine Fn.enter Try.func12 rfl Try.ntmps12 (by rfl) ?_
  intro w0
  skip
  refine Cd.seq ?_
  refine Cd.region ?_
  refine Ls.ev (some 2) (Ev.assign (show Oper.op _ = Op.assign (Operand.const (Value.slice none 0 0)) from rfl) (by rfl)) (by rfl) (by rfl) ?_
  refine Ls.nil ?_
  refine Cd.seq ?_
  refine Cd.region ?_
  refine Ls.ev (some 3) (Ev.assign (show Oper.op _ = Op.assign (Operand.const (Value.slice none 0 0)) from rfl) (by rfl)) (by rfl) (by rfl) ?_
  refine Ls.ev (some 4) (Ev.assign (show Oper.op _ = Op.assign (Operand.const (Value.slice none 0 0)) from rfl) (by rfl)) (by rfl) (by rfl) ?_
  refine Ls.nil ?_
  refine Cd.seq ?_
  refine Cd.region ?_
  refine Ls.ev (some 5) (Ev.assign (show Oper.op _ = Op.assign (Operand.const (Value.slice none 0 0)) from rfl) (by rfl)) (by rfl) (by rfl) ?_
  refine Ls.nil ?_
  refine Cd.seq ?_
  refine Cd.region ?_
  refine Ls.ev (some 6) (Ev.assign (show Oper.op _ = Op.assign (Operand.const (Value.int IntKind.i64 0)) from rfl) (by rfl)) (by rfl) (by rfl) ?_
  refine Ls.nil ?_
  refine Cd.seq ?_
  refine Cd.seq ?_
  refine Cd.region ?_
  refine Ls.ev (some 7) (Ev.assign (show Oper.op _ = Op.assign (Operand.const (Value.int IntKind.i64 0)) from rfl) (by rfl)) (by rfl) (by rfl) ?_
  refine Ls.nil ?_
  refine Cd.block ?_
  refine Ent.rdSome 0 (by rfl) (by omega) (fun ad had => ?_)
  subst had
  refine Ent.nil 9 1 (Ent.nil 5 1 (Ent.nil 5 1 ?_))
  refine Cd.loop (ι := Nat × BuL) (fun j => [(0, .slice (some ad) l.length c), (3, .slice j.2.oA (outK l j.1).length j.2.oc), (4, .slice j.2.xA (idxK l j.1).length j.2.xc), (5, .slice j.2.kA (cmpK (keysE l) (min (3 * j.1) l.length)).length j.2.kc), (6, .int .i64 j.1), (7, .int .i64 (3 * j.1 : Nat))]) (fun j => [rowB j.2.oA j.2.oc (outK l j.1), rowB j.2.xA j.2.xc (idxK l j.1), row j.2.kA (cmpK (keysE l) (min (3 * j.1) l.length)).length j.2.kc 9 1 (strs (cmpK (keysE l) (min (3 * j.1) l.length))), rdE (some ad) l]) (fun j => j.1 ≤ nbE l) (fun j => nbE l - j.1) ((0, ⟨none, 0, none, 0, none, 0⟩)) (Nat.zero_le _) ?_ rfl ?_
  · (repeat (first | exact trivial | refine ⟨by rfl, ?_⟩))
  rintro ⟨k, oA, oc, xA, xc, kA, kc⟩ hk
  dsimp only at hk ⊢
  refine Cd.seq ?_
  refine Cd.seq ?_
  refine Cd.region ?_
  refine Ls.ev (some 14) (Ev.move (show Oper.op _ = Op.move (Operand.tmp 7) from rfl) (by rfl)) (by rfl) (by rfl) ?_
  refine Ls.ev (some 15) (Ev.move (show Oper.op _ = Op.move (Operand.tmp 0) from rfl) (by rfl)) (by rfl) (by rfl) ?_
  refine Ls.ev (some 16) (Ev.len (show Oper.op _ = Op.call { callee := Callee.builtin Builtin.len, args := #[Operand.tmp 15], argTypes := #[22] } from rfl) (by rfl) Try.underlying22) (by rfl) (by rfl) ?_
  refine Ls.ev (some 17) (Ev.lss (show Oper.op _ = Op.binOp BinOp.lss 3 (Operand.tmp 14) (Operand.tmp 16) 3 from rfl) (by rfl) (by rfl)) (by rfl) (by rfl) ?_
  refine Ls.nil ?_
  refine Cd.cond _ (by rfl) (fun h1 => ?_) (fun h1 => ?_)
  · skip
    have hlt : 3 * k < l.length := by have := of_decide_eq_true h1; omega
    have hk28 : k < 28 := by omega
    have hm3 := min_blk hlt
    refine Cd.skip ?_
    refine Cd.seq ?_
    refine Cd.block ?_
    refine Cd.seq ?_
    refine Cd.region ?_
    refine Ls.ev (some 20) (Ev.move (show Oper.op _ = Op.move (Operand.tmp 0) from rfl) (by rfl)) (by rfl) (by rfl) ?_
    refine Ls.ev (some 21) (Ev.len (show Oper.op _ = Op.call { callee := Callee.builtin Builtin.len, args := #[Operand.tmp 20], argTypes := #[22] } from rfl) (by rfl) Try.underlying22) (by rfl) (by rfl) ?_
    refine Ls.ev (some 22) (Ev.move (show Oper.op _ = Op.move (Operand.tmp 7) from rfl) (by rfl)) (by rfl) (by rfl) ?_
    refine Ls.ev (some 23) (Ev.addN (b := 3) (show Oper.op _ = Op.binOp BinOp.add 3 (Operand.tmp 22) (Operand.const (Value.int IntKind.i64 3)) 3 from rfl) (by rfl) (by rfl) (by omega)) (by rfl) (by rfl) ?_
    refine Ls.ev (some 24) (Ev.minN (a := l.length) (b := 3 * k + 3) (m := 3 * k + blkN l.length k) (show Oper.op _ = Op.call { callee := Callee.builtin Builtin.min, args := #[Operand.tmp 21, Operand.tmp 23], argTypes := #[3, 3] } from rfl) (by rfl) (by rfl) hm3.symm) (by rfl) (by rfl) ?_
    refine Ls.ev (some 8) (Ev.assign (show Oper.op _ = Op.assign (Operand.tmp 24) from rfl) (by rfl)) (by rfl) (by rfl) ?_
    refine Ls.nil ?_
    refine Cd.seq ?_
    refine Cd.region ?_
    refine Ls.ev (some 9) (Ev.assign (show Oper.op _ = Op.assign (Operand.const (Value.slice none 0 0)) from rfl) (by rfl)) (by rfl) (by rfl) ?_
    refine Ls.nil ?_
    refine Cd.seq ?_
    refine Cd.seq ?_
    refine Cd.region ?_
    refine Ls.ev (some 25) (Ev.move (show Oper.op _ = Op.move (Operand.tmp 7) from rfl) (by rfl)) (by rfl) (by rfl) ?_
    refine Ls.ev (some 10) (Ev.assign (show Oper.op _ = Op.assign (Operand.tmp 25) from rfl) (by rfl)) (by rfl) (by rfl) ?_
    refine Ls.nil ?_
    refine Cd.block ?_
    have hbl : (blkE l k).length = blkN l.length k := blkE_len l k
    have hbn : 0 < blkN l.length k ∧ blkN l.length k ≤ 3 ∧ 3 * k + blkN l.length k ≤ l.length := by omega
    have hmk : min (3 * k) l.length = 3 * k := by omega
    rw [hmk]
    have hbs : (blkE l k).length ≤ 3 := blkE_le k
    have hkl : (keysE l).length = l.length := by unfold keysE; rw [List.length_map]
    refine Ent.nil 5 1 (Ent.pick [0, 3, 1, 2, 4] (by rfl) ?_)
    refine Cd.loop (ι := Nat × (Option Addr × Nat) × (Option Addr × Nat)) (fun j => [(0, .slice (some ad) l.length c), (3, .slice oA (outK l k).length oc), (4, .slice xA (idxK l k).length xc), (5, .slice j.2.2.1 (cmpK (keysE l) (3 * k + j.1)).length j.2.2.2), (6, .int .i64 k), (7, .int .i64 (3 * k : Nat)), (8, .int .i64 (3 * k + blkN l.length k : Nat)), (9, .slice j.2.1.1 (bodyE ((blkE l k).take j.1)).length j.2.1.2), (10, .int .i64 (3 * k + j.1 : Nat))]) (fun j => [rowB j.2.1.1 j.2.1.2 (bodyE ((blkE l k).take j.1)), row j.2.2.1 (cmpK (keysE l) (3 * k + j.1)).length j.2.2.2 9 1 (strs (cmpK (keysE l) (3 * k + j.1))), rowB oA oc (outK l k), rowB xA xc (idxK l k), rdE (some ad) l]) (fun j => j.1 ≤ (blkE l k).length) (fun j => (blkE l k).length - j.1) ((0, (none, 0), (kA, kc))) (Nat.zero_le _) ?_ rfl ?_
    · (repeat (first | exact trivial | refine ⟨by rfl, ?_⟩))
    rintro ⟨j, ⟨bA, bc⟩, ⟨mA, mc⟩⟩ hj
    dsimp only at hj ⊢
    refine Cd.seq ?_
    refine Cd.seq ?_
    refine Cd.region ?_
    refine Ls.ev (some 26) (Ev.move (show Oper.op _ = Op.move (Operand.tmp 10) from rfl) (by rfl)) (by rfl) (by rfl) ?_
    refine Ls.ev (some 27) (Ev.move (show Oper.op _ = Op.move (Operand.tmp 8) from rfl) (by rfl)) (by rfl) (by rfl) ?_
    refine Ls.ev (some 28) (Ev.lss (show Oper.op _ = Op.binOp BinOp.lss 3 (Operand.tmp 26) (Operand.tmp 27) 3 from rfl) (by rfl) (by rfl)) (by rfl) (by rfl) ?_
    refine Ls.nil ?_
    refine Cd.cond _ (by rfl) (fun h5 => ?_) (fun h5 => ?_)
    · skip
      have hjl : j < (blkE l k).length := by have := of_decide_eq_true h5; omega
      obtain ⟨e, he⟩ := get_of_lt hjl
      have hee := hg.blk_ok k e (List.mem_of_getElem? he)
      have hel := (blkE_get he).1
      have hb1 := body_succ he
      have hb2 := bodyE_len (l := (blkE l k).take (j + 1)) (fun x hx => hg.blk_ok k x (List.mem_of_mem_take hx))
      rw [List.length_take] at hb2
      have hb3 : (bodyE ((blkE l k).take (j + 1))).length = (bodyE ((blkE l k).take j)).length + (putL e).length := by rw [hb1, List.length_append]
      have hcl := cmpK_le (keysE l) (3 * k + j)
      have hke : (keysE l)[3 * k + j]? = some e.key := by unfold keysE; rw [List.getElem?_map, hel]; rfl
      refine Cd.skip ?_
      refine Cd.seq ?_
      refine Cd.block ?_
      refine Cd.seq ?_
      refine Cd.region ?_
      refine Ls.ev (some 31) (Ev.move (show Oper.op _ = Op.move (Operand.tmp 9) from rfl) (by rfl)) (by rfl) (by rfl) ?_
      refine Ls.ev (some 32) (Ev.move (show Oper.op _ = Op.move (Operand.tmp 0) from rfl) (by rfl)) (by rfl) (by rfl) ?_
      refine Ls.ev (some 33) (Ev.move (show Oper.op _ = Op.move (Operand.tmp 10) from rfl) (by rfl)) (by rfl) (by rfl) ?_
      refine Ls.ev (some 34) (Ev.indexAt (sz := 4) (show Oper.op _ = Op.indexAddr 22 (Operand.tmp 32) (Operand.tmp 33) from rfl) (by rfl) (by rfl) Try.underlying22 (by kernel_rfl) (by omega)) (by rfl) (by rfl) ?_
      refine Ls.ev (some 35) (Ev.loadEl (show Oper.op _ = Op.load 42 (Operand.tmp 34) from rfl) (by rfl) (ReadsIn.rd 4 (by rfl)) (by kernel_rfl) (by intro _; rfl) (by assumption)) (by rfl) (by rfl) ?_
      refine Ls.does (some 36) (Does.readN (show Oper.op _ = Op.call { callee := Callee.value (Operand.func 39), args := #[Operand.tmp 35], argTypes := #[42] } from rfl) Try.func39 (by kernel_rfl) (by kernel_rfl) (refEntry_sl e hee) (by rfl) (by rfl) trivial (fun _ => by rfl)) (by rfl) (by rfl) ?_
      intro q _
      refine Ls.does (some 37) (Does.appB (l := bodyE ((blkE l k).take j)) (m := putL e) 1 (show Oper.op _ = Op.call { callee := Callee.builtin Builtin.append, args := #[Operand.tmp 31, Operand.tmp 36], argTypes := #[25, 25] } from rfl) (by rfl) (by rfl) (by rfl) (ReadsIn.row 0 (by rfl)) (by omega)) (by rfl) (by rfl) ?_
      intro q2 _
      rw [← hb1]
      refine Ls.ev (some 9) (Ev.assign (show Oper.op _ = Op.assign (Operand.tmp 37) from rfl) (by rfl)) (by rfl) (by rfl) ?_
      refine Ls.nil ?_
      refine Cd.seq ?_
      refine Ent.pick [1, 2, 3, 4, 5] (by rfl) ?_
      refine Cd.cut (ι := Unit) (fun _ => [(0, .slice (some ad) l.length c), (3, .slice oA (outK l k).length oc), (4, .slice xA (idxK l k).length xc), (5, .slice mA (cmpK (keysE l) (3 * k + j)).length mc), (6, .int .i64 k), (7, .int .i64 (3 * k : Nat)), (8, .int .i64 (3 * k + blkN l.length k : Nat)), (9, .slice q2.1 (bodyE ((blkE l k).take (j + 1))).length q2.2), (10, .int .i64 (3 * k + j : Nat)), (53, .bool (decide (3 * k + j = 0 ∨ (keysE l)[3 * k + j - 1]? ≠ (keysE l)[3 * k + j]?)))]) (fun _ => [rowB q2.1 q2.2 (bodyE ((blkE l k).take (j + 1))), row mA (cmpK (keysE l) (3 * k + j)).length mc 9 1 (strs (cmpK (keysE l) (3 * k + j))), rowB oA oc (outK l k), rowB xA xc (idxK l k), rdE (some ad) l]) (fun _ => True) ?_ ?_
      · skip
        refine Cd.draw [] (by kernel_rfl) ?_
        refine Rg.ev 0 (by rfl) (fun _ h => h) (Ev.move (show Oper.op _ = Op.move (Operand.tmp 10) from rfl) (by rfl)) (by rfl) (some 38) (by rfl) (by kernel_rfl) (by kernel_rfl) (by kernel_rfl) (by kernel_rfl) ?_
        refine Rg.ev 1 (by rfl) (fun _ h => h) (Ev.eql (show Oper.op _ = Op.binOp BinOp.eql 3 (Operand.tmp 38) (Operand.const (Value.int IntKind.i64 0)) 3 from rfl) (by rfl) (by rfl)) (by rfl) (some 39) (by rfl) (by kernel_rfl) (by kernel_rfl) (by kernel_rfl) (by kernel_rfl) ?_
        refine Rg.ev 2 (by rfl) (fun _ h => h) (Ev.move (show Oper.op _ = Op.move (Operand.tmp 39) from rfl) (by rfl)) (by rfl) (some 40) (by rfl) (by kernel_rfl) (by kernel_rfl) (by kernel_rfl) (by kernel_rfl) ?_
        refine Ent.split 40 (by rfl) (fun h6 => ?_) (fun h6 => ?_)
        · skip
          have h7 : 3 * k + j ≠ 0 := by have := of_decide_eq_false h6; omega
          obtain ⟨p, hp⟩ := get_of_lt (show 3 * k + j - 1 < l.length by omega)
          have hkp : (keysE l)[3 * k + j - 1]? = some p.key := by unfold keysE; rw [List.getElem?_map, hp]; rfl
          skip
          refine Rg.ev 3 (by rfl) (fun _ h => h) (Ev.move (show Oper.op _ = Op.move (Operand.tmp 0) from rfl) (by rfl)) (by rfl) (some 41) (by rfl) (by kernel_rfl) (by kernel_rfl) (by kernel_rfl) (by kernel_rfl) ?_
          refine Rg.ev 4 (by rfl) (fun _ h => h) (Ev.move (show Oper.op _ = Op.move (Operand.tmp 10) from rfl) (by rfl)) (by rfl) (some 42) (by rfl) (by kernel_rfl) (by kernel_rfl) (by kernel_rfl) (by kernel_rfl) ?_
          refine Rg.ev 5 (by rfl) (fun _ h => h) (Ev.subN (b := 1) (show Oper.op _ = Op.binOp BinOp.sub 3 (Operand.tmp 42) (Operand.const (Value.int IntKind.i64 1)) 3 from rfl) (by rfl) (by rfl) (by omega)) (by rfl) (some 43) (by rfl) (by kernel_rfl) (by kernel_rfl) (by kernel_rfl) (by kernel_rfl) ?_
          refine Rg.ev 6 (by rfl) (fun _ h => h) (Ev.indexAt (sz := 4) (show Oper.op _ = Op.indexAddr 22 (Operand.tmp 41) (Operand.tmp 43) from rfl) (by rfl) (by rfl) Try.underlying22 (by kernel_rfl) (by omega)) (by rfl) (some 44) (by rfl) (by kernel_rfl) (by kernel_rfl) (by kernel_rfl) (by kernel_rfl) ?_
          refine Rg.ev 7 (by rfl) (fun _ h => h) (Ev.fieldAddrE0 (k := 0) (show Oper.op _ = Op.fieldAddr 42 (Operand.tmp 44) 0 from rfl) (by rfl) (by kernel_rfl)) (by rfl) (some 45) (by rfl) (by kernel_rfl) (by kernel_rfl) (by kernel_rfl) (by kernel_rfl) ?_
          refine Rg.ev 8 (by rfl) (fun _ h => h) (Ev.loadElF (show Oper.op _ = Op.load 9 (Operand.tmp 45) from rfl) (by rfl) (ReadsIn.rd 4 (by rfl)) (by kernel_rfl) (by intro _; rfl) (by assumption) (by rfl)) (by rfl) (some 46) (by rfl) (by kernel_rfl) (by kernel_rfl) (by kernel_rfl) (by kernel_rfl) ?_
          refine Rg.ev 9 (by rfl) (fun _ h => h) (Ev.move (show Oper.op _ = Op.move (Operand.tmp 0) from rfl) (by rfl)) (by rfl) (some 47) (by rfl) (by kernel_rfl) (by kernel_rfl) (by kernel_rfl) (by kernel_rfl) ?_
          refine Rg.ev 10 (by rfl) (fun _ h => h) (Ev.move (show Oper.op _ = Op.move (Operand.tmp 10) from rfl) (by rfl)) (by rfl) (some 48) (by rfl) (by kernel_rfl) (by kernel_rfl) (by kernel_rfl) (by kernel_rfl) ?_
          refine Rg.ev 11 (by rfl) (fun _ h => h) (Ev.indexAt (sz := 4) (show Oper.op _ = Op.indexAddr 22 (Operand.tmp 47) (Operand.tmp 48) from rfl) (by rfl) (by rfl) Try.underlying22 (by kernel_rfl) (by omega)) (by rfl) (some 49) (by rfl) (by kernel_rfl) (by kernel_rfl) (by kernel_rfl) (by kernel_rfl) ?_
          refine Rg.ev 12 (by rfl) (fun _ h => h) (Ev.fieldAddrE0 (k := 0) (show Oper.op _ = Op.fieldAddr 42 (Operand.tmp 49) 0 from rfl) (by rfl) (by kernel_rfl)) (by rfl) (some 50) (by rfl) (by kernel_rfl) (by kernel_rfl) (by kernel_rfl) (by kernel_rfl) ?_
          refine Rg.ev 13 (by rfl) (fun _ h => h) (Ev.loadElF (show Oper.op _ = Op.load 9 (Operand.tmp 50) from rfl) (by rfl) (ReadsIn.rd 4 (by rfl)) (by kernel_rfl) (by intro _; rfl) (by assumption) (by rfl)) (by rfl) (some 51) (by rfl) (by kernel_rfl) (by kernel_rfl) (by kernel_rfl) (by kernel_rfl) ?_
          refine Rg.ev 14 (by rfl) (fun _ h => h) (Ev.neqS (show Oper.op _ = Op.binOp BinOp.neq 9 (Operand.tmp 46) (Operand.tmp 51) 9 from rfl) (by rfl) (by rfl)) (by rfl) (some 52) (by rfl) (by kernel_rfl) (by kernel_rfl) (by kernel_rfl) (by kernel_rfl) ?_
          refine Rg.ev 15 (by rfl) (fun _ h => h) (Ev.pickF (show Oper.op _ = Op.pick (Operand.tmp 40) (Operand.const (Value.bool true)) (Operand.tmp 52) from rfl) (by rfl) (by rfl)) (by rfl) (some 53) (by rfl) (by kernel_rfl) (by kernel_rfl) (by kernel_rfl) (by kernel_rfl) ?_
          refine Rg.done (by kernel_rfl) ?_ _
          skip
          refine Ent.inv (()) ?_ ?_ ?_
          · (try dsimp only); skip
          · (repeat (first | exact trivial | refine ⟨by rfl, ?_⟩ | refine ⟨by simp only [List.length_append, List.length_cons, List.length_nil]; rfl, ?_⟩ | refine ⟨by push_cast; rfl, ?_⟩ | refine ⟨by (show some (Value.bool _) = some (Value.bool _); rw [hkp, hke]; congr 2; simp only [decide_eq_decide]; exact ⟨fun h => .inr (fun e => h (Option.some.inj e)), fun h => h.elim (fun h => absurd h h7) (fun h e => h (by rw [e]))⟩), ?_⟩))
          · rfl
        · skip
          have h7 : 3 * k + j = 0 := by have := of_decide_eq_true h6; omega
          refine Rg.pass 3 (by rfl) (fun _ h => h) (by rfl) (some 41) (by rfl) (by kernel_rfl) (by kernel_rfl) (by kernel_rfl) (by kernel_rfl) ?_
          refine Rg.pass 4 (by rfl) (fun _ h => h) (by rfl) (some 42) (by rfl) (by kernel_rfl) (by kernel_rfl) (by kernel_rfl) (by kernel_rfl) ?_
          refine Rg.pass 5 (by rfl) (fun _ h => h) (by rfl) (some 43) (by rfl) (by kernel_rfl) (by kernel_rfl) (by kernel_rfl) (by kernel_rfl) ?_
          refine Rg.pass 6 (by rfl) (fun _ h => h) (by rfl) (some 44) (by rfl) (by kernel_rfl) (by kernel_rfl) (by kernel_rfl) (by kernel_rfl) ?_
          refine Rg.pass 7 (by rfl) (fun _ h => h) (by rfl) (some 45) (by rfl) (by kernel_rfl) (by kernel_rfl) (by kernel_rfl) (by kernel_rfl) ?_
          refine Rg.pass 8 (by rfl) (fun _ h => h) (by rfl) (some 46) (by rfl) (by kernel_rfl) (by kernel_rfl) (by kernel_rfl) (by kernel_rfl) ?_
          refine Rg.pass 9 (by rfl) (fun _ h => h) (by rfl) (some 47) (by rfl) (by kernel_rfl) (by kernel_rfl) (by kernel_rfl) (by kernel_rfl) ?_
          refine Rg.pass 10 (by rfl) (fun _ h => h) (by rfl) (some 48) (by rfl) (by kernel_rfl) (by kernel_rfl) (by kernel_rfl) (by kernel_rfl) ?_
          refine Rg.pass 11 (by rfl) (fun _ h => h) (by rfl) (some 49) (by rfl) (by kernel_rfl) (by kernel_rfl) (by kernel_rfl) (by kernel_rfl) ?_
          refine Rg.pass 12 (by rfl) (fun _ h => h) (by rfl) (some 50) (by rfl) (by kernel_rfl) (by kernel_rfl) (by kernel_rfl) (by kernel_rfl) ?_
          refine Rg.pass 13 (by rfl) (fun _ h => h) (by rfl) (some 51) (by rfl) (by kernel_rfl) (by kernel_rfl) (by kernel_rfl) (by kernel_rfl) ?_
          refine Rg.pass 14 (by rfl) (fun _ h => h) (by rfl) (some 52) (by rfl) (by kernel_rfl) (by kernel_rfl) (by kernel_rfl) (by kernel_rfl) ?_
          refine Rg.ev 15 (by rfl) (fun _ h => h) (Ev.pickT (show Oper.op _ = Op.pick (Operand.tmp 40) (Operand.const (Value.bool true)) (Operand.tmp 52) from rfl) (by rfl) (by rfl)) (by rfl) (some 53) (by rfl) (by kernel_rfl) (by kernel_rfl) (by kernel_rfl) (by kernel_rfl) ?_
          refine Rg.done (by kernel_rfl) ?_ _
          refine Ent.inv (()) ?_ ?_ ?_
          · (try dsimp only); skip
          · (repeat (first | exact trivial | refine ⟨by rfl, ?_⟩ | refine ⟨by simp only [List.length_append, List.length_cons, List.length_nil]; rfl, ?_⟩ | refine ⟨by push_cast; rfl, ?_⟩ | refine ⟨by (show some (Value.bool _) = some (Value.bool _); congr 2; exact (decide_eq_true (.inl h7)).symm), ?_⟩))
          · rfl
      skip
      rintro _ -
      have hcs : cmpK (keysE l) (3 * k + (j + 1)) = cmpK (keysE l) (3 * k + j) ++ (if 3 * k + j = 0 ∨ (keysE l)[3 * k + j - 1]? ≠ (keysE l)[3 * k + j]? then ((keysE l)[3 * k + j]?).toList else []) := rfl
      refine Cd.cond _ (by rfl) (fun h8 => ?_) (fun h8 => ?_)
      · skip
        rw [if_pos (of_decide_eq_true h8), hke] at hcs
        have hcs2 : (cmpK (keysE l) (3 * k + (j + 1))).length = (cmpK (keysE l) (3 * k + j)).length + 1 := by rw [hcs, List.length_append]; rfl
        skip
        refine Cd.region ?_
        refine Ls.ev (some 54) (Ev.move (show Oper.op _ = Op.move (Operand.tmp 5) from rfl) (by rfl)) (by rfl) (by rfl) ?_
        refine Ls.ev (some 55) (Ev.move (show Oper.op _ = Op.move (Operand.tmp 0) from rfl) (by rfl)) (by rfl) (by rfl) ?_
        refine Ls.ev (some 56) (Ev.move (show Oper.op _ = Op.move (Operand.tmp 10) from rfl) (by rfl)) (by rfl) (by rfl) ?_
        refine Ls.ev (some 57) (Ev.indexAt (sz := 4) (show Oper.op _ = Op.indexAddr 22 (Operand.tmp 55) (Operand.tmp 56) from rfl) (by rfl) (by rfl) Try.underlying22 (by kernel_rfl) (by omega)) (by rfl) (by rfl) ?_
        refine Ls.ev (some 58) (Ev.fieldAddrE0 (k := 0) (show Oper.op _ = Op.fieldAddr 42 (Operand.tmp 57) 0 from rfl) (by rfl) (by kernel_rfl)) (by rfl) (by rfl) ?_
        refine Ls.ev (some 59) (Ev.loadElF (show Oper.op _ = Op.load 9 (Operand.tmp 58) from rfl) (by rfl) (ReadsIn.rd 4 (by rfl)) (by kernel_rfl) (by intro _; rfl) (by assumption) (by rfl)) (by rfl) (by rfl) ?_
        refine Ls.does (some 60) (Does.lit (sz := 1) (show Oper.op _ = Op.buildSlice 44 1 #[(0, Operand.tmp 59)] from rfl) (by rfl) Try.underlying44 (by kernel_rfl) (by rfl) (by kernel_rfl)) (by rfl) (by rfl) ?_
        intro g1 _
        skip
        refine Ls.does (some 61) (Does.app (xs := strs (cmpK (keysE l) (3 * k + j))) (news := strs [e.key]) 2 (show Oper.op _ = Op.call { callee := Callee.builtin Builtin.append, args := #[Operand.tmp 54, Operand.tmp 60], argTypes := #[44, 44] } from rfl) (by rfl) (by rfl) (by rfl) (ReadsIn.row 0 (by rfl)) elem_strs (strs_one _) (by omega)) (by rfl) (by rfl) ?_
        intro q3 _
        refine Ls.ev (some 5) (Ev.assign (show Oper.op _ = Op.assign (Operand.tmp 61) from rfl) (by rfl)) (by rfl) (by rfl) ?_
        refine Ls.nil ?_
        refine Cd.region ?_
        refine Ls.ev (some 29) (Ev.move (show Oper.op _ = Op.move (Operand.tmp 10) from rfl) (by rfl)) (by rfl) (by rfl) ?_
        refine Ls.ev (some 30) (Ev.addN (b := 1) (show Oper.op _ = Op.binOp BinOp.add 3 (Operand.tmp 29) (Operand.const (Value.int IntKind.i64 1)) 3 from rfl) (by rfl) (by rfl) (by omega)) (by rfl) (by rfl) ?_
        refine Ls.ev (some 10) (Ev.assign (show Oper.op _ = Op.assign (Operand.tmp 30) from rfl) (by rfl)) (by rfl) (by rfl) ?_
        refine Ls.nil ?_
        refine Ent.pick [1, 2, 3, 4, 5] (by rfl) ?_
        refine Ent.inv ((j + 1, q2, q3)) ?_ ?_ ?_
        · (try dsimp only); exact ⟨by omega, by omega⟩
        · (repeat (first | exact trivial | refine ⟨by rfl, ?_⟩ | refine ⟨by simp only [List.length_append, List.length_cons, List.length_nil]; rfl, ?_⟩ | refine ⟨by push_cast; rfl, ?_⟩ | refine ⟨by (show some (Value.slice _ _ _) = some (Value.slice _ _ _); dsimp only; rw [hcs2]), ?_⟩))
        · (show [_, _, _, _, _] = [_, _, _, _, _]; dsimp only; rw [hcs2, hcs, strs_append]; rfl)
      · skip
        rw [if_neg (of_decide_eq_false h8), List.append_nil] at hcs
        refine Cd.skip ?_
        refine Cd.region ?_
        refine Ls.ev (some 29) (Ev.move (show Oper.op _ = Op.move (Operand.tmp 10) from rfl) (by rfl)) (by rfl) (by rfl) ?_
        refine Ls.ev (some 30) (Ev.addN (b := 1) (show Oper.op _ = Op.binOp BinOp.add 3 (Operand.tmp 29) (Operand.const (Value.int IntKind.i64 1)) 3 from rfl) (by rfl) (by rfl) (by omega)) (by rfl) (by rfl) ?_
        refine Ls.ev (some 10) (Ev.assign (show Oper.op _ = Op.assign (Operand.tmp 30) from rfl) (by rfl)) (by rfl) (by rfl) ?_
        refine Ls.nil ?_
        refine Ent.inv ((j + 1, q2, (mA, mc))) ?_ ?_ ?_
        · (try dsimp only); exact ⟨by omega, by omega⟩
        · (repeat (first | exact trivial | refine ⟨by rfl, ?_⟩ | refine ⟨by simp only [List.length_append, List.length_cons, List.length_nil]; rfl, ?_⟩ | refine ⟨by push_cast; rfl, ?_⟩ | refine ⟨by (show some (Value.slice _ _ _) = some (Value.slice _ _ _); dsimp only; rw [hcs]), ?_⟩))
        · (show [_, _, _, _, _] = [_, _, _, _, _]; dsimp only; rw [hcs])
    · skip
      have hjl : j = (blkE l k).length := by have := of_decide_eq_false h5; omega
      subst hjl
      rw [List.take_length]
      have hbody := hg.body_le k
      have hseal := hg.seal_le k
      have hout := hg.out_le k
      have hidx := hg.idx_le k (by omega)
      have hidx1 := hg.idx1_le (k := k) (by omega)
      obtain ⟨e0, he0⟩ := get_of_lt (show 0 < (blkE l k).length by omega)
      obtain ⟨eL, heL⟩ := get_of_lt (show (blkE l k).length - 1 < (blkE l k).length by omega)
      have hf := hg.fst_le k
      have hl := hg.lst_le k
      rw [fstK_of he0] at hf
      rw [lstK_of heL] at hl
      have hl0 : l[3 * k]? = some e0 := (blkE_get he0).1
      have hlL : l[3 * k + blkN l.length k - 1]? = some eL := by rw [← hbl, show 3 * k + (blkE l k).length - 1 = 3 * k + ((blkE l k).length - 1) by omega]; exact (blkE_get heL).1
      have hix : idxE l k = textL e0.key ++ textL eL.key ++ uintL (outK l k).length ++ uintL (sealL (bodyE (blkE l k))).length := by unfold idxE; rw [fstK_of he0, lstK_of heL]
      have hixl : (idxE l k).length = (textL e0.key).length + (textL eL.key).length + (uintL (outK l k).length).length + (uintL (sealL (bodyE (blkE l k))).length).length := by rw [hix]; simp only [List.length_append]
      skip
      refine Cd.exit ?_
      refine Cd.seq ?_
      refine Cd.region ?_
      refine Ls.ev (some 62) (Ev.move (show Oper.op _ = Op.move (Operand.tmp 9) from rfl) (by rfl)) (by rfl) (by rfl) ?_
      refine Ls.does (some 63) (Does.readN (show Oper.op _ = Op.call { callee := Callee.value (Operand.func 40), args := #[Operand.tmp 62], argTypes := #[25] } from rfl) Try.func40 (by kernel_rfl) (by kernel_rfl) (refSeal_sl bA bc (bodyE (blkE l k)) (by omega)) (by rfl) (by rfl) ⟨ReadsIn.row 0 (by rfl), trivial⟩ (fun _ => by rfl)) (by rfl) (by rfl) ?_
      intro q _
      refine Ls.ev (some 11) (Ev.assign (show Oper.op _ = Op.assign (Operand.tmp 63) from rfl) (by rfl)) (by rfl) (by rfl) ?_
      refine Ls.nil ?_
      refine Cd.seq ?_
      refine Cd.region ?_
      refine Ls.ev (some 64) (Ev.move (show Oper.op _ = Op.move (Operand.tmp 4) from rfl) (by rfl)) (by rfl) (by rfl) ?_
      refine Ls.ev (some 65) (Ev.move (show Oper.op _ = Op.move (Operand.tmp 0) from rfl) (by rfl)) (by rfl) (by rfl) ?_
      refine Ls.ev (some 66) (Ev.move (show Oper.op _ = Op.move (Operand.tmp 7) from rfl) (by rfl)) (by rfl) (by rfl) ?_
      refine Ls.ev (some 67) (Ev.indexAt (sz := 4) (show Oper.op _ = Op.indexAddr 22 (Operand.tmp 65) (Operand.tmp 66) from rfl) (by rfl) (by rfl) Try.underlying22 (by kernel_rfl) (by omega)) (by rfl) (by rfl) ?_
      refine Ls.ev (some 68) (Ev.fieldAddrE0 (k := 0) (show Oper.op _ = Op.fieldAddr 42 (Operand.tmp 67) 0 from rfl) (by rfl) (by kernel_rfl)) (by rfl) (by rfl) ?_
      refine Ls.ev (some 69) (Ev.loadElF (show Oper.op _ = Op.load 9 (Operand.tmp 68) from rfl) (by rfl) (ReadsIn.rd 5 (by rfl)) (by kernel_rfl) (by intro _; rfl) (by assumption) (by rfl)) (by rfl) (by rfl) ?_
      refine Ls.does (some 70) (Does.readN (show Oper.op _ = Op.call { callee := Callee.value (Operand.func 41), args := #[Operand.tmp 69], argTypes := #[9] } from rfl) Try.func41 (by kernel_rfl) (by kernel_rfl) (refText_sl e0.key (by omega)) (by rfl) (by rfl) trivial (fun _ => by rfl)) (by rfl) (by rfl) ?_
      intro q1 _
      refine Ls.does (some 71) (Does.appB (l := idxK l k) (m := textL e0.key) 5 (show Oper.op _ = Op.call { callee := Callee.builtin Builtin.append, args := #[Operand.tmp 64, Operand.tmp 70], argTypes := #[25, 25] } from rfl) (by rfl) (by rfl) (by rfl) (ReadsIn.row 0 (by rfl)) (by omega)) (by rfl) (by rfl) ?_
      intro r1 _
      refine Ent.pick [1, 5, 4, 3, 6] (by rfl) ?_
      refine Ls.ev (some 4) (Ev.assign (show Oper.op _ = Op.assign (Operand.tmp 71) from rfl) (by rfl)) (by rfl) (by rfl) ?_
      refine Ls.nil ?_
      refine Cd.seq ?_
      refine Cd.region ?_
      refine Ls.ev (some 72) (Ev.move (show Oper.op _ = Op.move (Operand.tmp 4) from rfl) (by rfl)) (by rfl) (by rfl) ?_
      refine Ls.ev (some 73) (Ev.move (show Oper.op _ = Op.move (Operand.tmp 0) from rfl) (by rfl)) (by rfl) (by rfl) ?_
      refine Ls.ev (some 74) (Ev.move (show Oper.op _ = Op.move (Operand.tmp 8) from rfl) (by rfl)) (by rfl) (by rfl) ?_
      refine Ls.ev (some 75) (Ev.subN (b := 1) (show Oper.op _ = Op.binOp BinOp.sub 3 (Operand.tmp 74) (Operand.const (Value.int IntKind.i64 1)) 3 from rfl) (by rfl) (by rfl) (by omega)) (by rfl) (by rfl) ?_
      refine Ls.ev (some 76) (Ev.indexAt (sz := 4) (show Oper.op _ = Op.indexAddr 22 (Operand.tmp 73) (Operand.tmp 75) from rfl) (by rfl) (by rfl) Try.underlying22 (by kernel_rfl) (by omega)) (by rfl) (by rfl) ?_
      refine Ls.ev (some 77) (Ev.fieldAddrE0 (k := 0) (show Oper.op _ = Op.fieldAddr 42 (Operand.tmp 76) 0 from rfl) (by rfl) (by kernel_rfl)) (by rfl) (by rfl) ?_
      refine Ls.ev (some 78) (Ev.loadElF (show Oper.op _ = Op.load 9 (Operand.tmp 77) from rfl) (by rfl) (ReadsIn.rd 4 (by rfl)) (by kernel_rfl) (by intro _; rfl) (by assumption) (by rfl)) (by rfl) (by rfl) ?_
      refine Ls.does (some 79) (Does.readN (show Oper.op _ = Op.call { callee := Callee.value (Operand.func 41), args := #[Operand.tmp 78], argTypes := #[9] } from rfl) Try.func41 (by kernel_rfl) (by kernel_rfl) (refText_sl eL.key (by omega)) (by rfl) (by rfl) trivial (fun _ => by rfl)) (by rfl) (by rfl) ?_
      intro q2 _
      refine Ls.does (some 80) (Does.appB (l := idxK l k ++ textL e0.key) (m := textL eL.key) 2 (show Oper.op _ = Op.call { callee := Callee.builtin Builtin.append, args := #[Operand.tmp 72, Operand.tmp 79], argTypes := #[25, 25] } from rfl) (by rfl) (by rfl) (by rfl) (ReadsIn.row 0 (by rfl)) (by rw [List.length_append]; omega)) (by rfl) (by rfl) ?_
      intro r2 _
      refine Ls.ev (some 4) (Ev.assign (show Oper.op _ = Op.assign (Operand.tmp 80) from rfl) (by rfl)) (by rfl) (by rfl) ?_
      refine Ls.nil ?_
      refine Cd.seq ?_
      refine Cd.region ?_
      refine Ls.ev (some 81) (Ev.move (show Oper.op _ = Op.move (Operand.tmp 4) from rfl) (by rfl)) (by rfl) (by rfl) ?_
      refine Ls.ev (some 82) (Ev.move (show Oper.op _ = Op.move (Operand.tmp 3) from rfl) (by rfl)) (by rfl) (by rfl) ?_
      refine Ls.ev (some 83) (Ev.len (show Oper.op _ = Op.call { callee := Callee.builtin Builtin.len, args := #[Operand.tmp 82], argTypes := #[25] } from rfl) (by rfl) Try.underlying25) (by rfl) (by rfl) ?_
      refine Ls.ev (some 84) (Ev.convU (show Oper.op _ = Op.convert 3 64 (Operand.tmp 83) from rfl) (by rfl) (by kernel_rfl) Try.underlying64 (by omega)) (by rfl) (by rfl) ?_
      refine Ls.does (some 85) (Does.readN (show Oper.op _ = Op.call { callee := Callee.value (Operand.func 42), args := #[Operand.tmp 84], argTypes := #[64] } from rfl) Try.func42 (by kernel_rfl) (by kernel_rfl) (refUint_sl (outK l k).length (by omega)) (by rfl) (by rfl) trivial (fun _ => by rfl)) (by rfl) (by rfl) ?_
      intro q3 _
      refine Ls.does (some 86) (Does.appB (l := idxK l k ++ textL e0.key ++ textL eL.key) (m := uintL (outK l k).length) 3 (show Oper.op _ = Op.call { callee := Callee.builtin Builtin.append, args := #[Operand.tmp 81, Operand.tmp 85], argTypes := #[25, 25] } from rfl) (by rfl) (by rfl) (by rfl) (ReadsIn.row 0 (by rfl)) (by simp only [List.length_append]; omega)) (by rfl) (by rfl) ?_
      intro r3 _
      refine Ls.ev (some 4) (Ev.assign (show Oper.op _ = Op.assign (Operand.tmp 86) from rfl) (by rfl)) (by rfl) (by rfl) ?_
      refine Ls.nil ?_
      refine Cd.seq ?_
      refine Cd.region ?_
      refine Ls.ev (some 87) (Ev.move (show Oper.op _ = Op.move (Operand.tmp 4) from rfl) (by rfl)) (by rfl) (by rfl) ?_
      refine Ls.ev (some 88) (Ev.move (show Oper.op _ = Op.move (Operand.tmp 11) from rfl) (by rfl)) (by rfl) (by rfl) ?_
      refine Ls.ev (some 89) (Ev.len (show Oper.op _ = Op.call { callee := Callee.builtin Builtin.len, args := #[Operand.tmp 88], argTypes := #[25] } from rfl) (by rfl) Try.underlying25) (by rfl) (by rfl) ?_
      refine Ls.ev (some 90) (Ev.convU (show Oper.op _ = Op.convert 3 64 (Operand.tmp 89) from rfl) (by rfl) (by kernel_rfl) Try.underlying64 (by omega)) (by rfl) (by rfl) ?_
      refine Ls.does (some 91) (Does.readN (show Oper.op _ = Op.call { callee := Callee.value (Operand.func 42), args := #[Operand.tmp 90], argTypes := #[64] } from rfl) Try.func42 (by kernel_rfl) (by kernel_rfl) (refUint_sl (sealL (bodyE (blkE l k))).length (by omega)) (by rfl) (by rfl) trivial (fun _ => by rfl)) (by rfl) (by rfl) ?_
      intro q4 _
      refine Ls.does (some 92) (Does.appB (l := idxK l k ++ textL e0.key ++ textL eL.key ++ uintL (outK l k).length) (m := uintL (sealL (bodyE (blkE l k))).length) 4 (show Oper.op _ = Op.call { callee := Callee.builtin Builtin.append, args := #[Operand.tmp 87, Operand.tmp 91], argTypes := #[25, 25] } from rfl) (by rfl) (by rfl) (by rfl) (ReadsIn.row 0 (by rfl)) (by simp only [List.length_append]; omega)) (by rfl) (by rfl) ?_
      intro r4 _
      refine Ls.ev (some 4) (Ev.assign (show Oper.op _ = Op.assign (Operand.tmp 92) from rfl) (by rfl)) (by rfl) (by rfl) ?_
      refine Ls.nil ?_
      refine Cd.seq ?_
      refine Cd.region ?_
      refine Ls.ev (some 93) (Ev.move (show Oper.op _ = Op.move (Operand.tmp 3) from rfl) (by rfl)) (by rfl) (by rfl) ?_
      refine Ls.ev (some 94) (Ev.move (show Oper.op _ = Op.move (Operand.tmp 11) from rfl) (by rfl)) (by rfl) (by rfl) ?_
      refine Ls.does (some 95) (Does.appB (l := outK l k) (m := sealL (bodyE (blkE l k))) 5 (show Oper.op _ = Op.call { callee := Callee.builtin Builtin.append, args := #[Operand.tmp 93, Operand.tmp 94], argTypes := #[25, 25] } from rfl) (by rfl) (by rfl) (by rfl) (ReadsIn.row 3 (by rfl)) (by omega)) (by rfl) (by rfl) ?_
      intro r5 _
      refine Ls.ev (some 3) (Ev.assign (show Oper.op _ = Op.assign (Operand.tmp 95) from rfl) (by rfl)) (by rfl) (by rfl) ?_
      refine Ls.nil ?_
      refine Cd.region ?_
      refine Ls.ev (some 96) (Ev.move (show Oper.op _ = Op.move (Operand.tmp 6) from rfl) (by rfl)) (by rfl) (by rfl) ?_
      refine Ls.ev (some 97) (Ev.addN (b := 1) (show Oper.op _ = Op.binOp BinOp.add 3 (Operand.tmp 96) (Operand.const (Value.int IntKind.i64 1)) 3 from rfl) (by rfl) (by rfl) (by omega)) (by rfl) (by rfl) ?_
      refine Ls.ev (some 6) (Ev.assign (show Oper.op _ = Op.assign (Operand.tmp 97) from rfl) (by rfl)) (by rfl) (by rfl) ?_
      refine Ls.nil ?_
      refine Cd.region ?_
      refine Ls.ev (some 18) (Ev.move (show Oper.op _ = Op.move (Operand.tmp 7) from rfl) (by rfl)) (by rfl) (by rfl) ?_
      refine Ls.ev (some 19) (Ev.addN (b := 3) (show Oper.op _ = Op.binOp BinOp.add 3 (Operand.tmp 18) (Operand.const (Value.int IntKind.i64 3)) 3 from rfl) (by rfl) (by rfl) (by omega)) (by rfl) (by rfl) ?_
      refine Ls.ev (some 7) (Ev.assign (show Oper.op _ = Op.assign (Operand.tmp 19) from rfl) (by rfl)) (by rfl) (by rfl) ?_
      refine Ls.nil ?_
      skip
      have hmk1 : min (3 * (k + 1)) l.length = 3 * k + (blkE l k).length := by omega
      have hxx : idxK l k ++ textL e0.key ++ textL eL.key ++ uintL (outK l k).length ++ uintL (sealL (bodyE (blkE l k))).length = idxK l (k + 1) := by
        rw [idxK, hix]
        simp only [List.append_assoc]
      refine Ent.pick [5, 4, 6, 7] (by rfl) ?_
      rw [hxx]
      refine Ent.inv ((k + 1, ⟨r5.1, r5.2, r4.1, r4.2, mA, mc⟩)) ?_ ?_ ?_
      · (try dsimp only); exact ⟨by unfold nbE; omega, by unfold nbE; omega⟩
      · (repeat (first | exact trivial | refine ⟨by rfl, ?_⟩ | refine ⟨by simp only [List.length_append, List.length_cons, List.length_nil]; rfl, ?_⟩ | refine ⟨by push_cast; rfl, ?_⟩ | refine ⟨by (show some (Value.slice _ _ _) = some (Value.slice _ _ _); dsimp only; rw [hmk1]), ?_⟩))
      · (show [_, _, _, _] = [_, _, _, _]; dsimp only; rw [hmk1]; rfl)
  · skip
    have hkn : k = nbE l := by have := of_decide_eq_false h1; unfold nbE at hk ⊢; omega
    subst hkn
    have hmm : min (3 * nbE l) l.length = l.length := by unfold nbE; omega
    rw [hmm]
    have hout := hg.out_le (nbE l)
    have hidx := hg.idx_le (nbE l) (by omega)
    have hcm := cmpK_le (keysE l) l.length
    have hbl := buildL_len (ks := keysL (cmpK (keysE l) l.length)) (by unfold keysL; rw [List.length_map]; omega)
    have hfl := sealL_len (b := buildL (keysL (cmpK (keysE l) l.length)) 10) (by omega)
    have hfl2 : (filE l).length ≤ 112 := by unfold filE; omega
    have htl : (uintL (nbE l)).length = 1 := uintL_len1 (by omega)
    have htn : (uintL (nbE l) ++ idxK l (nbE l)).length ≤ 4096 := by rw [List.length_append]; omega
    have htl2 : (taiE l).length ≤ 4102 := by
      have := sealL_len (b := uintL (nbE l) ++ idxK l (nbE l)) (by omega)
      unfold taiE
      omega
    have hoe : (outE l).length = (outK l (nbE l)).length := rfl
    have hof : (outK l (nbE l) ++ filE l).length = (outE l).length + (filE l).length := by rw [List.length_append]; rfl
    have h4 : ∀ n, (fourL n).length = 4 := fun _ => rfl
    refine Cd.exit ?_
    refine Cd.seq ?_
    refine Cd.region ?_
    refine Ls.ev (some 98) (Ev.move (show Oper.op _ = Op.move (Operand.tmp 3) from rfl) (by rfl)) (by rfl) (by rfl) ?_
    refine Ls.ev (some 99) (Ev.len (show Oper.op _ = Op.call { callee := Callee.builtin Builtin.len, args := #[Operand.tmp 98], argTypes := #[25] } from rfl) (by rfl) Try.underlying25) (by rfl) (by rfl) ?_
    refine Ls.ev (some 12) (Ev.assign (show Oper.op _ = Op.assign (Operand.tmp 99) from rfl) (by rfl)) (by rfl) (by rfl) ?_
    refine Ls.nil ?_
    refine Cd.seq ?_
    refine Cd.region ?_
    refine Ls.ev (some 100) (Ev.move (show Oper.op _ = Op.move (Operand.tmp 3) from rfl) (by rfl)) (by rfl) (by rfl) ?_
    refine Ls.ev (some 101) (Ev.move (show Oper.op _ = Op.move (Operand.tmp 5) from rfl) (by rfl)) (by rfl) (by rfl) ?_
    refine Ls.does (some 102) (Does.readN (show Oper.op _ = Op.call { callee := Callee.value (Operand.func 22), args := #[Operand.tmp 101, Operand.const (Value.int IntKind.i64 10)], argTypes := #[44, 3] } from rfl) Try.func22 (by kernel_rfl) (by kernel_rfl) (refBBuild_sl kA kc (cmpK (keysE l) l.length) 10 (by omega) (fun s hs => hg.cmp_le hs)) (by rfl) (by rfl) ⟨ReadsIn.row 2 (by rfl), trivial⟩ (fun _ => by rfl)) (by rfl) (by rfl) ?_
    intro q1 _
    refine Ls.does (some 103) (Does.readN (show Oper.op _ = Op.call { callee := Callee.value (Operand.func 40), args := #[Operand.tmp 102], argTypes := #[25] } from rfl) Try.func40 (by kernel_rfl) (by kernel_rfl) (refSeal_sl q1.1 q1.2 (buildL (keysL (cmpK (keysE l) l.length)) 10) (by omega)) (by rfl) (by rfl) ⟨ReadsIn.row 0 (by rfl), trivial⟩ (fun _ => by rfl)) (by rfl) (by rfl) ?_
    intro q2 _
    refine Ls.does (some 104) (Does.appB (l := outK l (nbE l)) (m := filE l) 2 (show Oper.op _ = Op.call { callee := Callee.builtin Builtin.append, args := #[Operand.tmp 100, Operand.tmp 103], argTypes := #[25, 25] } from rfl) (by rfl) (by rfl) (by rfl) (ReadsIn.row 0 (by rfl)) (by omega)) (by rfl) (by rfl) ?_
    intro q3 _
    refine Ls.ev (some 3) (Ev.assign (show Oper.op _ = Op.assign (Operand.tmp 104) from rfl) (by rfl)) (by rfl) (by rfl) ?_
    refine Ls.nil ?_
    refine Cd.seq ?_
    refine Cd.region ?_
    refine Ls.ev (some 105) (Ev.move (show Oper.op _ = Op.move (Operand.tmp 3) from rfl) (by rfl)) (by rfl) (by rfl) ?_
    refine Ls.ev (some 106) (Ev.len (show Oper.op _ = Op.call { callee := Callee.builtin Builtin.len, args := #[Operand.tmp 105], argTypes := #[25] } from rfl) (by rfl) Try.underlying25) (by rfl) (by rfl) ?_
    refine Ls.ev (some 13) (Ev.assign (show Oper.op _ = Op.assign (Operand.tmp 106) from rfl) (by rfl)) (by rfl) (by rfl) ?_
    refine Ls.nil ?_
    refine Cd.seq ?_
    refine Cd.region ?_
    refine Ls.ev (some 107) (Ev.move (show Oper.op _ = Op.move (Operand.tmp 3) from rfl) (by rfl)) (by rfl) (by rfl) ?_
    refine Ls.ev (some 108) (Ev.move (show Oper.op _ = Op.move (Operand.tmp 6) from rfl) (by rfl)) (by rfl) (by rfl) ?_
    refine Ls.ev (some 109) (Ev.convU (show Oper.op _ = Op.convert 3 64 (Operand.tmp 108) from rfl) (by rfl) (by kernel_rfl) Try.underlying64 (by omega)) (by rfl) (by rfl) ?_
    refine Ls.does (some 110) (Does.readN (show Oper.op _ = Op.call { callee := Callee.value (Operand.func 42), args := #[Operand.tmp 109], argTypes := #[64] } from rfl) Try.func42 (by kernel_rfl) (by kernel_rfl) (refUint_sl (nbE l) (by omega)) (by rfl) (by rfl) trivial (fun _ => by rfl)) (by rfl) (by rfl) ?_
    intro q4 _
    refine Ls.ev (some 111) (Ev.move (show Oper.op _ = Op.move (Operand.tmp 4) from rfl) (by rfl)) (by rfl) (by rfl) ?_
    refine Ls.does (some 112) (Does.appB (l := uintL (nbE l)) (m := idxK l (nbE l)) 0 (show Oper.op _ = Op.call { callee := Callee.builtin Builtin.append, args := #[Operand.tmp 110, Operand.tmp 111], argTypes := #[25, 25] } from rfl) (by rfl) (by rfl) (by rfl) (ReadsIn.row 4 (by rfl)) (by omega)) (by rfl) (by rfl) ?_
    intro q5 _
    refine Ls.does (some 113) (Does.readN (show Oper.op _ = Op.call { callee := Callee.value (Operand.func 40), args := #[Operand.tmp 112], argTypes := #[25] } from rfl) Try.func40 (by kernel_rfl) (by kernel_rfl) (refSeal_sl q5.1 q5.2 (uintL (nbE l) ++ idxK l (nbE l)) (by omega)) (by rfl) (by rfl) ⟨ReadsIn.row 0 (by rfl), trivial⟩ (fun _ => by rfl)) (by rfl) (by rfl) ?_
    intro q6 _
    refine Ls.does (some 114) (Does.appB (l := outK l (nbE l) ++ filE l) (m := taiE l) 4 (show Oper.op _ = Op.call { callee := Callee.builtin Builtin.append, args := #[Operand.tmp 107, Operand.tmp 113], argTypes := #[25, 25] } from rfl) (by rfl) (by rfl) (by rfl) (ReadsIn.row 0 (by rfl)) (by omega)) (by rfl) (by rfl) ?_
    intro q7 _
    refine Ent.pick [4] (by rfl) ?_
    refine Ls.ev (some 3) (Ev.assign (show Oper.op _ = Op.assign (Operand.tmp 114) from rfl) (by rfl)) (by rfl) (by rfl) ?_
    refine Ls.nil ?_
    refine Cd.seq ?_
    refine Cd.region ?_
    refine Ls.ev (some 115) (Ev.move (show Oper.op _ = Op.move (Operand.tmp 3) from rfl) (by rfl)) (by rfl) (by rfl) ?_
    refine Ls.ev (some 116) (Ev.move (show Oper.op _ = Op.move (Operand.tmp 12) from rfl) (by rfl)) (by rfl) (by rfl) ?_
    refine Ls.does (some 117) (Does.readN (show Oper.op _ = Op.call { callee := Callee.value (Operand.func 43), args := #[Operand.tmp 116], argTypes := #[3] } from rfl) Try.func43 (by kernel_rfl) (by kernel_rfl) (refFour_sl (outK l (nbE l)).length (by omega)) (by rfl) (by rfl) trivial (fun _ => by rfl)) (by rfl) (by rfl) ?_
    intro q8 _
    refine Ls.does (some 118) (Does.appB (l := outK l (nbE l) ++ filE l ++ taiE l) (m := fourL (outK l (nbE l)).length) 1 (show Oper.op _ = Op.call { callee := Callee.builtin Builtin.append, args := #[Operand.tmp 115, Operand.tmp 117], argTypes := #[25, 25] } from rfl) (by rfl) (by rfl) (by rfl) (ReadsIn.row 0 (by rfl)) (by rw [List.length_append, h4]; omega)) (by rfl) (by rfl) ?_
    intro q9 _
    refine Ls.ev (some 3) (Ev.assign (show Oper.op _ = Op.assign (Operand.tmp 118) from rfl) (by rfl)) (by rfl) (by rfl) ?_
    refine Ls.nil ?_
    refine Cd.seq ?_
    refine Cd.region ?_
    refine Ls.ev (some 119) (Ev.move (show Oper.op _ = Op.move (Operand.tmp 3) from rfl) (by rfl)) (by rfl) (by rfl) ?_
    refine Ls.ev (some 120) (Ev.move (show Oper.op _ = Op.move (Operand.tmp 13) from rfl) (by rfl)) (by rfl) (by rfl) ?_
    refine Ls.does (some 121) (Does.readN (show Oper.op _ = Op.call { callee := Callee.value (Operand.func 43), args := #[Operand.tmp 120], argTypes := #[3] } from rfl) Try.func43 (by kernel_rfl) (by kernel_rfl) (refFour_sl (outK l (nbE l) ++ filE l).length (by omega)) (by rfl) (by rfl) trivial (fun _ => by rfl)) (by rfl) (by rfl) ?_
    intro q10 _
    refine Ls.does (some 122) (Does.appB (l := outK l (nbE l) ++ filE l ++ taiE l ++ fourL (outK l (nbE l)).length) (m := fourL (outK l (nbE l) ++ filE l).length) 2 (show Oper.op _ = Op.call { callee := Callee.builtin Builtin.append, args := #[Operand.tmp 119, Operand.tmp 121], argTypes := #[25, 25] } from rfl) (by rfl) (by rfl) (by rfl) (ReadsIn.row 0 (by rfl)) (by simp only [List.length_append, h4]; omega)) (by rfl) (by rfl) ?_
    intro q11 _
    refine Ls.ev (some 3) (Ev.assign (show Oper.op _ = Op.assign (Operand.tmp 122) from rfl) (by rfl)) (by rfl) (by rfl) ?_
    refine Ls.nil ?_
    refine Cd.seq ?_
    refine Cd.region ?_
    refine Ls.ev (some 123) (Ev.move (show Oper.op _ = Op.move (Operand.tmp 3) from rfl) (by rfl)) (by rfl) (by rfl) ?_
    refine Ls.does (some 124) (Does.lit (sz := 1) (show Oper.op _ = Op.buildSlice 25 4 #[(0, Operand.const (Value.int IntKind.u8 99)), (1, Operand.const (Value.int IntKind.u8 118)), (2, Operand.const (Value.int IntKind.u8 116)), (3, Operand.const (Value.int IntKind.u8 49))] from rfl) (by rfl) Try.underlying25 (by kernel_rfl) (by rfl) (by kernel_rfl)) (by rfl) (by rfl) ?_
    intro g1 _
    refine Ls.does (some 125) (Does.appB (l := outK l (nbE l) ++ filE l ++ taiE l ++ fourL (outK l (nbE l)).length ++ fourL (outK l (nbE l) ++ filE l).length) (m := [99, 118, 116, 49]) 3 (show Oper.op _ = Op.call { callee := Callee.builtin Builtin.append, args := #[Operand.tmp 123, Operand.tmp 124], argTypes := #[25, 25] } from rfl) (by rfl) (by rfl) (by rfl) (ReadsIn.row 0 (by rfl)) (by simp only [List.length_append, h4, List.length_cons, List.length_nil]; omega)) (by rfl) (by rfl) ?_
    intro q12 _
    refine Ls.ev (some 2) (Ev.assign (show Oper.op _ = Op.assign (Operand.tmp 125) from rfl) (by rfl)) (by rfl) (by rfl) ?_
    refine Ls.nil ?_
    have ht : outK l (nbE l) ++ filE l ++ taiE l ++ fourL (outK l (nbE l)).length ++ fourL (outK l (nbE l) ++ filE l).length ++ [99, 118, 116, 49] = tabL l := by
      rw [hof]
      rfl
    rw [ht]
    refine Cd.ret ?_
    refine Ent.ret (q12) (trivial) (Res.tmp (by rfl) (by rfl)) ?_ [3] (by rfl) ?_
    · rfl
    · rfl
end Go.Proofs.Ytnhcfhamcakfkaa
/- the document's Parse over pieces -/
namespace Go.Proofs.Ytnhcfhamcakfkaa
open Go.RowKit
theorem choose_list {α : Type} {P : Nat → α → Prop} : ∀ n, (∀ i, i < n → ∃ x, P i x) → ∃ ls : List α, ls.length = n ∧ ∀ i x, ls[i]? = some x → P i x
  | 0, _ => ⟨[], rfl, fun _ _ h => by simp at h⟩
  | n + 1, h => by
    obtain ⟨ls, h1, h2⟩ := choose_list n fun i hi => h i (by omega)
    obtain ⟨x, hx⟩ := h n (by omega)
    refine ⟨ls ++ [x], by rw [List.length_append, h1]; rfl, fun i y hy => ?_⟩
    by_cases hi : i < n
    · rw [List.getElem?_append_left (by omega)] at hy
      exact h2 i y hy
    · have hl := (List.getElem?_eq_some_iff.1 hy).1
      rw [List.length_append, List.length_cons, List.length_nil, h1] at hl
      obtain rfl : i = n := by omega
      rw [List.getElem?_append_right (by omega), h1, Nat.sub_self] at hy
      simp only [List.getElem?_cons_zero, Option.some.injEq] at hy
      rw [← hy]
      exact hx
theorem scanF_small : ∀ (n : Nat) (b : List UInt8), b.length ≤ n → ∀ f ∈ (scanF b).1, f.length ≤ 4096
  | 0, b, hb, f, hf => by
    obtain rfl := List.eq_nil_of_length_eq_zero (by omega : b.length = 0)
    rw [scanF_nil] at hf
    cases hf
  | n + 1, b, hb, f, hf => by
    cases h : takeF b with
    | none => rw [scanF_none h] at hf; cases hf
    | some x =>
      obtain ⟨p, k⟩ := x
      have hs := takeF_size h
      rw [scanF_some h] at hf
      rcases List.mem_cons.1 hf with rfl | hf
      · exact hs.2.2.1
      · exact scanF_small n (b.drop k) (by rw [List.length_drop]; omega) f hf
theorem refScan_sl (A : Option Addr) (c : Nat) (b : List UInt8) (hc : b.length ≤ c) (hm : b.length ≤ 1048576) :
    Fn Try.prog 47 #[.slice A b.length c] [rdB A b] (Option Addr × Nat × List Bs) (fun p => .tuple #[.slice p.1 p.2.2.length p.2.1, .int .i64 (scanF b).2]) (fun p => [rd p.1 p.2.2.length 1 (p.2.2.map Bs.val), stars (p.2.2.map Bs.rd)]) (fun p => p.2.2.map Bs.l = (scanF b).1 ∧ ∀ x ∈ p.2.2, x.l.length ≤ x.c) := fun w hs =>
  (refScan_any A b.length c b w (sat_rd 0 rfl hs) hc (by unfold maxLen; omega) (by omega)).mono fun e w' ⟨D, d, vs, he, ho, hr, hb⟩ => by
    obtain ⟨ls, hl, hp⟩ := choose_list (P := fun i (x : Bs) => vs[i]? = some x.val ∧ (scanF b).1[i]? = some x.l ∧ Own w' w.heap.size 5 1 x.A x.l.length x.c (u8s x.l)) (scanF b).1.length fun i hi => by
      obtain ⟨v, hv⟩ := get_of_lt (show i < vs.length by rw [hr.len]; exact hi)
      obtain ⟨l, hl⟩ := get_of_lt hi
      obtain ⟨A', c', rfl, ho'⟩ := hr.row i v l hv hl
      exact ⟨⟨A', c', l⟩, hv, hl, ho'⟩
    have hv : vs = ls.map Bs.val := by
      refine List.ext_getElem? fun i => ?_
      rw [List.getElem?_map]
      cases h : ls[i]? with
      | some x => exact (hp i x h).1
      | none =>
        rw [List.getElem?_eq_none_iff] at h
        exact List.getElem?_eq_none (by rw [hr.len]; omega)
    have hf : ls.map Bs.l = (scanF b).1 := by
      refine List.ext_getElem? fun i => ?_
      rw [List.getElem?_map]
      cases h : ls[i]? with
      | some x => exact (hp i x h).2.1.symm
      | none =>
        rw [List.getElem?_eq_none_iff] at h
        exact (List.getElem?_eq_none (by omega)).symm
    have hown : ∀ x ∈ ls, Own w' w.heap.size 5 1 x.A x.l.length x.c (u8s x.l) := fun x hx => by
      obtain ⟨i, hi, rfl⟩ := List.mem_iff_getElem.1 hx
      exact (hp i _ (List.getElem?_eq_getElem hi)).2.2
    have hxx : ∀ C ∈ [rd D ls.length 1 (ls.map Bs.val), stars (ls.map Bs.rd)], C.excl = false := by
      intro C hC
      simp only [List.mem_cons, List.not_mem_nil, or_false] at hC
      rcases hC with rfl | rfl <;> rfl
    have hval : ∀ g, (∃ x ∈ ls, blockOf x.A = some g) → ¬ g < w.heap.size := fun g ⟨x, hx, hg⟩ => by
      have := ((hown x hx).ge g hg).1
      omega
    rw [← hf, List.length_map] at ho he
    refine ⟨(D, d, ls), ⟨hf, fun x hx => Own.le (hown x hx)⟩, he, Upd.of_below hb, ⟨?_, List.pairwise_iff_getElem.2 fun i j hi hj _ hx => ?_⟩, ?_⟩
    · intro C hC
      simp only [List.mem_cons, List.not_mem_nil, or_false] at hC
      rcases hC with rfl | rfl
      · rw [hv] at ho
        exact ho.reads
      · intro C hC
        obtain ⟨x, hx, rfl⟩ := List.mem_map.1 hC
        exact ⟨rfl, (hown x hx).reads⟩
    · rw [hxx _ (List.getElem_mem hi), hxx _ (List.getElem_mem hj)] at hx
      rcases hx with hx | hx <;> cases hx
    · intro C hC
      simp only [List.mem_cons, List.not_mem_nil, or_false] at hC
      rcases hC with rfl | rfl
      · intro k hk hlt
        have := (ho.ge k hk.2).1
        dsimp only at hlt
        omega
      · intro k hk hlt
        obtain ⟨C, hC, hk⟩ := hk
        obtain ⟨x, hx, rfl⟩ := List.mem_map.1 hC
        exact absurd hlt (hval k ⟨x, hx, hk.2⟩)
theorem framesE_take {fs : List (List UInt8)} {k : Nat} {f : List UInt8} {out : List Ety} (h : framesE (fs.take k) = some out) (hf : fs[k]? = some f) : framesE (fs.take (k + 1)) = (entsF f).map (out ++ ·) := by
  rw [List.take_add_one, hf]
  show framesE (fs.take k ++ [f]) = _
  rw [framesE_snoc, h]
  rfl
theorem framesE_none {fs : List (List UInt8)} : ∀ {k : Nat} {f : List UInt8}, fs[k]? = some f → entsF f = none → framesE fs = none := by
  induction fs with
  | nil => intro k f h; simp at h
  | cons g r ih =>
    intro k f h h2
    cases k with
    | zero =>
      simp only [List.getElem?_cons_zero, Option.some.injEq] at h
      subst h
      show (entsF g).bind _ = none
      rw [h2]
      rfl
    | succ k =>
      rw [List.getElem?_cons_succ] at h
      show (entsF g).bind (fun l => (framesE r).map (l ++ ·)) = none
      rw [ih h h2]
      cases entsF g <;> rfl
structure PaR where
  k : Nat
  out : List Ety
  oA : Option Addr
  oc : Nat
set_option maxHeartbeats 1000000 in
theorem refParse_sl (A : Option Addr) (c : Nat) (b : List UInt8) (hc : b.length ≤ c) (hm : b.length ≤ 1048576) :
    Fn Try.prog 14 #[.slice A b.length c] [rdB A b] (Option Addr × Nat) (fun p => .tuple #[.slice p.1 ((refP b).getD []).length p.2, .bool (refP b).isSome]) (fun p => [rowE p.1 p.2 ((refP b).getD [])]) (fun _ => True) := by
  have hsm := scanF_small b.length b (Nat.le_refl _)
  have hsz := scanF_size b
  have hP : refP b = (framesE ((scanF b).1.take (min 84 ((scanF b).1.length - 2)))).bind fun out => if errL out = 0 ∧ tabL out = b then some out else none := rfl
  refine Fn.enter Try.func14 rfl Try.ntmps14 (by rfl) ?_
  intro w0
  skip
  refine Cd.seq ?_
  refine Cd.region ?_
  refine Ls.ev (some 2) (Ev.assign (show Oper.op _ = Op.assign (Operand.const (Value.slice none 0 0)) from rfl) (by rfl)) (by rfl) (by rfl) ?_
  refine Ls.ev (some 3) (Ev.assign (show Oper.op _ = Op.assign (Operand.const (Value.bool false)) from rfl) (by rfl)) (by rfl) (by rfl) ?_
  refine Ls.nil ?_
  refine Cd.seq ?_
  refine Cd.region ?_
  refine Ls.ev (some 11) (Ev.move (show Oper.op _ = Op.move (Operand.tmp 0) from rfl) (by rfl)) (by rfl) (by rfl) ?_
  refine Ls.does (some 12) (Does.call [0, 0] (show Oper.op _ = Op.call { callee := Callee.value (Operand.func 47), args := #[Operand.tmp 11], argTypes := #[25] } from rfl) Try.func47 (by kernel_rfl) (by kernel_rfl) (refScan_sl A c b hc hm) (by rfl) (by rfl) (by rfl)) (by rfl) (by rfl) ?_
  rintro ⟨D, d, ls⟩ ⟨hls, hcap⟩
  dsimp only at hls hcap ⊢
  revert hsm hsz hP
  rw [← hls]
  intro hsm hsz hP
  rw [List.length_map] at hP hsz
  obtain ⟨N, hN⟩ : ∃ N, N = min 84 (ls.length - 2) := ⟨_, rfl⟩
  rw [← hN] at hP
  refine Ls.ev (some 10) (Ev.move (show Oper.op _ = Op.move (Operand.tmp 12) from rfl) (by rfl)) (by rfl) (by rfl) ?_
  refine Ls.ev (some 13) (Ev.extract (show Oper.op _ = Op.extract (Operand.tmp 10) 0 from rfl) (by rfl) (by rfl)) (by rfl) (by rfl) ?_
  refine Ls.ev (some 14) (Ev.extract (show Oper.op _ = Op.extract (Operand.tmp 10) 1 from rfl) (by rfl) (by rfl)) (by rfl) (by rfl) ?_
  refine Ls.ev (some 4) (Ev.assign (show Oper.op _ = Op.assign (Operand.tmp 13) from rfl) (by rfl)) (by rfl) (by rfl) ?_
  refine Ls.ev (some 5) (Ev.assign (show Oper.op _ = Op.assign (Operand.tmp 14) from rfl) (by rfl)) (by rfl) (by rfl) ?_
  refine Ls.nil ?_
  refine Cd.seq ?_
  refine Cd.region ?_
  refine Ls.ev (some 6) (Ev.assign (show Oper.op _ = Op.assign (Operand.const (Value.slice none 0 0)) from rfl) (by rfl)) (by rfl) (by rfl) ?_
  refine Ls.nil ?_
  refine Cd.seq ?_
  refine Cd.seq ?_
  refine Cd.region ?_
  refine Ls.ev (some 7) (Ev.assign (show Oper.op _ = Op.assign (Operand.const (Value.int IntKind.i64 0)) from rfl) (by rfl)) (by rfl) (by rfl) ?_
  refine Ls.nil ?_
  refine Cd.block ?_
  refine Ent.nil 42 4 ?_
  refine Cd.loop (ι := PaR) (fun j => [(0, .slice A b.length c), (4, .slice D ls.length d), (6, .slice j.oA j.out.length j.oc), (7, .int .i64 j.k)]) (fun j => [rowE j.oA j.oc j.out, rd D ls.length 1 (ls.map Bs.val), stars (ls.map Bs.rd), rdB A b]) (fun j => j.k ≤ N ∧ framesE ((ls.map Bs.l).take j.k) = some j.out ∧ j.out.length ≤ 1024 * j.k) (fun j => N - j.k) (⟨0, [], none, 0⟩) (⟨Nat.zero_le _, rfl, Nat.zero_le _⟩) ?_ rfl ?_
  · (repeat (first | exact trivial | refine ⟨by rfl, ?_⟩))
  rintro ⟨k, out, oA, oc⟩ ⟨hk, hfr, hol⟩
  dsimp only at hk hfr hol ⊢
  refine Cd.seq ?_
  refine Cd.seq ?_
  refine Cd.cut (ι := Unit) (fun _ => [(0, .slice A b.length c), (4, .slice D ls.length d), (6, .slice oA out.length oc), (7, .int .i64 k), (23, .bool (decide (k < N)))]) (fun _ => [rowE oA oc out, rd D ls.length 1 (ls.map Bs.val), stars (ls.map Bs.rd), rdB A b]) (fun _ => True) ?_ ?_
  · skip
    refine Cd.region ?_
    refine Ls.ev (some 15) (Ev.move (show Oper.op _ = Op.move (Operand.tmp 7) from rfl) (by rfl)) (by rfl) (by rfl) ?_
    refine Ls.ev (some 16) (Ev.addN (b := 2) (show Oper.op _ = Op.binOp BinOp.add 3 (Operand.tmp 15) (Operand.const (Value.int IntKind.i64 2)) 3 from rfl) (by rfl) (by rfl) (by omega)) (by rfl) (by rfl) ?_
    refine Ls.ev (some 17) (Ev.move (show Oper.op _ = Op.move (Operand.tmp 4) from rfl) (by rfl)) (by rfl) (by rfl) ?_
    refine Ls.ev (some 18) (Ev.len (show Oper.op _ = Op.call { callee := Callee.builtin Builtin.len, args := #[Operand.tmp 17], argTypes := #[76] } from rfl) (by rfl) Try.underlying76) (by rfl) (by rfl) ?_
    refine Ls.ev (some 19) (Ev.lss (show Oper.op _ = Op.binOp BinOp.lss 3 (Operand.tmp 16) (Operand.tmp 18) 3 from rfl) (by rfl) (by rfl)) (by rfl) (by rfl) ?_
    refine Ls.ev (some 20) (Ev.move (show Oper.op _ = Op.move (Operand.tmp 19) from rfl) (by rfl)) (by rfl) (by rfl) ?_
    refine Ent.split 20 (by rfl) (fun h2 => ?_) (fun h2 => ?_)
    · skip
      have h2' := of_decide_eq_false h2
      refine Ls.pass (some 21) (by rfl) (by rfl) ?_
      refine Ls.pass (some 22) (by rfl) (by rfl) ?_
      refine Ls.ev (some 23) (Ev.pickF (show Oper.op _ = Op.pick (Operand.tmp 20) (Operand.tmp 22) (Operand.const (Value.bool false)) from rfl) (by rfl) (by rfl)) (by rfl) (by rfl) ?_
      refine Ls.nil ?_
      refine Ent.inv (()) ?_ ?_ ?_
      · (try dsimp only); skip
      · (repeat (first | exact trivial | refine ⟨by rfl, ?_⟩ | refine ⟨by simp only [List.length_append, List.length_cons, List.length_nil]; rfl, ?_⟩ | refine ⟨by push_cast; rfl, ?_⟩ | refine ⟨by (show some (Value.bool _) = some (Value.bool _); congr 2; exact (decide_eq_false (by omega)).symm), ?_⟩))
      · rfl
    · skip
      have h2' := of_decide_eq_true h2
      refine Ls.ev (some 21) (Ev.move (show Oper.op _ = Op.move (Operand.tmp 7) from rfl) (by rfl)) (by rfl) (by rfl) ?_
      refine Ls.ev (some 22) (Ev.lss (show Oper.op _ = Op.binOp BinOp.lss 3 (Operand.tmp 21) (Operand.const (Value.int IntKind.i64 84)) 3 from rfl) (by rfl) (by rfl)) (by rfl) (by rfl) ?_
      refine Ls.ev (some 23) (Ev.pickT (show Oper.op _ = Op.pick (Operand.tmp 20) (Operand.tmp 22) (Operand.const (Value.bool false)) from rfl) (by rfl) (by rfl)) (by rfl) (by rfl) ?_
      refine Ls.nil ?_
      refine Ent.inv (()) ?_ ?_ ?_
      · (try dsimp only); skip
      · (repeat (first | exact trivial | refine ⟨by rfl, ?_⟩ | refine ⟨by simp only [List.length_append, List.length_cons, List.length_nil]; rfl, ?_⟩ | refine ⟨by push_cast; rfl, ?_⟩ | refine ⟨by (show some (Value.bool _) = some (Value.bool _); congr 2; rw [decide_eq_decide]; omega), ?_⟩))
      · rfl
  skip
  rintro _ -
  refine Cd.cond _ (by rfl) (fun h => ?_) (fun h => ?_)
  · skip
    have hlt := of_decide_eq_true h
    obtain ⟨x, hx⟩ := get_of_lt (show k < ls.length by omega)
    have hv : (ls.map Bs.val)[k * 1]? = some x.val := by simp [hx]
    have hxl : (ls.map Bs.l)[k]? = some x.l := by simp [hx]
    have hmem := List.mem_of_getElem? hx
    have hx4 := hsm x.l (List.mem_map_of_mem hmem)
    have hxc := hcap x hmem
    have hnx := framesE_take hfr hxl
    refine Ent.rdSome 1 (by rfl) (by omega) (fun ad had => ?_)
    subst had
    refine Cd.skip ?_
    refine Cd.seq ?_
    refine Cd.block ?_
    refine Cd.seq ?_
    refine Cd.region ?_
    refine Ls.ev (some 27) (Ev.move (show Oper.op _ = Op.move (Operand.tmp 4) from rfl) (by rfl)) (by rfl) (by rfl) ?_
    refine Ls.ev (some 28) (Ev.move (show Oper.op _ = Op.move (Operand.tmp 7) from rfl) (by rfl)) (by rfl) (by rfl) ?_
    refine Ls.ev (some 29) (Ev.indexAt (sz := 1) (show Oper.op _ = Op.indexAddr 76 (Operand.tmp 27) (Operand.tmp 28) from rfl) (by rfl) (by rfl) Try.underlying76 (by kernel_rfl) (by omega)) (by rfl) (by rfl) ?_
    refine Ls.ev (some 30) (Ev.loadR 1 (show Oper.op _ = Op.load 25 (Operand.tmp 29) from rfl) (by rfl) (by rfl) (by kernel_rfl) (by omega) (by assumption)) (by rfl) (by rfl) ?_
    refine Ent.map (fun w hs => hs.stars_get (i := 2) (C := x.rd) rfl (List.mem_map_of_mem hmem)) ?_
    refine Ls.does (some 31) (Does.readN (show Oper.op _ = Op.call { callee := Callee.value (Operand.func 48), args := #[Operand.tmp 30], argTypes := #[25] } from rfl) Try.func48 (by kernel_rfl) (by kernel_rfl) (refEntries_sl x.A x.c x.l hxc (by omega)) (by rfl) (by rfl) ⟨ReadsIn.rd 0 (by rfl), trivial⟩ (fun _ => by rfl)) (by rfl) (by rfl) ?_
    intro q _
    refine Ls.ev (some 26) (Ev.move (show Oper.op _ = Op.move (Operand.tmp 31) from rfl) (by rfl)) (by rfl) (by rfl) ?_
    refine Ls.ev (some 32) (Ev.extract (show Oper.op _ = Op.extract (Operand.tmp 26) 0 from rfl) (by rfl) (by rfl)) (by rfl) (by rfl) ?_
    refine Ls.ev (some 33) (Ev.extract (show Oper.op _ = Op.extract (Operand.tmp 26) 1 from rfl) (by rfl) (by rfl)) (by rfl) (by rfl) ?_
    refine Ls.ev (some 8) (Ev.assign (show Oper.op _ = Op.assign (Operand.tmp 32) from rfl) (by rfl)) (by rfl) (by rfl) ?_
    refine Ls.ev (some 9) (Ev.assign (show Oper.op _ = Op.assign (Operand.tmp 33) from rfl) (by rfl)) (by rfl) (by rfl) ?_
    refine Ls.nil ?_
    refine Cd.seq ?_
    refine Cd.seq ?_
    refine Cd.region ?_
    refine Ls.ev (some 34) (Ev.move (show Oper.op _ = Op.move (Operand.tmp 9) from rfl) (by rfl)) (by rfl) (by rfl) ?_
    refine Ls.ev (some 35) (Ev.not (show Oper.op _ = Op.unOp UnOp.not 4 (Operand.tmp 34) from rfl) (by rfl)) (by rfl) (by rfl) ?_
    refine Ls.nil ?_
    cases he : entsF x.l with
    | none =>
      have hno : refP b = none := by
        rw [hP, framesE_none (k := k) (f := x.l) (by rw [List.getElem?_take, if_pos hlt]; exact hxl) he]
        rfl
      rw [hno]
      skip
      refine Cd.cond_true (by rfl) (rfl) ?_
      refine Cd.seq ?_
      refine Cd.region ?_
      refine Ls.ev (some 2) (Ev.assign (show Oper.op _ = Op.assign (Operand.const (Value.slice none 0 0)) from rfl) (by rfl)) (by rfl) (by rfl) ?_
      refine Ls.ev (some 3) (Ev.assign (show Oper.op _ = Op.assign (Operand.const (Value.bool false)) from rfl) (by rfl)) (by rfl) (by rfl) ?_
      refine Ls.nil ?_
      refine Ent.nil 42 4 ?_
      refine Cd.ret ?_
      refine Ent.ret ((none, 0)) (trivial) (Res.tmp2 (by rfl) (by rfl) (by rfl)) ?_ [0] (by rfl) ?_
      · rfl
      · rfl
    | some m =>
      rw [he] at hnx
      have hml := entsF_len he
      rw [Option.getD_some]
      skip
      refine Cd.cond_false (by rfl) (rfl) ?_
      refine Cd.skip ?_
      refine Cd.region ?_
      refine Ls.ev (some 36) (Ev.move (show Oper.op _ = Op.move (Operand.tmp 6) from rfl) (by rfl)) (by rfl) (by rfl) ?_
      refine Ls.ev (some 37) (Ev.move (show Oper.op _ = Op.move (Operand.tmp 8) from rfl) (by rfl)) (by rfl) (by rfl) ?_
      refine Ls.does (some 38) (Does.app (xs := out.flatMap Ety.enc) (news := m.flatMap Ety.enc) 2 (show Oper.op _ = Op.call { callee := Callee.builtin Builtin.append, args := #[Operand.tmp 36, Operand.tmp 37], argTypes := #[22, 22] } from rfl) (by rfl) (by rfl) (by rfl) (ReadsIn.row 0 (by rfl)) elem_ents (encs_one _) (by omega)) (by rfl) (by rfl) ?_
      intro q2 _
      refine Ls.ev (some 6) (Ev.assign (show Oper.op _ = Op.assign (Operand.tmp 38) from rfl) (by rfl)) (by rfl) (by rfl) ?_
      refine Ls.nil ?_
      refine Cd.region ?_
      refine Ls.ev (some 24) (Ev.move (show Oper.op _ = Op.move (Operand.tmp 7) from rfl) (by rfl)) (by rfl) (by rfl) ?_
      refine Ls.ev (some 25) (Ev.addN (b := 1) (show Oper.op _ = Op.binOp BinOp.add 3 (Operand.tmp 24) (Operand.const (Value.int IntKind.i64 1)) 3 from rfl) (by rfl) (by rfl) (by omega)) (by rfl) (by rfl) ?_
      refine Ls.ev (some 7) (Ev.assign (show Oper.op _ = Op.assign (Operand.tmp 25) from rfl) (by rfl)) (by rfl) (by rfl) ?_
      refine Ls.nil ?_
      refine Ent.pick [2, 3, 4, 5] (by rfl) ?_
      refine Ent.inv (⟨k + 1, out ++ m, q2.1, q2.2⟩) ?_ ?_ ?_
      · (try dsimp only); exact ⟨⟨by omega, hnx, by rw [List.length_append]; omega⟩, by omega⟩
      · (repeat (first | exact trivial | refine ⟨by rfl, ?_⟩ | refine ⟨by simp only [List.length_append, List.length_cons, List.length_nil]; rfl, ?_⟩ | refine ⟨by push_cast; rfl, ?_⟩ | refine ⟨by (show some (Value.slice _ _ _) = some (Value.slice _ _ _); dsimp only; first | done | rw [List.length_append]), ?_⟩))
      · (show [_, _, _, _] = [_, _, _, _]; dsimp only [rowE]; rw [List.length_append, List.flatMap_append])
  · skip
    have hkN : k = N := by have := of_decide_eq_false h; omega
    subst hkN
    rw [hfr, Option.bind_some] at hP
    refine Cd.exit ?_
    refine Cd.seq ?_
    refine Cd.seq ?_
    refine Cd.draw [] (by kernel_rfl) ?_
    refine Rg.ev 0 (by rfl) (fun _ h => h) (Ev.move (show Oper.op _ = Op.move (Operand.tmp 6) from rfl) (by rfl)) (by rfl) (some 39) (by rfl) (by kernel_rfl) (by kernel_rfl) (by kernel_rfl) (by kernel_rfl) ?_
    refine Rg.does 1 (by rfl) (by kernel_rfl) (Does.read (show Oper.op _ = Op.call { callee := Callee.value (Operand.func 11), args := #[Operand.tmp 39], argTypes := #[22] } from rfl) Try.func11 (by kernel_rfl) (by kernel_rfl) (refError_sl oA oc out (by omega)) (by rfl) (by rfl) ⟨ReadsIn.row 0 (by rfl), trivial⟩) (by rfl) (some 40) (by rfl) (by exact fun _ _ h => h) ?_
    rintro _ -
    refine Rg.ev 2 (by rfl) (fun _ h => h) (Ev.neq (show Oper.op _ = Op.binOp BinOp.neq 3 (Operand.tmp 40) (Operand.const (Value.int IntKind.i64 0)) 3 from rfl) (by rfl) (by rfl)) (by rfl) (some 41) (by rfl) (by kernel_rfl) (by kernel_rfl) (by kernel_rfl) (by kernel_rfl) ?_
    refine Rg.ev 3 (by rfl) (fun _ h => h) (Ev.move (show Oper.op _ = Op.move (Operand.tmp 41) from rfl) (by rfl)) (by rfl) (some 42) (by rfl) (by kernel_rfl) (by kernel_rfl) (by kernel_rfl) (by kernel_rfl) ?_
    refine Ent.split 42 (by rfl) (fun h4 => ?_) (fun h4 => ?_)
    · skip
      have he : errL out = 0 := by have := of_decide_eq_false h4; omega
      refine Rg.ev 4 (by rfl) (fun _ h => h) (Ev.move (show Oper.op _ = Op.move (Operand.tmp 6) from rfl) (by rfl)) (by rfl) (some 43) (by rfl) (by kernel_rfl) (by kernel_rfl) (by kernel_rfl) (by kernel_rfl) ?_
      refine Rg.ev 7 (by rfl) (fun _ h => h) (Ev.move (show Oper.op _ = Op.move (Operand.tmp 0) from rfl) (by rfl)) (by rfl) (some 46) (by rfl) (by kernel_rfl) (by kernel_rfl) (by kernel_rfl) (by kernel_rfl) ?_
      refine Rg.ev 8 (by rfl) (fun _ h => h) (Ev.textOf (show Oper.op _ = Op.convert 25 9 (Operand.tmp 46) from rfl) (by rfl) (ReadsIn.rd 3 (by rfl)) Try.underlying25 Try.underlying5 Try.underlying9) (by rfl) (some 47) (by rfl) (by kernel_rfl) (by kernel_rfl) (by kernel_rfl) (by kernel_rfl) ?_
      refine Rg.does 5 (by rfl) (by kernel_rfl) (Does.readN (show Oper.op _ = Op.call { callee := Callee.value (Operand.func 12), args := #[Operand.tmp 43], argTypes := #[22] } from rfl) Try.func12 (by kernel_rfl) (by kernel_rfl) (refBuild_sl oA oc out he) (by rfl) (by rfl) ⟨ReadsIn.row 0 (by rfl), trivial⟩ (fun _ => by rfl)) (by rfl) (some 44) (by rfl) (fun _ _ h => h.tail_) ?_
      intro q _
      refine Rg.ev 6 (by rfl) (fun _ h => h) (Ev.textOf (show Oper.op _ = Op.convert 25 9 (Operand.tmp 44) from rfl) (by rfl) (ReadsIn.row 0 (by rfl)) Try.underlying25 Try.underlying5 Try.underlying9) (by rfl) (some 45) (by rfl) (by kernel_rfl) (by kernel_rfl) (by kernel_rfl) (by kernel_rfl) ?_
      refine Rg.ev 9 (by rfl) (fun _ h => h) (Ev.neqS (show Oper.op _ = Op.binOp BinOp.neq 9 (Operand.tmp 45) (Operand.tmp 47) 9 from rfl) (by rfl) (by rfl)) (by rfl) (some 48) (by rfl) (by kernel_rfl) (by kernel_rfl) (by kernel_rfl) (by kernel_rfl) ?_
      refine Rg.ev 10 (by rfl) (fun _ h => h) (Ev.pickF (show Oper.op _ = Op.pick (Operand.tmp 42) (Operand.const (Value.bool true)) (Operand.tmp 48) from rfl) (by rfl) (by rfl)) (by rfl) (some 49) (by rfl) (by kernel_rfl) (by kernel_rfl) (by kernel_rfl) (by kernel_rfl) ?_
      refine Rg.done (by kernel_rfl) ?_ _
      refine Cd.cond _ (by rfl) (fun h5 => ?_) (fun h5 => ?_)
      · skip
        have h5' : tabL out ≠ b := fun e => (of_decide_eq_true h5) (by rw [e])
        rw [if_neg (fun h => h5' h.2)] at hP
        rw [hP]
        refine Cd.seq ?_
        refine Cd.region ?_
        refine Ls.ev (some 2) (Ev.assign (show Oper.op _ = Op.assign (Operand.const (Value.slice none 0 0)) from rfl) (by rfl)) (by rfl) (by rfl) ?_
        refine Ls.ev (some 3) (Ev.assign (show Oper.op _ = Op.assign (Operand.const (Value.bool false)) from rfl) (by rfl)) (by rfl) (by rfl) ?_
        refine Ls.nil ?_
        refine Ent.nil 42 4 ?_
        refine Cd.ret ?_
        refine Ent.ret ((none, 0)) (trivial) (Res.tmp2 (by rfl) (by rfl) (by rfl)) ?_ [0] (by rfl) ?_
        · rfl
        · rfl
      · skip
        have h5' : tabL out = b := txt_inj (Decidable.not_not.1 (of_decide_eq_false h5))
        rw [if_pos ⟨he, h5'⟩] at hP
        rw [hP, Option.getD_some]
        refine Cd.skip ?_
        refine Cd.seq ?_
        refine Cd.region ?_
        refine Ls.ev (some 50) (Ev.move (show Oper.op _ = Op.move (Operand.tmp 6) from rfl) (by rfl)) (by rfl) (by rfl) ?_
        refine Ls.ev (some 2) (Ev.assign (show Oper.op _ = Op.assign (Operand.tmp 50) from rfl) (by rfl)) (by rfl) (by rfl) ?_
        refine Ls.ev (some 3) (Ev.assign (show Oper.op _ = Op.assign (Operand.const (Value.bool true)) from rfl) (by rfl)) (by rfl) (by rfl) ?_
        refine Ls.nil ?_
        refine Cd.ret ?_
        refine Ent.ret ((oA, oc)) (trivial) (Res.tmp2 (by rfl) (by rfl) (by rfl)) ?_ [1] (by rfl) ?_
        · rfl
        · rfl
    · skip
      have he : errL out ≠ 0 := by have := of_decide_eq_true h4; omega
      rw [if_neg (fun h => he h.1)] at hP
      rw [hP]
      refine Rg.pass 4 (by rfl) (fun _ h => h) (by rfl) (some 43) (by rfl) (by kernel_rfl) (by kernel_rfl) (by kernel_rfl) (by kernel_rfl) ?_
      refine Rg.pass 7 (by rfl) (fun _ h => h) (by rfl) (some 46) (by rfl) (by kernel_rfl) (by kernel_rfl) (by kernel_rfl) (by kernel_rfl) ?_
      refine Rg.pass 8 (by rfl) (fun _ h => h) (by rfl) (some 47) (by rfl) (by kernel_rfl) (by kernel_rfl) (by kernel_rfl) (by kernel_rfl) ?_
      refine Rg.pass 5 (by rfl) (fun _ h => h) (by rfl) (some 44) (by rfl) (by kernel_rfl) (by kernel_rfl) (by kernel_rfl) (by kernel_rfl) ?_
      refine Rg.pass 6 (by rfl) (fun _ h => h) (by rfl) (some 45) (by rfl) (by kernel_rfl) (by kernel_rfl) (by kernel_rfl) (by kernel_rfl) ?_
      refine Rg.pass 9 (by rfl) (fun _ h => h) (by rfl) (some 48) (by rfl) (by kernel_rfl) (by kernel_rfl) (by kernel_rfl) (by kernel_rfl) ?_
      refine Rg.ev 10 (by rfl) (fun _ h => h) (Ev.pickT (show Oper.op _ = Op.pick (Operand.tmp 42) (Operand.const (Value.bool true)) (Operand.tmp 48) from rfl) (by rfl) (by rfl)) (by rfl) (some 49) (by rfl) (by kernel_rfl) (by kernel_rfl) (by kernel_rfl) (by kernel_rfl) ?_
      refine Rg.done (by kernel_rfl) ?_ _
      refine Cd.cond_true (by rfl) (rfl) ?_
      refine Cd.seq ?_
      refine Cd.region ?_
      refine Ls.ev (some 2) (Ev.assign (show Oper.op _ = Op.assign (Operand.const (Value.slice none 0 0)) from rfl) (by rfl)) (by rfl) (by rfl) ?_
      refine Ls.ev (some 3) (Ev.assign (show Oper.op _ = Op.assign (Operand.const (Value.bool false)) from rfl) (by rfl)) (by rfl) (by rfl) ?_
      refine Ls.nil ?_
      refine Ent.nil 42 4 ?_
      refine Cd.ret ?_
      refine Ent.ret ((none, 0)) (trivial) (Res.tmp2 (by rfl) (by rfl) (by rfl)) ?_ [0] (by rfl) ?_
      · rfl
      · rfl
end Go.Proofs.Ytnhcfhamcakfkaa
/- the document's Put (layer 4), convoylaw06.Good -/
namespace Go.Proofs.Ytnhcfhamcakfkaa
open Go.RowKit
theorem Ent.rowCap {Γ : Ctx} {N : Frm} {E : Env} {H : List Chunk} {A : Asrt} {B : Option Addr} {n c e sz : Nat} {xs : List Value} (i : Nat) (hi : H[i]? = some (row B n c e sz xs)) (h : n ≤ c → Ent Γ N E H A) : Ent Γ N E H A :=
  Ent.fact i hi (p := n ≤ c) (fun w ho => by
    have ho : Own w 0 e sz B n c xs := ho
    rcases ho.form with ⟨_, rfl, rfl, _⟩ | ⟨g, cur, _, _, _, hn, _⟩
    · exact Nat.le_refl _
    · exact hn) h
def putAt (l : List Ety) (e : Ety) : Nat := (l.takeWhile (fun x => befE x e)).length
def twiceE (l : List Ety) (e : Ety) : Bool := (l[putAt l e]?).any (fun x => decide (x.key = e.key) && decide (x.seq = e.seq))
def putN (l : List Ety) (e : Ety) : List Ety := l.take (putAt l e) ++ e :: l.drop (putAt l e)
def putS (l : List Ety) (e : Ety) : Option (List Ety) := if errE e ≠ 0 then none else if twiceE l e = true then none else some (putN l e)
def putE (e : Ety) : Int := if errE e ≠ 0 then errE e else 2
theorem putAt_le (l : List Ety) (e : Ety) : putAt l e ≤ l.length := (List.takeWhile_sublist _).length_le
theorem putAt_cons (x : Ety) (l : List Ety) (e : Ety) : putAt (x :: l) e = if befE x e = true then putAt l e + 1 else 0 := by
  unfold putAt
  rw [List.takeWhile_cons]
  split <;> rfl
theorem putAt_step (e : Ety) : ∀ (l : List Ety) (k : Nat) (x : Ety), k ≤ putAt l e → l[k]? = some x → (befE x e = true ↔ k + 1 ≤ putAt l e)
  | [], k, x, _, hx => by simp at hx
  | y :: l, k, x, hk, hx => by
    rw [putAt_cons] at hk ⊢
    cases k with
    | zero =>
      simp only [List.getElem?_cons_zero, Option.some.injEq] at hx
      subst hx
      split <;> simp_all
    | succ k =>
      rw [List.getElem?_cons_succ] at hx
      split at hk
      · rename_i h
        rw [if_pos h, putAt_step e l k x (by omega) hx]
        omega
      · omega
theorem putN_len (l : List Ety) (e : Ety) : (putN l e).length = l.length + 1 := by
  have := putAt_le l e
  unfold putN
  rw [List.length_append, List.length_cons, List.length_take, List.length_drop]
  omega
def putRes (A : Option Addr) (c : Nat) (l : List Ety) (e : Ety) : Option (Option Addr × Nat) → Value
  | none => .tuple #[.slice A l.length c, .int .i64 (putE e)]
  | some q => .tuple #[.slice q.1 (putN l e).length q.2, .int .i64 0]
def putPost (l : List Ety) (e : Ety) : Option (Option Addr × Nat) → List Chunk
  | none => []
  | some q => [rowE q.1 q.2 (putN l e)]
theorem refPut_any (A : Option Addr) (c : Nat) (l : List Ety) (e : Ety) (hn : l.length ≤ 1099511627776) (hc : l.length ≤ c) : Fn Try.prog 50 #[.slice A l.length c, .agg e.enc.toArray] [rdE A l] (Option (Option Addr × Nat)) (putRes A c l e) (putPost l e) (fun p => p.isSome = (putS l e).isSome) := by
  have hpa := putAt_le l e
  refine Fn.enter Try.func50 rfl Try.ntmps50 (by rfl) ?_
  intro w0
  skip
  refine Cd.seq ?_
  refine Cd.region ?_
  refine Ls.does (some 3) (Does.box (show Oper.op _ = Op.box 42 (Operand.tmp 1) from rfl) (by rfl)) (by rfl) (by rfl) ?_
  intro g1 _
  refine Ls.ev (some 4) (Ev.assign (show Oper.op _ = Op.assign (Operand.const (Value.slice none 0 0)) from rfl) (by rfl)) (by rfl) (by rfl) ?_
  refine Ls.ev (some 5) (Ev.assign (show Oper.op _ = Op.assign (Operand.const (Value.int IntKind.i64 0)) from rfl) (by rfl)) (by rfl) (by rfl) ?_
  refine Ls.nil ?_
  refine Cd.seq ?_
  refine Cd.region ?_
  refine Ls.ev (some 9) (Ev.loads 0 (show Oper.op _ = Op.load 42 (Operand.tmp 3) from rfl) (by rfl) (by rfl) (n := 4) (by kernel_rfl) (by rfl) (by rfl)) (by rfl) (by rfl) ?_
  refine Ls.does (some 10) (Does.read (show Oper.op _ = Op.call { callee := Callee.value (Operand.func 37), args := #[Operand.tmp 9], argTypes := #[42] } from rfl) Try.func37 (by kernel_rfl) (by kernel_rfl) (refErr_sl e) (by rfl) (by rfl) trivial) (by rfl) (by rfl) ?_
  rintro _ -
  refine Ls.ev (some 6) (Ev.assign (show Oper.op _ = Op.assign (Operand.tmp 10) from rfl) (by rfl)) (by rfl) (by rfl) ?_
  refine Ls.nil ?_
  refine Cd.seq ?_
  refine Cd.seq ?_
  refine Cd.region ?_
  refine Ls.ev (some 11) (Ev.move (show Oper.op _ = Op.move (Operand.tmp 6) from rfl) (by rfl)) (by rfl) (by rfl) ?_
  refine Ls.ev (some 12) (Ev.neq (show Oper.op _ = Op.binOp BinOp.neq 3 (Operand.tmp 11) (Operand.const (Value.int IntKind.i64 0)) 3 from rfl) (by rfl) (by rfl)) (by rfl) (by rfl) ?_
  refine Ls.nil ?_
  refine Cd.cond _ (by rfl) (fun h1 => ?_) (fun h1 => ?_)
  · skip
    have h1 : errE e ≠ 0 := of_decide_eq_true h1
    refine Cd.seq ?_
    refine Cd.region ?_
    refine Ls.ev (some 13) (Ev.move (show Oper.op _ = Op.move (Operand.tmp 0) from rfl) (by rfl)) (by rfl) (by rfl) ?_
    refine Ls.ev (some 14) (Ev.move (show Oper.op _ = Op.move (Operand.tmp 6) from rfl) (by rfl)) (by rfl) (by rfl) ?_
    refine Ls.ev (some 4) (Ev.assign (show Oper.op _ = Op.assign (Operand.tmp 13) from rfl) (by rfl)) (by rfl) (by rfl) ?_
    refine Ls.ev (some 5) (Ev.assign (show Oper.op _ = Op.assign (Operand.tmp 14) from rfl) (by rfl)) (by rfl) (by rfl) ?_
    refine Ls.nil ?_
    refine Cd.ret ?_
    refine Ent.ret (none) ((by unfold putS; rw [if_pos h1]; rfl)) (Res.tmp2 (by rfl) (by rfl) (by rfl)) ?_ [] (by rfl) ?_
    · unfold putRes putE; rw [if_pos h1]
    · rfl
  · skip
    have h1 : ¬ errE e ≠ 0 := of_decide_eq_false h1
    refine Cd.skip ?_
    refine Cd.seq ?_
    refine Cd.region ?_
    refine Ls.ev (some 7) (Ev.assign (show Oper.op _ = Op.assign (Operand.const (Value.slice none 0 0)) from rfl) (by rfl)) (by rfl) (by rfl) ?_
    refine Ls.nil ?_
    refine Cd.seq ?_
    refine Cd.region ?_
    refine Ls.ev (some 8) (Ev.assign (show Oper.op _ = Op.assign (Operand.const (Value.int IntKind.i64 0)) from rfl) (by rfl)) (by rfl) (by rfl) ?_
    refine Ls.nil ?_
    refine Cd.seq ?_
    refine Cd.block ?_
    refine Ent.nil 42 4 ?_
    refine Cd.loop (ι := Nat × Option Addr × Nat) (fun j => [(0, .slice A l.length c), (3, .pointer (some ⟨g1, 0, none⟩)), (7, .slice j.2.1 (l.take j.1).length j.2.2), (8, .int .i64 j.1)]) (fun j => [rowE j.2.1 j.2.2 (l.take j.1), blk g1 42 e.enc, rdE A l]) (fun j => j.1 ≤ putAt l e) (fun j => l.length - j.1) ((0, none, 0)) (Nat.zero_le _) ?_ rfl ?_
    · (repeat (first | exact trivial | refine ⟨by rfl, ?_⟩))
    rintro ⟨k, qA, qc⟩ hk
    dsimp only at hk ⊢
    have hlt : (l.take k).length = k := by rw [List.length_take]; omega
    refine Cd.seq ?_
    refine Cd.seq ?_
    refine Cd.cut (ι := Unit) (fun _ => [(0, .slice A l.length c), (3, .pointer (some ⟨g1, 0, none⟩)), (7, .slice qA (l.take k).length qc), (8, .int .i64 k), (26, .bool (decide (k < putAt l e)))]) (fun _ => [rowE qA qc (l.take k), blk g1 42 e.enc, rdE A l]) (fun _ => True) ?_ ?_
    · skip
      refine Cd.draw [] (by kernel_rfl) ?_
      refine Rg.ev 0 (by rfl) (fun _ h => h) (Ev.move (show Oper.op _ = Op.move (Operand.tmp 8) from rfl) (by rfl)) (by rfl) (some 15) (by rfl) (by kernel_rfl) (by kernel_rfl) (by kernel_rfl) (by kernel_rfl) ?_
      refine Rg.ev 1 (by rfl) (fun _ h => h) (Ev.move (show Oper.op _ = Op.move (Operand.tmp 0) from rfl) (by rfl)) (by rfl) (some 16) (by rfl) (by kernel_rfl) (by kernel_rfl) (by kernel_rfl) (by kernel_rfl) ?_
      refine Rg.ev 2 (by rfl) (fun _ h => h) (Ev.len (show Oper.op _ = Op.call { callee := Callee.builtin Builtin.len, args := #[Operand.tmp 16], argTypes := #[22] } from rfl) (by rfl) Try.underlying22) (by rfl) (some 17) (by rfl) (by kernel_rfl) (by kernel_rfl) (by kernel_rfl) (by kernel_rfl) ?_
      refine Rg.ev 3 (by rfl) (fun _ h => h) (Ev.lss (show Oper.op _ = Op.binOp BinOp.lss 3 (Operand.tmp 15) (Operand.tmp 17) 3 from rfl) (by rfl) (by rfl)) (by rfl) (some 18) (by rfl) (by kernel_rfl) (by kernel_rfl) (by kernel_rfl) (by kernel_rfl) ?_
      refine Rg.ev 4 (by rfl) (fun _ h => h) (Ev.move (show Oper.op _ = Op.move (Operand.tmp 18) from rfl) (by rfl)) (by rfl) (some 19) (by rfl) (by kernel_rfl) (by kernel_rfl) (by kernel_rfl) (by kernel_rfl) ?_
      refine Ent.split 19 (by rfl) (fun h2 => ?_) (fun h2 => ?_)
      · skip
        have hk2 : ¬ k < l.length := by have := of_decide_eq_false h2; omega
        refine Rg.pass 5 (by rfl) (fun _ h => h) (by rfl) (some 20) (by rfl) (by kernel_rfl) (by kernel_rfl) (by kernel_rfl) (by kernel_rfl) ?_
        refine Rg.pass 6 (by rfl) (fun _ h => h) (by rfl) (some 21) (by rfl) (by kernel_rfl) (by kernel_rfl) (by kernel_rfl) (by kernel_rfl) ?_
        refine Rg.pass 7 (by rfl) (fun _ h => h) (by rfl) (some 22) (by rfl) (by kernel_rfl) (by kernel_rfl) (by kernel_rfl) (by kernel_rfl) ?_
        refine Rg.pass 8 (by rfl) (fun _ h => h) (by rfl) (some 23) (by rfl) (by kernel_rfl) (by kernel_rfl) (by kernel_rfl) (by kernel_rfl) ?_
        refine Rg.pass 9 (by rfl) (fun _ h => h) (by rfl) (some 24) (by rfl) (by kernel_rfl) (by kernel_rfl) (by kernel_rfl) (by kernel_rfl) ?_
        refine Rg.pass 10 (by rfl) (fun _ h => h) (by rfl) (some 25) (by rfl) (by kernel_rfl) (by kernel_rfl) (by kernel_rfl) (by kernel_rfl) ?_
        refine Rg.ev 11 (by rfl) (fun _ h => h) (Ev.pickF (show Oper.op _ = Op.pick (Operand.tmp 19) (Operand.tmp 25) (Operand.const (Value.bool false)) from rfl) (by rfl) (by rfl)) (by rfl) (some 26) (by rfl) (by kernel_rfl) (by kernel_rfl) (by kernel_rfl) (by kernel_rfl) ?_
        refine Rg.done (by kernel_rfl) ?_ _
        refine Ent.inv (()) ?_ ?_ ?_
        · (try dsimp only); skip
        · (repeat (first | exact trivial | refine ⟨by rfl, ?_⟩ | refine ⟨by simp only [List.length_append, List.length_cons, List.length_nil]; rfl, ?_⟩ | refine ⟨by push_cast; rfl, ?_⟩ | refine ⟨by (show some (Value.bool _) = some (Value.bool _); congr 2; exact (decide_eq_false (by omega)).symm), ?_⟩))
        · rfl
      · skip
        have hk2 : k < l.length := by have := of_decide_eq_true h2; omega
        obtain ⟨x, hx⟩ := get_of_lt hk2
        refine Ent.rdSome 2 (by rfl) (by omega) (fun ad had => ?_)
        subst had
        refine Rg.ev 5 (by rfl) (fun _ h => h) (Ev.move (show Oper.op _ = Op.move (Operand.tmp 0) from rfl) (by rfl)) (by rfl) (some 20) (by rfl) (by kernel_rfl) (by kernel_rfl) (by kernel_rfl) (by kernel_rfl) ?_
        refine Rg.ev 6 (by rfl) (fun _ h => h) (Ev.move (show Oper.op _ = Op.move (Operand.tmp 8) from rfl) (by rfl)) (by rfl) (some 21) (by rfl) (by kernel_rfl) (by kernel_rfl) (by kernel_rfl) (by kernel_rfl) ?_
        refine Rg.ev 7 (by rfl) (fun _ h => h) (Ev.indexAt (sz := 4) (show Oper.op _ = Op.indexAddr 22 (Operand.tmp 20) (Operand.tmp 21) from rfl) (by rfl) (by rfl) Try.underlying22 (by kernel_rfl) (by omega)) (by rfl) (some 22) (by rfl) (by kernel_rfl) (by kernel_rfl) (by kernel_rfl) (by kernel_rfl) ?_
        refine Rg.ev 8 (by rfl) (fun _ h => h) (Ev.loadEl (show Oper.op _ = Op.load 42 (Operand.tmp 22) from rfl) (by rfl) (ReadsIn.rd 2 (by rfl)) (by kernel_rfl) (by intro _; rfl) (by assumption)) (by rfl) (some 23) (by rfl) (by kernel_rfl) (by kernel_rfl) (by kernel_rfl) (by kernel_rfl) ?_
        refine Rg.ev 9 (by rfl) (fun _ h => h) (Ev.loads 1 (show Oper.op _ = Op.load 42 (Operand.tmp 3) from rfl) (by rfl) (by rfl) (n := 4) (by kernel_rfl) (by rfl) (by rfl)) (by rfl) (some 24) (by rfl) (by kernel_rfl) (by kernel_rfl) (by kernel_rfl) (by kernel_rfl) ?_
        refine Rg.does 10 (by rfl) (by kernel_rfl) (Does.read (show Oper.op _ = Op.call { callee := Callee.value (Operand.func 38), args := #[Operand.tmp 23, Operand.tmp 24], argTypes := #[42, 42] } from rfl) Try.func38 (by kernel_rfl) (by kernel_rfl) (refBefore_sl x e) (by rfl) (by rfl) trivial) (by rfl) (some 25) (by rfl) (by exact fun _ _ h => h) ?_
        rintro _ -
        refine Rg.ev 11 (by rfl) (fun _ h => h) (Ev.pickT (show Oper.op _ = Op.pick (Operand.tmp 19) (Operand.tmp 25) (Operand.const (Value.bool false)) from rfl) (by rfl) (by rfl)) (by rfl) (some 26) (by rfl) (by kernel_rfl) (by kernel_rfl) (by kernel_rfl) (by kernel_rfl) ?_
        refine Rg.done (by kernel_rfl) ?_ _
        refine Ent.inv (()) ?_ ?_ ?_
        · (try dsimp only); skip
        · (repeat (first | exact trivial | refine ⟨by rfl, ?_⟩ | refine ⟨by simp only [List.length_append, List.length_cons, List.length_nil]; rfl, ?_⟩ | refine ⟨by push_cast; rfl, ?_⟩ | refine ⟨by (show some (Value.bool _) = some (Value.bool _); congr 2; have := putAt_step e l k x hk hx; rw [Bool.eq_iff_iff, this, decide_eq_true_eq]; omega), ?_⟩))
        · rfl
    skip
    rintro _ -
    refine Cd.cond _ (by rfl) (fun h3 => ?_) (fun h3 => ?_)
    · skip
      have h3 : k < putAt l e := of_decide_eq_true h3
      obtain ⟨x, hx⟩ := get_of_lt (show k < l.length by omega)
      refine Ent.rdSome 2 (by rfl) (by omega) (fun ad had => ?_)
      subst had
      refine Cd.skip ?_
      refine Cd.block ?_
      refine Cd.seq ?_
      refine Cd.region ?_
      refine Ls.ev (some 27) (Ev.move (show Oper.op _ = Op.move (Operand.tmp 7) from rfl) (by rfl)) (by rfl) (by rfl) ?_
      refine Ls.ev (some 28) (Ev.move (show Oper.op _ = Op.move (Operand.tmp 0) from rfl) (by rfl)) (by rfl) (by rfl) ?_
      refine Ls.ev (some 29) (Ev.move (show Oper.op _ = Op.move (Operand.tmp 8) from rfl) (by rfl)) (by rfl) (by rfl) ?_
      refine Ls.ev (some 30) (Ev.indexAt (sz := 4) (show Oper.op _ = Op.indexAddr 22 (Operand.tmp 28) (Operand.tmp 29) from rfl) (by rfl) (by rfl) Try.underlying22 (by kernel_rfl) (by omega)) (by rfl) (by rfl) ?_
      refine Ls.ev (some 31) (Ev.loadEl (show Oper.op _ = Op.load 42 (Operand.tmp 30) from rfl) (by rfl) (ReadsIn.rd 2 (by rfl)) (by kernel_rfl) (by intro _; rfl) (by assumption)) (by rfl) (by rfl) ?_
      refine Ls.does (some 32) (Does.lit (sz := 4) (show Oper.op _ = Op.buildSlice 22 1 #[(0, Operand.tmp 31)] from rfl) (by rfl) Try.underlying22 (by kernel_rfl) (by rfl) (by kernel_rfl)) (by rfl) (by rfl) ?_
      intro g2 _
      refine Ls.does (some 33) (Does.app (xs := (l.take k).flatMap Ety.enc) (news := x.enc) 1 (show Oper.op _ = Op.call { callee := Callee.builtin Builtin.append, args := #[Operand.tmp 27, Operand.tmp 32], argTypes := #[22, 22] } from rfl) (by rfl) (by rfl) (by rfl) (ReadsIn.row 0 (by rfl)) elem_ents (enc_one _) (by omega)) (by rfl) (by rfl) ?_
      intro q _
      refine Ls.ev (some 7) (Ev.assign (show Oper.op _ = Op.assign (Operand.tmp 33) from rfl) (by rfl)) (by rfl) (by rfl) ?_
      refine Ls.nil ?_
      refine Cd.region ?_
      refine Ls.ev (some 34) (Ev.move (show Oper.op _ = Op.move (Operand.tmp 8) from rfl) (by rfl)) (by rfl) (by rfl) ?_
      refine Ls.ev (some 35) (Ev.addN (b := 1) (show Oper.op _ = Op.binOp BinOp.add 3 (Operand.tmp 34) (Operand.const (Value.int IntKind.i64 1)) 3 from rfl) (by rfl) (by rfl) (by omega)) (by rfl) (by rfl) ?_
      refine Ls.ev (some 8) (Ev.assign (show Oper.op _ = Op.assign (Operand.tmp 35) from rfl) (by rfl)) (by rfl) (by rfl) ?_
      refine Ls.nil ?_
      have hts : l.take (k + 1) = l.take k ++ [x] := by rw [List.take_add_one, hx]; rfl
      have htl : (l.take (k + 1)).length = (l.take k).length + 1 := by rw [hts, List.length_append]; rfl
      refine Ent.pick [1, 2, 3] (by rfl) ?_
      refine Ent.inv ((k + 1, q)) ?_ ?_ ?_
      · (try dsimp only); exact ⟨by omega, by omega⟩
      · (repeat (first | exact trivial | refine ⟨by rfl, ?_⟩ | refine ⟨by simp only [List.length_append, List.length_cons, List.length_nil]; rfl, ?_⟩ | refine ⟨by push_cast; rfl, ?_⟩ | refine ⟨by (show some (Value.slice _ _ _) = some (Value.slice _ _ _); dsimp only; rw [htl]), ?_⟩))
      · (show [_, _, _] = [row q.1 (l.take (k + 1)).length q.2 _ 4 ((l.take (k + 1)).flatMap Ety.enc), _, _]; rw [htl, hts, List.flatMap_append, List.flatMap_singleton])
    · skip
      have h3 : k = putAt l e := by have := of_decide_eq_false h3; omega
      subst h3
      refine Cd.exit ?_
      refine Cd.seq ?_
      refine Cd.seq ?_
      refine Cd.cut (ι := Unit) (fun _ => [(0, .slice A l.length c), (3, .pointer (some ⟨g1, 0, none⟩)), (7, .slice qA (l.take (putAt l e)).length qc), (8, .int .i64 (putAt l e)), (59, .bool (twiceE l e))]) (fun _ => [rowE qA qc (l.take (putAt l e)), blk g1 42 e.enc, rdE A l]) (fun _ => True) ?_ ?_
      · skip
        refine Cd.draw [] (by kernel_rfl) ?_
        refine Rg.ev 0 (by rfl) (fun _ h => h) (Ev.move (show Oper.op _ = Op.move (Operand.tmp 8) from rfl) (by rfl)) (by rfl) (some 36) (by rfl) (by kernel_rfl) (by kernel_rfl) (by kernel_rfl) (by kernel_rfl) ?_
        refine Rg.ev 1 (by rfl) (fun _ h => h) (Ev.move (show Oper.op _ = Op.move (Operand.tmp 0) from rfl) (by rfl)) (by rfl) (some 37) (by rfl) (by kernel_rfl) (by kernel_rfl) (by kernel_rfl) (by kernel_rfl) ?_
        refine Rg.ev 2 (by rfl) (fun _ h => h) (Ev.len (show Oper.op _ = Op.call { callee := Callee.builtin Builtin.len, args := #[Operand.tmp 37], argTypes := #[22] } from rfl) (by rfl) Try.underlying22) (by rfl) (some 38) (by rfl) (by kernel_rfl) (by kernel_rfl) (by kernel_rfl) (by kernel_rfl) ?_
        refine Rg.ev 3 (by rfl) (fun _ h => h) (Ev.lss (show Oper.op _ = Op.binOp BinOp.lss 3 (Operand.tmp 36) (Operand.tmp 38) 3 from rfl) (by rfl) (by rfl)) (by rfl) (some 39) (by rfl) (by kernel_rfl) (by kernel_rfl) (by kernel_rfl) (by kernel_rfl) ?_
        refine Rg.ev 4 (by rfl) (fun _ h => h) (Ev.move (show Oper.op _ = Op.move (Operand.tmp 39) from rfl) (by rfl)) (by rfl) (some 40) (by rfl) (by kernel_rfl) (by kernel_rfl) (by kernel_rfl) (by kernel_rfl) ?_
        refine Ent.split 40 (by rfl) (fun h4 => ?_) (fun h4 => ?_)
        · skip
          have hk2 : ¬ putAt l e < l.length := by have := of_decide_eq_false h4; omega
          refine Rg.pass 5 (by rfl) (fun _ h => h) (by rfl) (some 41) (by rfl) (by kernel_rfl) (by kernel_rfl) (by kernel_rfl) (by kernel_rfl) ?_
          refine Rg.pass 6 (by rfl) (fun _ h => h) (by rfl) (some 42) (by rfl) (by kernel_rfl) (by kernel_rfl) (by kernel_rfl) (by kernel_rfl) ?_
          refine Rg.pass 7 (by rfl) (fun _ h => h) (by rfl) (some 43) (by rfl) (by kernel_rfl) (by kernel_rfl) (by kernel_rfl) (by kernel_rfl) ?_
          refine Rg.pass 8 (by rfl) (fun _ h => h) (by rfl) (some 44) (by rfl) (by kernel_rfl) (by kernel_rfl) (by kernel_rfl) (by kernel_rfl) ?_
          refine Rg.pass 9 (by rfl) (fun _ h => h) (by rfl) (some 45) (by rfl) (by kernel_rfl) (by kernel_rfl) (by kernel_rfl) (by kernel_rfl) ?_
          refine Rg.pass 10 (by rfl) (fun _ h => h) (by rfl) (some 46) (by rfl) (by kernel_rfl) (by kernel_rfl) (by kernel_rfl) (by kernel_rfl) ?_
          refine Rg.pass 11 (by rfl) (fun _ h => h) (by rfl) (some 47) (by rfl) (by kernel_rfl) (by kernel_rfl) (by kernel_rfl) (by kernel_rfl) ?_
          refine Rg.pass 12 (by rfl) (fun _ h => h) (by rfl) (some 48) (by rfl) (by kernel_rfl) (by kernel_rfl) (by kernel_rfl) (by kernel_rfl) ?_
          refine Rg.ev 13 (by rfl) (fun _ h => h) (Ev.pickF (show Oper.op _ = Op.pick (Operand.tmp 40) (Operand.tmp 48) (Operand.const (Value.bool false)) from rfl) (by rfl) (by rfl)) (by rfl) (some 49) (by rfl) (by kernel_rfl) (by kernel_rfl) (by kernel_rfl) (by kernel_rfl) ?_
          refine Rg.ev 14 (by rfl) (fun _ h => h) (Ev.move (show Oper.op _ = Op.move (Operand.tmp 49) from rfl) (by rfl)) (by rfl) (some 50) (by rfl) (by kernel_rfl) (by kernel_rfl) (by kernel_rfl) (by kernel_rfl) ?_
          refine Rg.pass 15 (by rfl) (fun _ h => h) (by rfl) (some 51) (by rfl) (by kernel_rfl) (by kernel_rfl) (by kernel_rfl) (by kernel_rfl) ?_
          refine Rg.pass 16 (by rfl) (fun _ h => h) (by rfl) (some 52) (by rfl) (by kernel_rfl) (by kernel_rfl) (by kernel_rfl) (by kernel_rfl) ?_
          refine Rg.pass 17 (by rfl) (fun _ h => h) (by rfl) (some 53) (by rfl) (by kernel_rfl) (by kernel_rfl) (by kernel_rfl) (by kernel_rfl) ?_
          refine Rg.pass 18 (by rfl) (fun _ h => h) (by rfl) (some 54) (by rfl) (by kernel_rfl) (by kernel_rfl) (by kernel_rfl) (by kernel_rfl) ?_
          refine Rg.pass 19 (by rfl) (fun _ h => h) (by rfl) (some 55) (by rfl) (by kernel_rfl) (by kernel_rfl) (by kernel_rfl) (by kernel_rfl) ?_
          refine Rg.pass 20 (by rfl) (fun _ h => h) (by rfl) (some 56) (by rfl) (by kernel_rfl) (by kernel_rfl) (by kernel_rfl) (by kernel_rfl) ?_
          refine Rg.pass 21 (by rfl) (fun _ h => h) (by rfl) (some 57) (by rfl) (by kernel_rfl) (by kernel_rfl) (by kernel_rfl) (by kernel_rfl) ?_
          refine Rg.pass 22 (by rfl) (fun _ h => h) (by rfl) (some 58) (by rfl) (by kernel_rfl) (by kernel_rfl) (by kernel_rfl) (by kernel_rfl) ?_
          refine Rg.ev 23 (by rfl) (fun _ h => h) (Ev.pickF (show Oper.op _ = Op.pick (Operand.tmp 50) (Operand.tmp 58) (Operand.const (Value.bool false)) from rfl) (by rfl) (by rfl)) (by rfl) (some 59) (by rfl) (by kernel_rfl) (by kernel_rfl) (by kernel_rfl) (by kernel_rfl) ?_
          refine Rg.done (by kernel_rfl) ?_ _
          skip
          refine Ent.inv (()) ?_ ?_ ?_
          · (try dsimp only); skip
          · (repeat (first | exact trivial | refine ⟨by rfl, ?_⟩ | refine ⟨by simp only [List.length_append, List.length_cons, List.length_nil]; rfl, ?_⟩ | refine ⟨by push_cast; rfl, ?_⟩ | refine ⟨by (show some (Value.bool _) = some (Value.bool _); unfold twiceE; rw [List.getElem?_eq_none (by omega)]; rfl), ?_⟩))
          · rfl
        · skip
          have hk2 : putAt l e < l.length := by have := of_decide_eq_true h4; omega
          obtain ⟨x, hx⟩ := get_of_lt hk2
          refine Ent.rdSome 2 (by rfl) (by omega) (fun ad had => ?_)
          subst had
          have ht : twiceE l e = (decide (x.key = e.key) && decide (x.seq = e.seq)) := by unfold twiceE; rw [hx]; rfl
          skip
          refine Rg.ev 5 (by rfl) (fun _ h => h) (Ev.move (show Oper.op _ = Op.move (Operand.tmp 0) from rfl) (by rfl)) (by rfl) (some 41) (by rfl) (by kernel_rfl) (by kernel_rfl) (by kernel_rfl) (by kernel_rfl) ?_
          refine Rg.ev 6 (by rfl) (fun _ h => h) (Ev.move (show Oper.op _ = Op.move (Operand.tmp 8) from rfl) (by rfl)) (by rfl) (some 42) (by rfl) (by kernel_rfl) (by kernel_rfl) (by kernel_rfl) (by kernel_rfl) ?_
          refine Rg.ev 7 (by rfl) (fun _ h => h) (Ev.indexAt (sz := 4) (show Oper.op _ = Op.indexAddr 22 (Operand.tmp 41) (Operand.tmp 42) from rfl) (by rfl) (by rfl) Try.underlying22 (by kernel_rfl) (by omega)) (by rfl) (some 43) (by rfl) (by kernel_rfl) (by kernel_rfl) (by kernel_rfl) (by kernel_rfl) ?_
          refine Rg.ev 8 (by rfl) (fun _ h => h) (Ev.fieldAddrE0 (k := 0) (show Oper.op _ = Op.fieldAddr 42 (Operand.tmp 43) 0 from rfl) (by rfl) (by kernel_rfl)) (by rfl) (some 44) (by rfl) (by kernel_rfl) (by kernel_rfl) (by kernel_rfl) (by kernel_rfl) ?_
          refine Rg.ev 9 (by rfl) (fun _ h => h) (Ev.loadElF (show Oper.op _ = Op.load 9 (Operand.tmp 44) from rfl) (by rfl) (ReadsIn.rd 2 (by rfl)) (by kernel_rfl) (by intro _; rfl) (by assumption) (by rfl)) (by rfl) (some 45) (by rfl) (by kernel_rfl) (by kernel_rfl) (by kernel_rfl) (by kernel_rfl) ?_
          refine Rg.ev 10 (by rfl) (fun _ h => h) (Ev.fieldAddr (k := 0) (show Oper.op _ = Op.fieldAddr 42 (Operand.tmp 3) 0 from rfl) (by rfl) (by kernel_rfl) (by rfl)) (by rfl) (some 46) (by rfl) (by kernel_rfl) (by kernel_rfl) (by kernel_rfl) (by kernel_rfl) ?_
          refine Rg.ev 11 (by rfl) (fun _ h => h) (Ev.load 1 (show Oper.op _ = Op.load 9 (Operand.tmp 46) from rfl) (by rfl) (by rfl) (by kernel_rfl) (by rfl)) (by rfl) (some 47) (by rfl) (by kernel_rfl) (by kernel_rfl) (by kernel_rfl) (by kernel_rfl) ?_
          refine Rg.ev 12 (by rfl) (fun _ h => h) (Ev.eqlS (show Oper.op _ = Op.binOp BinOp.eql 9 (Operand.tmp 45) (Operand.tmp 47) 9 from rfl) (by rfl) (by rfl)) (by rfl) (some 48) (by rfl) (by kernel_rfl) (by kernel_rfl) (by kernel_rfl) (by kernel_rfl) ?_
          refine Rg.ev 13 (by rfl) (fun _ h => h) (Ev.pickT (show Oper.op _ = Op.pick (Operand.tmp 40) (Operand.tmp 48) (Operand.const (Value.bool false)) from rfl) (by rfl) (by rfl)) (by rfl) (some 49) (by rfl) (by kernel_rfl) (by kernel_rfl) (by kernel_rfl) (by kernel_rfl) ?_
          refine Rg.ev 14 (by rfl) (fun _ h => h) (Ev.move (show Oper.op _ = Op.move (Operand.tmp 49) from rfl) (by rfl)) (by rfl) (some 50) (by rfl) (by kernel_rfl) (by kernel_rfl) (by kernel_rfl) (by kernel_rfl) ?_
          refine Ent.split 50 (by rfl) (fun h5 => ?_) (fun h5 => ?_)
          · skip
            refine Rg.pass 15 (by rfl) (fun _ h => h) (by rfl) (some 51) (by rfl) (by kernel_rfl) (by kernel_rfl) (by kernel_rfl) (by kernel_rfl) ?_
            refine Rg.pass 16 (by rfl) (fun _ h => h) (by rfl) (some 52) (by rfl) (by kernel_rfl) (by kernel_rfl) (by kernel_rfl) (by kernel_rfl) ?_
            refine Rg.pass 17 (by rfl) (fun _ h => h) (by rfl) (some 53) (by rfl) (by kernel_rfl) (by kernel_rfl) (by kernel_rfl) (by kernel_rfl) ?_
            refine Rg.pass 18 (by rfl) (fun _ h => h) (by rfl) (some 54) (by rfl) (by kernel_rfl) (by kernel_rfl) (by kernel_rfl) (by kernel_rfl) ?_
            refine Rg.pass 19 (by rfl) (fun _ h => h) (by rfl) (some 55) (by rfl) (by kernel_rfl) (by kernel_rfl) (by kernel_rfl) (by kernel_rfl) ?_
            refine Rg.pass 20 (by rfl) (fun _ h => h) (by rfl) (some 56) (by rfl) (by kernel_rfl) (by kernel_rfl) (by kernel_rfl) (by kernel_rfl) ?_
            refine Rg.pass 21 (by rfl) (fun _ h => h) (by rfl) (some 57) (by rfl) (by kernel_rfl) (by kernel_rfl) (by kernel_rfl) (by kernel_rfl) ?_
            refine Rg.pass 22 (by rfl) (fun _ h => h) (by rfl) (some 58) (by rfl) (by kernel_rfl) (by kernel_rfl) (by kernel_rfl) (by kernel_rfl) ?_
            refine Rg.ev 23 (by rfl) (fun _ h => h) (Ev.pickF (show Oper.op _ = Op.pick (Operand.tmp 50) (Operand.tmp 58) (Operand.const (Value.bool false)) from rfl) (by rfl) (by rfl)) (by rfl) (some 59) (by rfl) (by kernel_rfl) (by kernel_rfl) (by kernel_rfl) (by kernel_rfl) ?_
            refine Rg.done (by kernel_rfl) ?_ _
            refine Ent.inv (()) ?_ ?_ ?_
            · (try dsimp only); skip
            · (repeat (first | exact trivial | refine ⟨by rfl, ?_⟩ | refine ⟨by simp only [List.length_append, List.length_cons, List.length_nil]; rfl, ?_⟩ | refine ⟨by push_cast; rfl, ?_⟩ | refine ⟨by (show some (Value.bool _) = some (Value.bool _); rw [ht, h5]; rfl), ?_⟩))
            · rfl
          · skip
            refine Rg.ev 15 (by rfl) (fun _ h => h) (Ev.move (show Oper.op _ = Op.move (Operand.tmp 0) from rfl) (by rfl)) (by rfl) (some 51) (by rfl) (by kernel_rfl) (by kernel_rfl) (by kernel_rfl) (by kernel_rfl) ?_
            refine Rg.ev 16 (by rfl) (fun _ h => h) (Ev.move (show Oper.op _ = Op.move (Operand.tmp 8) from rfl) (by rfl)) (by rfl) (some 52) (by rfl) (by kernel_rfl) (by kernel_rfl) (by kernel_rfl) (by kernel_rfl) ?_
            refine Rg.ev 17 (by rfl) (fun _ h => h) (Ev.indexAt (sz := 4) (show Oper.op _ = Op.indexAddr 22 (Operand.tmp 51) (Operand.tmp 52) from rfl) (by rfl) (by rfl) Try.underlying22 (by kernel_rfl) (by omega)) (by rfl) (some 53) (by rfl) (by kernel_rfl) (by kernel_rfl) (by kernel_rfl) (by kernel_rfl) ?_
            refine Rg.ev 18 (by rfl) (fun _ h => h) (Ev.fieldAddrE0 (k := 1) (show Oper.op _ = Op.fieldAddr 42 (Operand.tmp 53) 1 from rfl) (by rfl) (by kernel_rfl)) (by rfl) (some 54) (by rfl) (by kernel_rfl) (by kernel_rfl) (by kernel_rfl) (by kernel_rfl) ?_
            refine Rg.ev 19 (by rfl) (fun _ h => h) (Ev.loadElF (show Oper.op _ = Op.load 3 (Operand.tmp 54) from rfl) (by rfl) (ReadsIn.rd 2 (by rfl)) (by kernel_rfl) (by intro _; rfl) (by assumption) (by rfl)) (by rfl) (some 55) (by rfl) (by kernel_rfl) (by kernel_rfl) (by kernel_rfl) (by kernel_rfl) ?_
            refine Rg.ev 20 (by rfl) (fun _ h => h) (Ev.fieldAddr (k := 1) (show Oper.op _ = Op.fieldAddr 42 (Operand.tmp 3) 1 from rfl) (by rfl) (by kernel_rfl) (by rfl)) (by rfl) (some 56) (by rfl) (by kernel_rfl) (by kernel_rfl) (by kernel_rfl) (by kernel_rfl) ?_
            refine Rg.ev 21 (by rfl) (fun _ h => h) (Ev.load 1 (show Oper.op _ = Op.load 3 (Operand.tmp 56) from rfl) (by rfl) (by rfl) (by kernel_rfl) (by rfl)) (by rfl) (some 57) (by rfl) (by kernel_rfl) (by kernel_rfl) (by kernel_rfl) (by kernel_rfl) ?_
            refine Rg.ev 22 (by rfl) (fun _ h => h) (Ev.eql (show Oper.op _ = Op.binOp BinOp.eql 3 (Operand.tmp 55) (Operand.tmp 57) 3 from rfl) (by rfl) (by rfl)) (by rfl) (some 58) (by rfl) (by kernel_rfl) (by kernel_rfl) (by kernel_rfl) (by kernel_rfl) ?_
            refine Rg.ev 23 (by rfl) (fun _ h => h) (Ev.pickT (show Oper.op _ = Op.pick (Operand.tmp 50) (Operand.tmp 58) (Operand.const (Value.bool false)) from rfl) (by rfl) (by rfl)) (by rfl) (some 59) (by rfl) (by kernel_rfl) (by kernel_rfl) (by kernel_rfl) (by kernel_rfl) ?_
            refine Rg.done (by kernel_rfl) ?_ _
            refine Ent.inv (()) ?_ ?_ ?_
            · (try dsimp only); skip
            · (repeat (first | exact trivial | refine ⟨by rfl, ?_⟩ | refine ⟨by simp only [List.length_append, List.length_cons, List.length_nil]; rfl, ?_⟩ | refine ⟨by push_cast; rfl, ?_⟩ | refine ⟨by (show some (Value.bool _) = some (Value.bool _); rw [ht, h5]; rfl), ?_⟩))
            · rfl
          skip
      skip
      rintro _ -
      refine Cd.cond _ (by rfl) (fun h6 => ?_) (fun h6 => ?_)
      · skip
        refine Cd.seq ?_
        refine Cd.region ?_
        refine Ls.ev (some 60) (Ev.move (show Oper.op _ = Op.move (Operand.tmp 0) from rfl) (by rfl)) (by rfl) (by rfl) ?_
        refine Ls.ev (some 4) (Ev.assign (show Oper.op _ = Op.assign (Operand.tmp 60) from rfl) (by rfl)) (by rfl) (by rfl) ?_
        refine Ls.ev (some 5) (Ev.assign (show Oper.op _ = Op.assign (Operand.const (Value.int IntKind.i64 2)) from rfl) (by rfl)) (by rfl) (by rfl) ?_
        refine Ls.nil ?_
        refine Cd.ret ?_
        refine Ent.ret (none) ((by unfold putS; rw [if_neg h1, if_pos h6]; rfl)) (Res.tmp2 (by rfl) (by rfl) (by rfl)) ?_ [] (by rfl) ?_
        · unfold putRes putE; rw [if_neg h1]
        · rfl
      · skip
        refine Cd.skip ?_
        refine Cd.seq ?_
        refine Cd.region ?_
        refine Ls.ev (some 61) (Ev.move (show Oper.op _ = Op.move (Operand.tmp 7) from rfl) (by rfl)) (by rfl) (by rfl) ?_
        refine Ls.ev (some 62) (Ev.loads 1 (show Oper.op _ = Op.load 42 (Operand.tmp 3) from rfl) (by rfl) (by rfl) (n := 4) (by kernel_rfl) (by rfl) (by rfl)) (by rfl) (by rfl) ?_
        refine Ls.does (some 63) (Does.lit (sz := 4) (show Oper.op _ = Op.buildSlice 22 1 #[(0, Operand.tmp 62)] from rfl) (by rfl) Try.underlying22 (by kernel_rfl) (by rfl) (by kernel_rfl)) (by rfl) (by rfl) ?_
        intro g2 _
        refine Ls.does (some 64) (Does.app (xs := (l.take (putAt l e)).flatMap Ety.enc) (news := e.enc) 1 (show Oper.op _ = Op.call { callee := Callee.builtin Builtin.append, args := #[Operand.tmp 61, Operand.tmp 63], argTypes := #[22, 22] } from rfl) (by rfl) (by rfl) (by rfl) (ReadsIn.row 0 (by rfl)) elem_ents (enc_one _) (by omega)) (by rfl) (by rfl) ?_
        intro q _
        refine Ls.ev (some 7) (Ev.assign (show Oper.op _ = Op.assign (Operand.tmp 64) from rfl) (by rfl)) (by rfl) (by rfl) ?_
        refine Ls.nil ?_
        refine Cd.seq ?_
        refine Cd.region ?_
        refine Ls.ev (some 65) (Ev.move (show Oper.op _ = Op.move (Operand.tmp 7) from rfl) (by rfl)) (by rfl) (by rfl) ?_
        refine Ls.ev (some 66) (Ev.move (show Oper.op _ = Op.move (Operand.tmp 0) from rfl) (by rfl)) (by rfl) (by rfl) ?_
        refine Ls.ev (some 67) (Ev.move (show Oper.op _ = Op.move (Operand.tmp 8) from rfl) (by rfl)) (by rfl) (by rfl) ?_
        refine Ls.ev (some 68) (Ev.sliceLn (sz := 4) (show Oper.op _ = Op.slice 22 (Operand.tmp 66) (some (Operand.tmp 67)) none none from rfl) (by rfl) (by rfl) Try.underlying22 (by kernel_rfl) (by omega)) (by rfl) (by rfl) ?_
        refine Ent.cut 3 (putAt l e) l.length c (by rfl) (by omega) ?_
        rw [flat_cut (enc := Ety.enc) (sz := 4) (fun _ => rfl), show (l.drop (putAt l e)).take (l.length - putAt l e) = l.drop (putAt l e) from List.take_of_length_le (by rw [List.length_drop]; omega)]
        refine Ls.does (some 69) (Does.app (xs := (l.take (putAt l e)).flatMap Ety.enc ++ e.enc) (news := (l.drop (putAt l e)).flatMap Ety.enc) 2 (show Oper.op _ = Op.call { callee := Callee.builtin Builtin.append, args := #[Operand.tmp 65, Operand.tmp 68], argTypes := #[22, 22] } from rfl) (by rfl) (by rfl) (by rfl) (ReadsIn.rd 0 (by rfl)) elem_ents (encs_one _) (by omega)) (by rfl) (by rfl) ?_
        intro q2 _
        refine Ls.ev (some 4) (Ev.assign (show Oper.op _ = Op.assign (Operand.tmp 69) from rfl) (by rfl)) (by rfl) (by rfl) ?_
        refine Ls.ev (some 5) (Ev.assign (show Oper.op _ = Op.assign (Operand.const (Value.int IntKind.i64 0)) from rfl) (by rfl)) (by rfl) (by rfl) ?_
        refine Ls.nil ?_
        have hpl : (putN l e).length = (l.take (putAt l e)).length + 1 + (l.length - putAt l e) := by rw [putN_len]; omega
        have hpf : (putN l e).flatMap Ety.enc = (l.take (putAt l e)).flatMap Ety.enc ++ e.enc ++ (l.drop (putAt l e)).flatMap Ety.enc := by
          unfold putN
          rw [List.flatMap_append, List.flatMap_cons, List.append_assoc]
        refine Cd.ret ?_
        refine Ent.ret ((some q2)) ((by unfold putS; rw [if_neg h1, if_neg (by rw [h6]; decide)]; rfl)) (Res.tmp2 (by rfl) (by rfl) (by rfl)) ?_ [2] (by rfl) ?_
        · unfold putRes; rw [hpl]
        · unfold putPost; show [_] = [row q2.1 (putN l e).length q2.2 _ 4 ((putN l e).flatMap Ety.enc)]; rw [hpl, hpf]
theorem refPut_none (A : Option Addr) (c : Nat) (l : List Ety) (e : Ety) (hn : l.length ≤ 1099511627776) (hc : l.length ≤ c) (h : putS l e = none) : Fn Try.prog 50 #[.slice A l.length c, .agg e.enc.toArray] [rdE A l] Unit (fun _ => .tuple #[.slice A l.length c, .int .i64 (putE e)]) (fun _ => []) (fun _ => True) :=
  Fn.reind (refPut_any A c l e hn hc) fun p hp => by
    rw [h] at hp
    cases p with
    | none => exact ⟨(), trivial, rfl, rfl⟩
    | some q => cases hp
theorem putS_some {l : List Ety} {e : Ety} {m : List Ety} (h : putS l e = some m) : errE e = 0 ∧ twiceE l e = false ∧ m = putN l e := by
  unfold putS at h
  split at h
  · cases h
  · rename_i h1
    split at h
    · cases h
    · rename_i h2
      exact ⟨by omega, by simpa using h2, (Option.some.inj h).symm⟩
theorem refPut_some (A : Option Addr) (c : Nat) (l : List Ety) (e : Ety) (hn : l.length ≤ 1099511627776) (hc : l.length ≤ c) {m : List Ety} (h : putS l e = some m) : Fn Try.prog 50 #[.slice A l.length c, .agg e.enc.toArray] [rdE A l] (Option Addr × Nat) (fun q => .tuple #[.slice q.1 m.length q.2, .int .i64 0]) (fun q => [rowE q.1 q.2 m]) (fun _ => True) :=
  Fn.reind (refPut_any A c l e hn hc) fun p hp => by
    obtain ⟨_, _, rfl⟩ := putS_some h
    rw [h] at hp
    cases p with
    | none => cases hp
    | some q => exact ⟨q, trivial, rfl, rfl⟩
/-- What Good makes of a list: those that can be put, up to 84. -/
def goodF : List Ety → List Ety → List Ety
  | out, [] => out
  | out, e :: r => if out.length < 84 then goodF ((putS out e).getD out) r else out
theorem goodF_full {out r : List Ety} (h : ¬ out.length < 84) : goodF out r = out := by
  cases r with
  | nil => rfl
  | cons e r => rw [goodF, if_neg h]
theorem goodF_step {out l : List Ety} {k : Nat} {e : Ety} (hk : l[k]? = some e) (h : out.length < 84) : goodF out (l.drop k) = goodF ((putS out e).getD out) (l.drop (k + 1)) := by
  obtain ⟨hlt, rfl⟩ := List.getElem?_eq_some_iff.1 hk
  rw [List.drop_eq_getElem_cons hlt, goodF, if_pos h]
theorem putS_len (l : List Ety) (e : Ety) : ((putS l e).getD l).length ≤ l.length + 1 := by
  cases h : putS l e with
  | none => exact Nat.le_succ _
  | some m => rw [(putS_some h).2.2]; exact Nat.le_of_eq (putN_len l e)
theorem goodL_sl (A : Option Addr) (c : Nat) (l : List Ety) (hn : l.length ≤ 8796093022207) : Fn Try.prog 20 #[.slice A l.length c] [rdE A l] (Option Addr × Nat) (fun p => .slice p.1 (goodF [] l).length p.2) (fun p => [rowE p.1 p.2 (goodF [] l)]) (fun p => (goodF [] l).length ≤ p.2) := by
  refine Fn.enter Try.func20 rfl Try.ntmps20 (by rfl) ?_
  intro w0
  skip
  refine Cd.seq ?_
  refine Cd.region ?_
  refine Ls.ev (some 2) (Ev.assign (show Oper.op _ = Op.assign (Operand.const (Value.slice none 0 0)) from rfl) (by rfl)) (by rfl) (by rfl) ?_
  refine Ls.nil ?_
  refine Cd.seq ?_
  refine Cd.region ?_
  refine Ls.ev (some 3) (Ev.assign (show Oper.op _ = Op.assign (Operand.const (Value.slice none 0 0)) from rfl) (by rfl)) (by rfl) (by rfl) ?_
  refine Ls.nil ?_
  refine Cd.seq ?_
  refine Cd.seq ?_
  refine Cd.region ?_
  refine Ls.ev (some 4) (Ev.assign (show Oper.op _ = Op.assign (Operand.const (Value.int IntKind.i64 0)) from rfl) (by rfl)) (by rfl) (by rfl) ?_
  refine Ls.nil ?_
  refine Cd.block ?_
  refine Ent.nil 42 4 ?_
  refine Cd.loop (ι := Nat × List Ety × Option Addr × Nat) (fun j => [(0, .slice A l.length c), (3, .slice j.2.2.1 j.2.1.length j.2.2.2), (4, .int .i64 j.1)]) (fun j => [rowE j.2.2.1 j.2.2.2 j.2.1, rdE A l]) (fun j => j.1 ≤ l.length ∧ j.2.1.length ≤ 84 ∧ goodF j.2.1 (l.drop j.1) = goodF [] l ∧ j.2.1.length ≤ j.2.2.2) (fun j => l.length - j.1) ((0, [], none, 0)) (⟨Nat.zero_le _, Nat.zero_le _, rfl, Nat.le_refl _⟩) ?_ rfl ?_
  · (repeat (first | exact trivial | refine ⟨by rfl, ?_⟩))
  rintro ⟨k, out, qA, qc⟩ ⟨hk, ho, hg, hcq⟩
  dsimp only at hk ho hg hcq ⊢
  refine Cd.seq ?_
  refine Cd.seq ?_
  refine Cd.region ?_
  refine Ls.ev (some 5) (Ev.move (show Oper.op _ = Op.move (Operand.tmp 4) from rfl) (by rfl)) (by rfl) (by rfl) ?_
  refine Ls.ev (some 6) (Ev.move (show Oper.op _ = Op.move (Operand.tmp 0) from rfl) (by rfl)) (by rfl) (by rfl) ?_
  refine Ls.ev (some 7) (Ev.len (show Oper.op _ = Op.call { callee := Callee.builtin Builtin.len, args := #[Operand.tmp 6], argTypes := #[22] } from rfl) (by rfl) Try.underlying22) (by rfl) (by rfl) ?_
  refine Ls.ev (some 8) (Ev.lss (show Oper.op _ = Op.binOp BinOp.lss 3 (Operand.tmp 5) (Operand.tmp 7) 3 from rfl) (by rfl) (by rfl)) (by rfl) (by rfl) ?_
  refine Ls.ev (some 9) (Ev.move (show Oper.op _ = Op.move (Operand.tmp 8) from rfl) (by rfl)) (by rfl) (by rfl) ?_
  refine Ent.split 9 (by rfl) (fun h1 => ?_) (fun h1 => ?_)
  · skip
    have hk2 : k = l.length := by have := of_decide_eq_false h1; omega
    subst hk2
    rw [List.drop_length] at hg
    have hg : out = goodF [] l := hg
    refine Ls.pass (some 10) (by rfl) (by rfl) ?_
    refine Ls.pass (some 11) (by rfl) (by rfl) ?_
    refine Ls.pass (some 12) (by rfl) (by rfl) ?_
    refine Ls.ev (some 13) (Ev.pickF (show Oper.op _ = Op.pick (Operand.tmp 9) (Operand.tmp 12) (Operand.const (Value.bool false)) from rfl) (by rfl) (by rfl)) (by rfl) (by rfl) ?_
    refine Ls.nil ?_
    skip
    refine Cd.cond_false (by rfl) (rfl) ?_
    refine Cd.exit ?_
    refine Cd.seq ?_
    refine Cd.region ?_
    refine Ls.ev (some 25) (Ev.move (show Oper.op _ = Op.move (Operand.tmp 3) from rfl) (by rfl)) (by rfl) (by rfl) ?_
    refine Ls.ev (some 2) (Ev.assign (show Oper.op _ = Op.assign (Operand.tmp 25) from rfl) (by rfl)) (by rfl) (by rfl) ?_
    refine Ls.nil ?_
    refine Cd.ret ?_
    refine Ent.ret ((qA, qc)) ((by rw [← hg]; exact hcq)) (Res.tmp (by rfl) (by rfl)) ?_ [0] (by rfl) ?_
    · rw [← hg]
    · rw [← hg]; rfl
  · skip
    have hk2 : k < l.length := by have := of_decide_eq_true h1; omega
    obtain ⟨e, he⟩ := get_of_lt hk2
    refine Ls.ev (some 10) (Ev.move (show Oper.op _ = Op.move (Operand.tmp 3) from rfl) (by rfl)) (by rfl) (by rfl) ?_
    refine Ls.ev (some 11) (Ev.len (show Oper.op _ = Op.call { callee := Callee.builtin Builtin.len, args := #[Operand.tmp 10], argTypes := #[22] } from rfl) (by rfl) Try.underlying22) (by rfl) (by rfl) ?_
    refine Ls.ev (some 12) (Ev.lss (show Oper.op _ = Op.binOp BinOp.lss 3 (Operand.tmp 11) (Operand.const (Value.int IntKind.i64 84)) 3 from rfl) (by rfl) (by rfl)) (by rfl) (by rfl) ?_
    refine Ls.ev (some 13) (Ev.pickT (show Oper.op _ = Op.pick (Operand.tmp 9) (Operand.tmp 12) (Operand.const (Value.bool false)) from rfl) (by rfl) (by rfl)) (by rfl) (by rfl) ?_
    refine Ls.nil ?_
    refine Cd.cond _ (by rfl) (fun h2 => ?_) (fun h2 => ?_)
    · skip
      have h84 : out.length < 84 := by have := of_decide_eq_true h2; omega
      refine Ent.rdSome 1 (by rfl) (by omega) (fun ad had => ?_)
      subst had
      rw [goodF_step he h84] at hg
      have hpl := putS_len out e
      refine Cd.skip ?_
      refine Cd.seq ?_
      refine Cd.block ?_
      refine Cd.region ?_
      refine Ls.ev (some 17) (Ev.move (show Oper.op _ = Op.move (Operand.tmp 3) from rfl) (by rfl)) (by rfl) (by rfl) ?_
      refine Ls.ev (some 18) (Ev.move (show Oper.op _ = Op.move (Operand.tmp 0) from rfl) (by rfl)) (by rfl) (by rfl) ?_
      refine Ls.ev (some 19) (Ev.move (show Oper.op _ = Op.move (Operand.tmp 4) from rfl) (by rfl)) (by rfl) (by rfl) ?_
      refine Ls.ev (some 20) (Ev.indexAt (sz := 4) (show Oper.op _ = Op.indexAddr 22 (Operand.tmp 18) (Operand.tmp 19) from rfl) (by rfl) (by rfl) Try.underlying22 (by kernel_rfl) (by omega)) (by rfl) (by rfl) ?_
      refine Ls.ev (some 21) (Ev.loadEl (show Oper.op _ = Op.load 42 (Operand.tmp 20) from rfl) (by rfl) (ReadsIn.rd 1 (by rfl)) (by kernel_rfl) (by intro _; rfl) (by assumption)) (by rfl) (by rfl) ?_
      cases hp : putS out e with
      | none =>
        rw [hp] at hg
        skip
        refine Ls.does (some 22) (Does.readN (show Oper.op _ = Op.call { callee := Callee.value (Operand.func 50), args := #[Operand.tmp 17, Operand.tmp 21], argTypes := #[22, 42] } from rfl) Try.func50 (by kernel_rfl) (by kernel_rfl) (refPut_none qA qc out e (by omega) hcq hp) (by rfl) (by rfl) ⟨ReadsIn.row 0 (by rfl), trivial⟩ (fun _ => by rfl)) (by rfl) (by rfl) ?_
        rintro _ -
        refine Ls.ev (some 16) (Ev.move (show Oper.op _ = Op.move (Operand.tmp 22) from rfl) (by rfl)) (by rfl) (by rfl) ?_
        refine Ls.ev (some 23) (Ev.extract (show Oper.op _ = Op.extract (Operand.tmp 16) 0 from rfl) (by rfl) (by rfl)) (by rfl) (by rfl) ?_
        refine Ls.ev (some 24) (Ev.extract (show Oper.op _ = Op.extract (Operand.tmp 16) 1 from rfl) (by rfl) (by rfl)) (by rfl) (by rfl) ?_
        refine Ls.ev (some 3) (Ev.assign (show Oper.op _ = Op.assign (Operand.tmp 23) from rfl) (by rfl)) (by rfl) (by rfl) ?_
        refine Ls.nil ?_
        refine Cd.region ?_
        refine Ls.ev (some 14) (Ev.move (show Oper.op _ = Op.move (Operand.tmp 4) from rfl) (by rfl)) (by rfl) (by rfl) ?_
        refine Ls.ev (some 15) (Ev.addN (b := 1) (show Oper.op _ = Op.binOp BinOp.add 3 (Operand.tmp 14) (Operand.const (Value.int IntKind.i64 1)) 3 from rfl) (by rfl) (by rfl) (by omega)) (by rfl) (by rfl) ?_
        refine Ls.ev (some 4) (Ev.assign (show Oper.op _ = Op.assign (Operand.tmp 15) from rfl) (by rfl)) (by rfl) (by rfl) ?_
        refine Ls.nil ?_
        refine Ent.inv ((k + 1, out, qA, qc)) ?_ ?_ ?_
        · (try dsimp only); exact ⟨⟨by omega, ho, hg, hcq⟩, by omega⟩
        · (repeat (first | exact trivial | refine ⟨by rfl, ?_⟩ | refine ⟨by simp only [List.length_append, List.length_cons, List.length_nil]; rfl, ?_⟩ | refine ⟨by push_cast; rfl, ?_⟩))
        · rfl
      | some m =>
        rw [hp] at hg hpl
        have hpl : m.length ≤ out.length + 1 := hpl
        skip
        refine Ls.does (some 22) (Does.readN (show Oper.op _ = Op.call { callee := Callee.value (Operand.func 50), args := #[Operand.tmp 17, Operand.tmp 21], argTypes := #[22, 42] } from rfl) Try.func50 (by kernel_rfl) (by kernel_rfl) (refPut_some qA qc out e (by omega) hcq hp) (by rfl) (by rfl) ⟨ReadsIn.row 0 (by rfl), trivial⟩ (fun _ => by rfl)) (by rfl) (by rfl) ?_
        rintro q -
        refine Ls.ev (some 16) (Ev.move (show Oper.op _ = Op.move (Operand.tmp 22) from rfl) (by rfl)) (by rfl) (by rfl) ?_
        refine Ls.ev (some 23) (Ev.extract (show Oper.op _ = Op.extract (Operand.tmp 16) 0 from rfl) (by rfl) (by rfl)) (by rfl) (by rfl) ?_
        refine Ls.ev (some 24) (Ev.extract (show Oper.op _ = Op.extract (Operand.tmp 16) 1 from rfl) (by rfl) (by rfl)) (by rfl) (by rfl) ?_
        refine Ls.ev (some 3) (Ev.assign (show Oper.op _ = Op.assign (Operand.tmp 23) from rfl) (by rfl)) (by rfl) (by rfl) ?_
        refine Ls.nil ?_
        refine Cd.region ?_
        refine Ls.ev (some 14) (Ev.move (show Oper.op _ = Op.move (Operand.tmp 4) from rfl) (by rfl)) (by rfl) (by rfl) ?_
        refine Ls.ev (some 15) (Ev.addN (b := 1) (show Oper.op _ = Op.binOp BinOp.add 3 (Operand.tmp 14) (Operand.const (Value.int IntKind.i64 1)) 3 from rfl) (by rfl) (by rfl) (by omega)) (by rfl) (by rfl) ?_
        refine Ls.ev (some 4) (Ev.assign (show Oper.op _ = Op.assign (Operand.tmp 15) from rfl) (by rfl)) (by rfl) (by rfl) ?_
        refine Ls.nil ?_
        refine Ent.rowCap 0 (by rfl) (fun hq => ?_)
        refine Ent.pick [0, 2] (by rfl) ?_
        refine Ent.inv ((k + 1, m, q)) ?_ ?_ ?_
        · (try dsimp only); exact ⟨⟨by omega, by omega, hg, hq⟩, by omega⟩
        · (repeat (first | exact trivial | refine ⟨by rfl, ?_⟩ | refine ⟨by simp only [List.length_append, List.length_cons, List.length_nil]; rfl, ?_⟩ | refine ⟨by push_cast; rfl, ?_⟩))
        · rfl
    · skip
      have h84 : ¬ out.length < 84 := by have := of_decide_eq_false h2; omega
      rw [goodF_full h84] at hg
      refine Cd.exit ?_
      refine Cd.seq ?_
      refine Cd.region ?_
      refine Ls.ev (some 25) (Ev.move (show Oper.op _ = Op.move (Operand.tmp 3) from rfl) (by rfl)) (by rfl) (by rfl) ?_
      refine Ls.ev (some 2) (Ev.assign (show Oper.op _ = Op.assign (Operand.tmp 25) from rfl) (by rfl)) (by rfl) (by rfl) ?_
      refine Ls.nil ?_
      refine Cd.ret ?_
      refine Ent.ret ((qA, qc)) ((by rw [← hg]; exact hcq)) (Res.tmp (by rfl) (by rfl)) ?_ [0] (by rfl) ?_
      · rw [← hg]
      · rw [← hg]; rfl
end Go.Proofs.Ytnhcfhamcakfkaa
/- plain: what Good makes is a table's list; the newest entry of a list in order is the first that is hit -/
namespace Go.Proofs.Ytnhcfhamcakfkaa
theorem putN_cons (x : Ety) (l : List Ety) (e : Ety) : putN (x :: l) e = if befE x e = true then x :: putN l e else e :: x :: l := by
  unfold putN
  rw [putAt_cons]
  split <;> rfl
theorem twiceE_cons (x : Ety) (l : List Ety) (e : Ety) : twiceE (x :: l) e = if befE x e = true then twiceE l e else (decide (x.key = e.key) && decide (x.seq = e.seq)) := by
  unfold twiceE
  rw [putAt_cons]
  split <;> rfl
theorem befE_total {a b : Ety} (h1 : befE a b = false) (h2 : ¬ (a.key = b.key ∧ a.seq = b.seq)) : befE b a = true := by
  rw [befE_iff]
  have h1 : ¬ (kl a.key b.key = true ∨ (a.key = b.key ∧ b.seq < a.seq)) := fun h => by rw [befE_iff.2 h] at h1; cases h1
  cases h3 : kl b.key a.key with
  | true => exact .inl rfl
  | false =>
    have h4 : kl a.key b.key = false := by
      cases h5 : kl a.key b.key with
      | true => exact absurd (.inl h5) h1
      | false => rfl
    have hk := kl_total h4 h3
    refine .inr ⟨hk.symm, ?_⟩
    rcases Int.lt_trichotomy a.seq b.seq with h | h | h
    · exact h
    · exact absurd ⟨hk, h⟩ h2
    · exact absurd (.inr ⟨hk, h⟩) h1
def SrtE (l : List Ety) : Prop := l.Pairwise (fun a b => befE a b = true)
theorem putN_mem {e : Ety} : ∀ {l : List Ety} {y : Ety}, y ∈ putN l e → y = e ∨ y ∈ l
  | [], y, h => by
    have h : y ∈ [e] := h
    exact .inl (by simpa using h)
  | x :: l, y, h => by
    rw [putN_cons] at h
    split at h
    · rcases List.mem_cons.1 h with rfl | h
      · exact .inr (List.mem_cons_self ..)
      · rcases putN_mem h with h | h
        · exact .inl h
        · exact .inr (List.mem_cons_of_mem _ h)
    · exact List.mem_cons.1 h
theorem putN_srt {e : Ety} : ∀ {l : List Ety}, SrtE l → twiceE l e = false → SrtE (putN l e)
  | [], _, _ => List.pairwise_singleton _ _
  | x :: l, hs, ht => by
    obtain ⟨h1, h2⟩ := List.pairwise_cons.1 hs
    rw [twiceE_cons] at ht
    rw [putN_cons]
    split at ht
    · rename_i hb
      rw [if_pos hb]
      refine List.pairwise_cons.2 ⟨fun y hy => ?_, putN_srt h2 ht⟩
      rcases putN_mem hy with rfl | hy
      · exact hb
      · exact h1 y hy
    · rename_i hb
      rw [if_neg hb]
      have hx : befE e x = true := befE_total (by simpa using hb) (by
        rintro ⟨h3, h4⟩
        rw [h3, h4] at ht
        simp at ht)
      refine List.pairwise_cons.2 ⟨fun y hy => ?_, hs⟩
      rcases List.mem_cons.1 hy with rfl | hy
      · exact hx
      · exact befE_trans hx (h1 y hy)
theorem scanE_zero : ∀ {l : List Ety} {p : Option Ety}, (∀ e ∈ l, errE e = 0) → SrtE l → (∀ a b, p = some a → l[0]? = some b → befE a b = true) → scanE p l = 0
  | [], _, _, _, _ => rfl
  | e :: r, p, he, hs, hp => by
    obtain ⟨h1, h2⟩ := List.pairwise_cons.1 hs
    rw [scanE, if_neg (by rw [he e (List.mem_cons_self ..)]; decide), if_neg]
    · refine scanE_zero (fun x hx => he x (List.mem_cons_of_mem _ hx)) h2 (fun a b ha hb => ?_)
      cases ha
      exact h1 b (List.mem_of_getElem? hb)
    · cases p with
      | none => simp
      | some a =>
        have := hp a e rfl rfl
        simp [this]
theorem errL_zero {l : List Ety} (h0 : l ≠ []) (h1 : l.length ≤ 84) (he : ∀ e ∈ l, errE e = 0) (hs : SrtE l) : errL l = 0 := by
  have h2 : l.length ≠ 0 := fun h => h0 (List.length_eq_zero_iff.1 h)
  unfold errL
  rw [if_neg h2, if_neg (by omega)]
  exact scanE_zero he hs (fun a b h => by cases h)
theorem goodF_ok : ∀ (r out : List Ety), out.length ≤ 84 → (∀ e ∈ out, errE e = 0) → SrtE out → (goodF out r).length ≤ 84 ∧ (∀ e ∈ goodF out r, errE e = 0) ∧ SrtE (goodF out r)
  | [], out, h1, h2, h3 => ⟨h1, h2, h3⟩
  | e :: r, out, h1, h2, h3 => by
    rw [goodF]
    split
    · rename_i hl
      cases hp : putS out e with
      | none => exact goodF_ok r out h1 h2 h3
      | some m =>
        obtain ⟨k1, k2, rfl⟩ := putS_some hp
        refine goodF_ok r _ (by show (putN out e).length ≤ 84; rw [putN_len]; omega) (fun x hx => ?_) (putN_srt h3 k2)
        rcases putN_mem hx with rfl | hx
        · exact k1
        · exact h2 x hx
    · exact ⟨h1, h2, h3⟩
theorem goodF_good (l : List Ety) (h : goodF [] l ≠ []) : errL (goodF [] l) = 0 := by
  obtain ⟨h1, h2, h3⟩ := goodF_ok l [] (Nat.zero_le _) (fun e h => by cases h) List.Pairwise.nil
  exact errL_zero h h1 h2 h3
theorem goodF_len (l : List Ety) : (goodF [] l).length ≤ 84 := (goodF_ok l [] (Nat.zero_le _) (fun e h => by cases h) List.Pairwise.nil).1
theorem goodF_srt (l : List Ety) : SrtE (goodF [] l) := (goodF_ok l [] (Nat.zero_le _) (fun e h => by cases h) List.Pairwise.nil).2.2
/-- The document's Get: the hit with the highest number. -/
def getS (key : ByteArray) (seq : Int) : Option Ety → List Ety → Option Ety
  | b, [] => b
  | b, x :: r => getS key seq (if (hitE key seq x && (b.isNone || decide ((b.getD Ety.zero).seq < x.seq))) = true then some x else b) r
theorem getS_some (key : ByteArray) (seq : Int) (b : Ety) (hb : b.key = key) : ∀ (l : List Ety), (∀ x ∈ l, befE b x = true) → getS key seq (some b) l = some b
  | [], _ => rfl
  | x :: r, h => by
    rw [getS, if_neg]
    · exact getS_some key seq b hb r (fun y hy => h y (List.mem_cons_of_mem _ hy))
    · have hx := befE_iff.1 (h x (List.mem_cons_self ..))
      intro hh
      simp only [hitE, Bool.and_eq_true, decide_eq_true_eq, Option.isNone_some, Bool.false_or, Option.getD_some] at hh
      rcases hx with hx | hx
      · rw [hb, hh.1.1, kl_irrefl] at hx
        cases hx
      · omega
theorem getS_find (key : ByteArray) (seq : Int) : ∀ (l : List Ety), SrtE l → getS key seq none l = l.find? (hitE key seq)
  | [], _ => rfl
  | x :: r, h => by
    obtain ⟨h1, h2⟩ := List.pairwise_cons.1 h
    rw [getS, List.find?_cons]
    cases hh : hitE key seq x with
    | false => exact getS_find key seq r h2
    | true =>
      have hk : x.key = key := by
        simp only [hitE, Bool.and_eq_true, decide_eq_true_eq] at hh
        exact hh.1
      exact getS_some key seq x hk r h1
end Go.Proofs.Ytnhcfhamcakfkaa
/- the document's Get, Same (layer 4) over entries; entries compared -/
namespace Go.Proofs.Ytnhcfhamcakfkaa
open Go.RowKit
deriving instance DecidableEq for Ety
theorem stood_ety : Try.prog.stoodInHeld 42 = false := by kernel_rfl
theorem guard_ety : Try.prog.eqGuardType Try.prog.depth 42 = false := by kernel_rfl
theorem fields_ety : fieldRows Try.prog 42 = [(true, 9, 0), (true, 3, 1), (true, 4, 2), (true, 9, 3)] := by kernel_rfl
theorem ety_ext (a b : Ety) : (a = b) ↔ (a.key.toList = b.key.toList ∧ a.seq = b.seq ∧ a.del = b.del ∧ a.value.toList = b.value.toList) :=
  ⟨by rintro rfl; exact ⟨rfl, rfl, rfl, rfl⟩, fun ⟨h1, h2, h3, h4⟩ => by
    cases a; cases b
    simp only at h1 h2 h3 h4
    rw [bytes_ext h1, h2, h3, bytes_ext h4]⟩
theorem ety_equal (a b : Ety) (w : World) : (Op.equalIn 10000 42 (.agg a.enc.toArray) (.agg b.enc.toArray)).run Try.prog w = .ok (decide (a = b)) w := by
  have hd : decide (a = b) = (a.key.toList == b.key.toList && (a.seq == b.seq && (a.del == b.del && a.value.toList == b.value.toList))) := by
    rw [Bool.eq_iff_iff, decide_eq_true_iff, ety_ext]
    simp
  rw [hd]
  unfold Ety.enc
  rw [run_equal_rows w 9999 42 _ _ (by kernel_rfl) stood_ety fields_ety]
  simp only [eqRows]
  cases h1 : (a.key.toList == b.key.toList) <;> cases h2 : (a.seq == b.seq) <;> cases h3 : (a.del == b.del) <;> cases h4 : (a.value.toList == b.value.toList) <;>
    simp [go_sem, *]
theorem Ev.neqE {Γ : Ctx} {N : Frm} {E : Env} {H : List Chunk} {o : Oper} {x y : Operand} {t' : TypeId} (a b : Ety) (ho : o.op = .binOp .neq 42 x y t') (hx : E.ev x = some (.agg a.enc.toArray)) (hy : E.ev y = some (.agg b.enc.toArray)) : Ev Γ N Try.prog E H o (.bool (!decide (a = b))) :=
  .neqG ho hx hy (fun w => run_eqGuard_agg w _ _ _ _ _ _ guard_ety) (fun w => run_neq_of (ety_equal a b w))
theorem getS_step {key : ByteArray} {seq : Int} {b : Option Ety} {l : List Ety} {k : Nat} {x : Ety} (h : l[k]? = some x) : getS key seq b (l.drop k) = getS key seq (if (hitE key seq x && (b.isNone || decide ((b.getD Ety.zero).seq < x.seq))) = true then some x else b) (l.drop (k + 1)) := by
  obtain ⟨hlt, rfl⟩ := List.getElem?_eq_some_iff.1 h
  rw [List.drop_eq_getElem_cons hlt, getS]
theorem refGet_sl (A : Option Addr) (c : Nat) (l : List Ety) (key : ByteArray) (seq : Int) (hn : l.length ≤ 1099511627776) : Fn Try.prog 25 #[.slice A l.length c, .string key, .int .i64 seq] [rdE A l] Unit (fun _ => .tuple #[.agg ((getS key seq none l).getD Ety.zero).enc.toArray, .bool (getS key seq none l).isSome]) (fun _ => []) (fun _ => True) := by
  refine Fn.enter Try.func25 rfl Try.ntmps25 (by rfl) ?_
  intro w0
  skip
  refine Cd.seq ?_
  refine Cd.region ?_
  refine Ls.does (some 6) (Does.alloc (cs := [.string ⟨#[]⟩, .int .i64 0, .bool false, .string ⟨#[]⟩]) (show Oper.op _ = Op.alloc 42 from rfl) (ZeroIs.mk (.agg #[.string ⟨#[]⟩, .int .i64 0, .bool false, .string ⟨#[]⟩]) (by kernel_rfl) (by rfl))) (by rfl) (by rfl) ?_
  intro g1 _
  refine Ls.ev (some 7) (Ev.assign (show Oper.op _ = Op.assign (Operand.const (Value.bool false)) from rfl) (by rfl)) (by rfl) (by rfl) ?_
  refine Ls.nil ?_
  refine Cd.seq ?_
  refine Cd.region ?_
  refine Ls.ev (some 11) (Ev.buildP (pl := [(0, 1), (1, 1), (2, 1), (3, 1)]) (zs := [.string ⟨#[]⟩, .int .i64 0, .bool false, .string ⟨#[]⟩]) (show Oper.op _ = Op.build 42 #[] from rfl) (by rfl) (by kernel_rfl) (by rfl)) (by rfl) (by rfl) ?_
  refine Ls.does (some 8) (Does.alloc (cs := [.string ⟨#[]⟩, .int .i64 0, .bool false, .string ⟨#[]⟩]) (show Oper.op _ = Op.alloc 42 from rfl) (ZeroIs.mk (.agg #[.string ⟨#[]⟩, .int .i64 0, .bool false, .string ⟨#[]⟩]) (by kernel_rfl) (by rfl))) (by rfl) (by rfl) ?_
  intro g2 _
  refine Ls.does none (Does.store 0 (show Oper.op _ = Op.store 42 (Operand.tmp 8) (Operand.tmp 11) from rfl) (by rfl) (by rfl) (by rfl) (by kernel_rfl) (by rfl) (by kernel_rfl) (by rfl)) (by rfl) (by rfl) ?_
  intro _ _
  refine Ls.ev (some 9) (Ev.assign (show Oper.op _ = Op.assign (Operand.const (Value.bool false)) from rfl) (by rfl)) (by rfl) (by rfl) ?_
  refine Ls.nil ?_
  refine Cd.seq ?_
  refine Cd.seq ?_
  refine Cd.region ?_
  refine Ls.ev (some 10) (Ev.assign (show Oper.op _ = Op.assign (Operand.const (Value.int IntKind.i64 0)) from rfl) (by rfl)) (by rfl) (by rfl) ?_
  refine Ls.nil ?_
  refine Cd.block ?_
  refine Cd.loop (ι := Nat × Option Ety) (fun j => [(0, .slice A l.length c), (1, .string key), (2, .int .i64 seq), (6, .pointer (some ⟨g1, 0, none⟩)), (8, .pointer (some ⟨g2, 0, none⟩)), (9, .bool j.2.isSome), (10, .int .i64 j.1)]) (fun j => [blk g2 42 (j.2.getD Ety.zero).enc, blk g1 42 Ety.zero.enc, rdE A l]) (fun j => j.1 ≤ l.length ∧ getS key seq j.2 (l.drop j.1) = getS key seq none l) (fun j => l.length - j.1) ((0, none)) (⟨Nat.zero_le _, rfl⟩) ?_ rfl ?_
  · (repeat (first | exact trivial | refine ⟨by rfl, ?_⟩))
  rintro ⟨k, b⟩ ⟨hk, hg⟩
  dsimp only at hk hg ⊢
  refine Cd.seq ?_
  refine Cd.seq ?_
  refine Cd.region ?_
  refine Ls.ev (some 12) (Ev.move (show Oper.op _ = Op.move (Operand.tmp 10) from rfl) (by rfl)) (by rfl) (by rfl) ?_
  refine Ls.ev (some 13) (Ev.move (show Oper.op _ = Op.move (Operand.tmp 0) from rfl) (by rfl)) (by rfl) (by rfl) ?_
  refine Ls.ev (some 14) (Ev.len (show Oper.op _ = Op.call { callee := Callee.builtin Builtin.len, args := #[Operand.tmp 13], argTypes := #[22] } from rfl) (by rfl) Try.underlying22) (by rfl) (by rfl) ?_
  refine Ls.ev (some 15) (Ev.lss (show Oper.op _ = Op.binOp BinOp.lss 3 (Operand.tmp 12) (Operand.tmp 14) 3 from rfl) (by rfl) (by rfl)) (by rfl) (by rfl) ?_
  refine Ls.nil ?_
  refine Cd.cond _ (by rfl) (fun h1 => ?_) (fun h1 => ?_)
  · skip
    have hlt : k < l.length := by have := of_decide_eq_true h1; omega
    obtain ⟨x, hx⟩ := get_of_lt hlt
    rw [getS_step hx] at hg
    refine Ent.rdSome 2 (by rfl) (by omega) (fun ad had => ?_)
    subst had
    refine Cd.skip ?_
    refine Cd.seq ?_
    refine Cd.block ?_
    refine Cd.seq ?_
    refine Cd.cut (ι := Unit) (fun _ => [(0, .slice (some ad) l.length c), (1, .string key), (2, .int .i64 seq), (6, .pointer (some ⟨g1, 0, none⟩)), (8, .pointer (some ⟨g2, 0, none⟩)), (9, .bool b.isSome), (10, .int .i64 k), (47, .bool (hitE key seq x && (b.isNone || decide ((b.getD Ety.zero).seq < x.seq))))]) (fun _ => [blk g2 42 (b.getD Ety.zero).enc, blk g1 42 Ety.zero.enc, rdE (some ad) l]) (fun _ => True) ?_ ?_
    · skip
      skip
      refine Cd.draw [] (by kernel_rfl) ?_
      refine Rg.ev 0 (by rfl) (fun _ h => h) (Ev.move (show Oper.op _ = Op.move (Operand.tmp 0) from rfl) (by rfl)) (by rfl) (some 18) (by rfl) (by kernel_rfl) (by kernel_rfl) (by kernel_rfl) (by kernel_rfl) ?_
      refine Rg.ev 1 (by rfl) (fun _ h => h) (Ev.move (show Oper.op _ = Op.move (Operand.tmp 10) from rfl) (by rfl)) (by rfl) (some 19) (by rfl) (by kernel_rfl) (by kernel_rfl) (by kernel_rfl) (by kernel_rfl) ?_
      refine Rg.ev 2 (by rfl) (fun _ h => h) (Ev.indexAt (sz := 4) (show Oper.op _ = Op.indexAddr 22 (Operand.tmp 18) (Operand.tmp 19) from rfl) (by rfl) (by rfl) Try.underlying22 (by kernel_rfl) (by omega)) (by rfl) (some 20) (by rfl) (by kernel_rfl) (by kernel_rfl) (by kernel_rfl) (by kernel_rfl) ?_
      refine Rg.ev 3 (by rfl) (fun _ h => h) (Ev.fieldAddrE0 (k := 0) (show Oper.op _ = Op.fieldAddr 42 (Operand.tmp 20) 0 from rfl) (by rfl) (by kernel_rfl)) (by rfl) (some 21) (by rfl) (by kernel_rfl) (by kernel_rfl) (by kernel_rfl) (by kernel_rfl) ?_
      refine Rg.ev 4 (by rfl) (fun _ h => h) (Ev.loadElF (show Oper.op _ = Op.load 9 (Operand.tmp 21) from rfl) (by rfl) (ReadsIn.rd 2 (by rfl)) (by kernel_rfl) (by intro _; rfl) (by assumption) (by rfl)) (by rfl) (some 22) (by rfl) (by kernel_rfl) (by kernel_rfl) (by kernel_rfl) (by kernel_rfl) ?_
      refine Rg.ev 5 (by rfl) (fun _ h => h) (Ev.move (show Oper.op _ = Op.move (Operand.tmp 1) from rfl) (by rfl)) (by rfl) (some 23) (by rfl) (by kernel_rfl) (by kernel_rfl) (by kernel_rfl) (by kernel_rfl) ?_
      refine Rg.ev 6 (by rfl) (fun _ h => h) (Ev.eqlS (show Oper.op _ = Op.binOp BinOp.eql 9 (Operand.tmp 22) (Operand.tmp 23) 9 from rfl) (by rfl) (by rfl)) (by rfl) (some 24) (by rfl) (by kernel_rfl) (by kernel_rfl) (by kernel_rfl) (by kernel_rfl) ?_
      refine Rg.ev 7 (by rfl) (fun _ h => h) (Ev.move (show Oper.op _ = Op.move (Operand.tmp 24) from rfl) (by rfl)) (by rfl) (some 25) (by rfl) (by kernel_rfl) (by kernel_rfl) (by kernel_rfl) (by kernel_rfl) ?_
      refine Ent.split 25 (by rfl) (fun h3 => ?_) (fun h3 => ?_)
      · skip
        refine Rg.pass 8 (by rfl) (fun _ h => h) (by rfl) (some 26) (by rfl) (by kernel_rfl) (by kernel_rfl) (by kernel_rfl) (by kernel_rfl) ?_
        refine Rg.pass 9 (by rfl) (fun _ h => h) (by rfl) (some 27) (by rfl) (by kernel_rfl) (by kernel_rfl) (by kernel_rfl) (by kernel_rfl) ?_
        refine Rg.pass 10 (by rfl) (fun _ h => h) (by rfl) (some 28) (by rfl) (by kernel_rfl) (by kernel_rfl) (by kernel_rfl) (by kernel_rfl) ?_
        refine Rg.pass 11 (by rfl) (fun _ h => h) (by rfl) (some 29) (by rfl) (by kernel_rfl) (by kernel_rfl) (by kernel_rfl) (by kernel_rfl) ?_
        refine Rg.pass 12 (by rfl) (fun _ h => h) (by rfl) (some 30) (by rfl) (by kernel_rfl) (by kernel_rfl) (by kernel_rfl) (by kernel_rfl) ?_
        refine Rg.pass 13 (by rfl) (fun _ h => h) (by rfl) (some 31) (by rfl) (by kernel_rfl) (by kernel_rfl) (by kernel_rfl) (by kernel_rfl) ?_
        refine Rg.pass 14 (by rfl) (fun _ h => h) (by rfl) (some 32) (by rfl) (by kernel_rfl) (by kernel_rfl) (by kernel_rfl) (by kernel_rfl) ?_
        refine Rg.ev 15 (by rfl) (fun _ h => h) (Ev.pickF (show Oper.op _ = Op.pick (Operand.tmp 25) (Operand.tmp 32) (Operand.const (Value.bool false)) from rfl) (by rfl) (by rfl)) (by rfl) (some 33) (by rfl) (by kernel_rfl) (by kernel_rfl) (by kernel_rfl) (by kernel_rfl) ?_
        refine Rg.ev 16 (by rfl) (fun _ h => h) (Ev.move (show Oper.op _ = Op.move (Operand.tmp 33) from rfl) (by rfl)) (by rfl) (some 34) (by rfl) (by kernel_rfl) (by kernel_rfl) (by kernel_rfl) (by kernel_rfl) ?_
        refine Rg.pass 17 (by rfl) (fun _ h => h) (by rfl) (some 35) (by rfl) (by kernel_rfl) (by kernel_rfl) (by kernel_rfl) (by kernel_rfl) ?_
        refine Rg.pass 18 (by rfl) (fun _ h => h) (by rfl) (some 36) (by rfl) (by kernel_rfl) (by kernel_rfl) (by kernel_rfl) (by kernel_rfl) ?_
        refine Rg.pass 19 (by rfl) (fun _ h => h) (by rfl) (some 37) (by rfl) (by kernel_rfl) (by kernel_rfl) (by kernel_rfl) (by kernel_rfl) ?_
        refine Rg.pass 20 (by rfl) (fun _ h => h) (by rfl) (some 38) (by rfl) (by kernel_rfl) (by kernel_rfl) (by kernel_rfl) (by kernel_rfl) ?_
        refine Rg.pass 21 (by rfl) (fun _ h => h) (by rfl) (some 39) (by rfl) (by kernel_rfl) (by kernel_rfl) (by kernel_rfl) (by kernel_rfl) ?_
        refine Rg.pass 22 (by rfl) (fun _ h => h) (by rfl) (some 40) (by rfl) (by kernel_rfl) (by kernel_rfl) (by kernel_rfl) (by kernel_rfl) ?_
        refine Rg.pass 23 (by rfl) (fun _ h => h) (by rfl) (some 41) (by rfl) (by kernel_rfl) (by kernel_rfl) (by kernel_rfl) (by kernel_rfl) ?_
        refine Rg.pass 24 (by rfl) (fun _ h => h) (by rfl) (some 42) (by rfl) (by kernel_rfl) (by kernel_rfl) (by kernel_rfl) (by kernel_rfl) ?_
        refine Rg.pass 25 (by rfl) (fun _ h => h) (by rfl) (some 43) (by rfl) (by kernel_rfl) (by kernel_rfl) (by kernel_rfl) (by kernel_rfl) ?_
        refine Rg.pass 26 (by rfl) (fun _ h => h) (by rfl) (some 44) (by rfl) (by kernel_rfl) (by kernel_rfl) (by kernel_rfl) (by kernel_rfl) ?_
        refine Rg.pass 27 (by rfl) (fun _ h => h) (by rfl) (some 45) (by rfl) (by kernel_rfl) (by kernel_rfl) (by kernel_rfl) (by kernel_rfl) ?_
        refine Rg.pass 28 (by rfl) (fun _ h => h) (by rfl) (some 46) (by rfl) (by kernel_rfl) (by kernel_rfl) (by kernel_rfl) (by kernel_rfl) ?_
        refine Rg.ev 29 (by rfl) (fun _ h => h) (Ev.pickF (show Oper.op _ = Op.pick (Operand.tmp 34) (Operand.tmp 46) (Operand.const (Value.bool false)) from rfl) (by rfl) (by rfl)) (by rfl) (some 47) (by rfl) (by kernel_rfl) (by kernel_rfl) (by kernel_rfl) (by kernel_rfl) ?_
        refine Rg.done (by kernel_rfl) ?_ _
        refine Ent.inv (()) ?_ ?_ ?_
        · (try dsimp only); skip
        · (repeat (first | exact trivial | refine ⟨by rfl, ?_⟩ | refine ⟨by simp only [List.length_append, List.length_cons, List.length_nil]; rfl, ?_⟩ | refine ⟨by push_cast; rfl, ?_⟩ | refine ⟨by (show some (Value.bool _) = some (Value.bool _); unfold hitE; rw [h3]; rfl), ?_⟩))
        · rfl
      · skip
        refine Rg.ev 8 (by rfl) (fun _ h => h) (Ev.move (show Oper.op _ = Op.move (Operand.tmp 0) from rfl) (by rfl)) (by rfl) (some 26) (by rfl) (by kernel_rfl) (by kernel_rfl) (by kernel_rfl) (by kernel_rfl) ?_
        refine Rg.ev 9 (by rfl) (fun _ h => h) (Ev.move (show Oper.op _ = Op.move (Operand.tmp 10) from rfl) (by rfl)) (by rfl) (some 27) (by rfl) (by kernel_rfl) (by kernel_rfl) (by kernel_rfl) (by kernel_rfl) ?_
        refine Rg.ev 10 (by rfl) (fun _ h => h) (Ev.indexAt (sz := 4) (show Oper.op _ = Op.indexAddr 22 (Operand.tmp 26) (Operand.tmp 27) from rfl) (by rfl) (by rfl) Try.underlying22 (by kernel_rfl) (by omega)) (by rfl) (some 28) (by rfl) (by kernel_rfl) (by kernel_rfl) (by kernel_rfl) (by kernel_rfl) ?_
        refine Rg.ev 11 (by rfl) (fun _ h => h) (Ev.fieldAddrE0 (k := 1) (show Oper.op _ = Op.fieldAddr 42 (Operand.tmp 28) 1 from rfl) (by rfl) (by kernel_rfl)) (by rfl) (some 29) (by rfl) (by kernel_rfl) (by kernel_rfl) (by kernel_rfl) (by kernel_rfl) ?_
        refine Rg.ev 12 (by rfl) (fun _ h => h) (Ev.loadElF (show Oper.op _ = Op.load 3 (Operand.tmp 29) from rfl) (by rfl) (ReadsIn.rd 2 (by rfl)) (by kernel_rfl) (by intro _; rfl) (by assumption) (by rfl)) (by rfl) (some 30) (by rfl) (by kernel_rfl) (by kernel_rfl) (by kernel_rfl) (by kernel_rfl) ?_
        refine Rg.ev 13 (by rfl) (fun _ h => h) (Ev.move (show Oper.op _ = Op.move (Operand.tmp 2) from rfl) (by rfl)) (by rfl) (some 31) (by rfl) (by kernel_rfl) (by kernel_rfl) (by kernel_rfl) (by kernel_rfl) ?_
        refine Rg.ev 14 (by rfl) (fun _ h => h) (Ev.leq (show Oper.op _ = Op.binOp BinOp.leq 3 (Operand.tmp 30) (Operand.tmp 31) 3 from rfl) (by rfl) (by rfl)) (by rfl) (some 32) (by rfl) (by kernel_rfl) (by kernel_rfl) (by kernel_rfl) (by kernel_rfl) ?_
        refine Rg.ev 15 (by rfl) (fun _ h => h) (Ev.pickT (show Oper.op _ = Op.pick (Operand.tmp 25) (Operand.tmp 32) (Operand.const (Value.bool false)) from rfl) (by rfl) (by rfl)) (by rfl) (some 33) (by rfl) (by kernel_rfl) (by kernel_rfl) (by kernel_rfl) (by kernel_rfl) ?_
        refine Rg.ev 16 (by rfl) (fun _ h => h) (Ev.move (show Oper.op _ = Op.move (Operand.tmp 33) from rfl) (by rfl)) (by rfl) (some 34) (by rfl) (by kernel_rfl) (by kernel_rfl) (by kernel_rfl) (by kernel_rfl) ?_
        refine Ent.split 34 (by rfl) (fun h4 => ?_) (fun h4 => ?_)
        · skip
          refine Rg.pass 17 (by rfl) (fun _ h => h) (by rfl) (some 35) (by rfl) (by kernel_rfl) (by kernel_rfl) (by kernel_rfl) (by kernel_rfl) ?_
          refine Rg.pass 18 (by rfl) (fun _ h => h) (by rfl) (some 36) (by rfl) (by kernel_rfl) (by kernel_rfl) (by kernel_rfl) (by kernel_rfl) ?_
          refine Rg.pass 19 (by rfl) (fun _ h => h) (by rfl) (some 37) (by rfl) (by kernel_rfl) (by kernel_rfl) (by kernel_rfl) (by kernel_rfl) ?_
          refine Rg.pass 20 (by rfl) (fun _ h => h) (by rfl) (some 38) (by rfl) (by kernel_rfl) (by kernel_rfl) (by kernel_rfl) (by kernel_rfl) ?_
          refine Rg.pass 21 (by rfl) (fun _ h => h) (by rfl) (some 39) (by rfl) (by kernel_rfl) (by kernel_rfl) (by kernel_rfl) (by kernel_rfl) ?_
          refine Rg.pass 22 (by rfl) (fun _ h => h) (by rfl) (some 40) (by rfl) (by kernel_rfl) (by kernel_rfl) (by kernel_rfl) (by kernel_rfl) ?_
          refine Rg.pass 23 (by rfl) (fun _ h => h) (by rfl) (some 41) (by rfl) (by kernel_rfl) (by kernel_rfl) (by kernel_rfl) (by kernel_rfl) ?_
          refine Rg.pass 24 (by rfl) (fun _ h => h) (by rfl) (some 42) (by rfl) (by kernel_rfl) (by kernel_rfl) (by kernel_rfl) (by kernel_rfl) ?_
          refine Rg.pass 25 (by rfl) (fun _ h => h) (by rfl) (some 43) (by rfl) (by kernel_rfl) (by kernel_rfl) (by kernel_rfl) (by kernel_rfl) ?_
          refine Rg.pass 26 (by rfl) (fun _ h => h) (by rfl) (some 44) (by rfl) (by kernel_rfl) (by kernel_rfl) (by kernel_rfl) (by kernel_rfl) ?_
          refine Rg.pass 27 (by rfl) (fun _ h => h) (by rfl) (some 45) (by rfl) (by kernel_rfl) (by kernel_rfl) (by kernel_rfl) (by kernel_rfl) ?_
          refine Rg.pass 28 (by rfl) (fun _ h => h) (by rfl) (some 46) (by rfl) (by kernel_rfl) (by kernel_rfl) (by kernel_rfl) (by kernel_rfl) ?_
          refine Rg.ev 29 (by rfl) (fun _ h => h) (Ev.pickF (show Oper.op _ = Op.pick (Operand.tmp 34) (Operand.tmp 46) (Operand.const (Value.bool false)) from rfl) (by rfl) (by rfl)) (by rfl) (some 47) (by rfl) (by kernel_rfl) (by kernel_rfl) (by kernel_rfl) (by kernel_rfl) ?_
          refine Rg.done (by kernel_rfl) ?_ _
          refine Ent.inv (()) ?_ ?_ ?_
          · (try dsimp only); skip
          · (repeat (first | exact trivial | refine ⟨by rfl, ?_⟩ | refine ⟨by simp only [List.length_append, List.length_cons, List.length_nil]; rfl, ?_⟩ | refine ⟨by push_cast; rfl, ?_⟩ | refine ⟨by (show some (Value.bool _) = some (Value.bool _); unfold hitE; rw [h3, h4]; rfl), ?_⟩))
          · rfl
        · skip
          refine Rg.ev 17 (by rfl) (fun _ h => h) (Ev.move (show Oper.op _ = Op.move (Operand.tmp 9) from rfl) (by rfl)) (by rfl) (some 35) (by rfl) (by kernel_rfl) (by kernel_rfl) (by kernel_rfl) (by kernel_rfl) ?_
          refine Rg.ev 18 (by rfl) (fun _ h => h) (Ev.not (show Oper.op _ = Op.unOp UnOp.not 4 (Operand.tmp 35) from rfl) (by rfl)) (by rfl) (some 36) (by rfl) (by kernel_rfl) (by kernel_rfl) (by kernel_rfl) (by kernel_rfl) ?_
          refine Rg.ev 19 (by rfl) (fun _ h => h) (Ev.move (show Oper.op _ = Op.move (Operand.tmp 36) from rfl) (by rfl)) (by rfl) (some 37) (by rfl) (by kernel_rfl) (by kernel_rfl) (by kernel_rfl) (by kernel_rfl) ?_
          refine Ent.split 37 (by rfl) (fun h5 => ?_) (fun h5 => ?_)
          · skip
            have h6 : b.isNone = false := by cases b <;> simp_all
            refine Rg.ev 20 (by rfl) (fun _ h => h) (Ev.move (show Oper.op _ = Op.move (Operand.tmp 0) from rfl) (by rfl)) (by rfl) (some 38) (by rfl) (by kernel_rfl) (by kernel_rfl) (by kernel_rfl) (by kernel_rfl) ?_
            refine Rg.ev 21 (by rfl) (fun _ h => h) (Ev.move (show Oper.op _ = Op.move (Operand.tmp 10) from rfl) (by rfl)) (by rfl) (some 39) (by rfl) (by kernel_rfl) (by kernel_rfl) (by kernel_rfl) (by kernel_rfl) ?_
            refine Rg.ev 22 (by rfl) (fun _ h => h) (Ev.indexAt (sz := 4) (show Oper.op _ = Op.indexAddr 22 (Operand.tmp 38) (Operand.tmp 39) from rfl) (by rfl) (by rfl) Try.underlying22 (by kernel_rfl) (by omega)) (by rfl) (some 40) (by rfl) (by kernel_rfl) (by kernel_rfl) (by kernel_rfl) (by kernel_rfl) ?_
            refine Rg.ev 23 (by rfl) (fun _ h => h) (Ev.fieldAddrE0 (k := 1) (show Oper.op _ = Op.fieldAddr 42 (Operand.tmp 40) 1 from rfl) (by rfl) (by kernel_rfl)) (by rfl) (some 41) (by rfl) (by kernel_rfl) (by kernel_rfl) (by kernel_rfl) (by kernel_rfl) ?_
            refine Rg.ev 24 (by rfl) (fun _ h => h) (Ev.loadElF (show Oper.op _ = Op.load 3 (Operand.tmp 41) from rfl) (by rfl) (ReadsIn.rd 2 (by rfl)) (by kernel_rfl) (by intro _; rfl) (by assumption) (by rfl)) (by rfl) (some 42) (by rfl) (by kernel_rfl) (by kernel_rfl) (by kernel_rfl) (by kernel_rfl) ?_
            refine Rg.ev 25 (by rfl) (fun _ h => h) (Ev.fieldAddr (k := 1) (show Oper.op _ = Op.fieldAddr 42 (Operand.tmp 8) 1 from rfl) (by rfl) (by kernel_rfl) (by rfl)) (by rfl) (some 43) (by rfl) (by kernel_rfl) (by kernel_rfl) (by kernel_rfl) (by kernel_rfl) ?_
            refine Rg.ev 26 (by rfl) (fun _ h => h) (Ev.load 0 (show Oper.op _ = Op.load 3 (Operand.tmp 43) from rfl) (by rfl) (by rfl) (by kernel_rfl) (by rfl)) (by rfl) (some 44) (by rfl) (by kernel_rfl) (by kernel_rfl) (by kernel_rfl) (by kernel_rfl) ?_
            refine Rg.ev 27 (by rfl) (fun _ h => h) (Ev.gtr (show Oper.op _ = Op.binOp BinOp.gtr 3 (Operand.tmp 42) (Operand.tmp 44) 3 from rfl) (by rfl) (by rfl)) (by rfl) (some 45) (by rfl) (by kernel_rfl) (by kernel_rfl) (by kernel_rfl) (by kernel_rfl) ?_
            refine Rg.ev 28 (by rfl) (fun _ h => h) (Ev.pickF (show Oper.op _ = Op.pick (Operand.tmp 37) (Operand.const (Value.bool true)) (Operand.tmp 45) from rfl) (by rfl) (by rfl)) (by rfl) (some 46) (by rfl) (by kernel_rfl) (by kernel_rfl) (by kernel_rfl) (by kernel_rfl) ?_
            refine Rg.ev 29 (by rfl) (fun _ h => h) (Ev.pickT (show Oper.op _ = Op.pick (Operand.tmp 34) (Operand.tmp 46) (Operand.const (Value.bool false)) from rfl) (by rfl) (by rfl)) (by rfl) (some 47) (by rfl) (by kernel_rfl) (by kernel_rfl) (by kernel_rfl) (by kernel_rfl) ?_
            refine Rg.done (by kernel_rfl) ?_ _
            refine Ent.inv (()) ?_ ?_ ?_
            · (try dsimp only); skip
            · (repeat (first | exact trivial | refine ⟨by rfl, ?_⟩ | refine ⟨by simp only [List.length_append, List.length_cons, List.length_nil]; rfl, ?_⟩ | refine ⟨by push_cast; rfl, ?_⟩ | refine ⟨by (show some (Value.bool _) = some (Value.bool _); unfold hitE; rw [h3, h4, h6]; rfl), ?_⟩))
            · rfl
          · skip
            have h6 : b.isNone = true := by cases b <;> simp_all
            refine Rg.pass 20 (by rfl) (fun _ h => h) (by rfl) (some 38) (by rfl) (by kernel_rfl) (by kernel_rfl) (by kernel_rfl) (by kernel_rfl) ?_
            refine Rg.pass 21 (by rfl) (fun _ h => h) (by rfl) (some 39) (by rfl) (by kernel_rfl) (by kernel_rfl) (by kernel_rfl) (by kernel_rfl) ?_
            refine Rg.pass 22 (by rfl) (fun _ h => h) (by rfl) (some 40) (by rfl) (by kernel_rfl) (by kernel_rfl) (by kernel_rfl) (by kernel_rfl) ?_
            refine Rg.pass 23 (by rfl) (fun _ h => h) (by rfl) (some 41) (by rfl) (by kernel_rfl) (by kernel_rfl) (by kernel_rfl) (by kernel_rfl) ?_
            refine Rg.pass 24 (by rfl) (fun _ h => h) (by rfl) (some 42) (by rfl) (by kernel_rfl) (by kernel_rfl) (by kernel_rfl) (by kernel_rfl) ?_
            refine Rg.pass 25 (by rfl) (fun _ h => h) (by rfl) (some 43) (by rfl) (by kernel_rfl) (by kernel_rfl) (by kernel_rfl) (by kernel_rfl) ?_
            refine Rg.pass 26 (by rfl) (fun _ h => h) (by rfl) (some 44) (by rfl) (by kernel_rfl) (by kernel_rfl) (by kernel_rfl) (by kernel_rfl) ?_
            refine Rg.pass 27 (by rfl) (fun _ h => h) (by rfl) (some 45) (by rfl) (by kernel_rfl) (by kernel_rfl) (by kernel_rfl) (by kernel_rfl) ?_
            refine Rg.ev 28 (by rfl) (fun _ h => h) (Ev.pickT (show Oper.op _ = Op.pick (Operand.tmp 37) (Operand.const (Value.bool true)) (Operand.tmp 45) from rfl) (by rfl) (by rfl)) (by rfl) (some 46) (by rfl) (by kernel_rfl) (by kernel_rfl) (by kernel_rfl) (by kernel_rfl) ?_
            refine Rg.ev 29 (by rfl) (fun _ h => h) (Ev.pickT (show Oper.op _ = Op.pick (Operand.tmp 34) (Operand.tmp 46) (Operand.const (Value.bool false)) from rfl) (by rfl) (by rfl)) (by rfl) (some 47) (by rfl) (by kernel_rfl) (by kernel_rfl) (by kernel_rfl) (by kernel_rfl) ?_
            refine Rg.done (by kernel_rfl) ?_ _
            refine Ent.inv (()) ?_ ?_ ?_
            · (try dsimp only); skip
            · (repeat (first | exact trivial | refine ⟨by rfl, ?_⟩ | refine ⟨by simp only [List.length_append, List.length_cons, List.length_nil]; rfl, ?_⟩ | refine ⟨by push_cast; rfl, ?_⟩ | refine ⟨by (show some (Value.bool _) = some (Value.bool _); unfold hitE; rw [h3, h4, h6]; rfl), ?_⟩))
            · rfl
      skip
    skip
    rintro _ -
    refine Cd.cond _ (by rfl) (fun h7 => ?_) (fun h7 => ?_)
    · skip
      rw [if_pos h7] at hg
      refine Cd.seq ?_
      refine Cd.region ?_
      refine Ls.ev (some 48) (Ev.move (show Oper.op _ = Op.move (Operand.tmp 0) from rfl) (by rfl)) (by rfl) (by rfl) ?_
      refine Ls.ev (some 49) (Ev.move (show Oper.op _ = Op.move (Operand.tmp 10) from rfl) (by rfl)) (by rfl) (by rfl) ?_
      refine Ls.ev (some 50) (Ev.indexAt (sz := 4) (show Oper.op _ = Op.indexAddr 22 (Operand.tmp 48) (Operand.tmp 49) from rfl) (by rfl) (by rfl) Try.underlying22 (by kernel_rfl) (by omega)) (by rfl) (by rfl) ?_
      refine Ls.ev (some 51) (Ev.loadEl (show Oper.op _ = Op.load 42 (Operand.tmp 50) from rfl) (by rfl) (ReadsIn.rd 2 (by rfl)) (by kernel_rfl) (by intro _; rfl) (by assumption)) (by rfl) (by rfl) ?_
      refine Ls.does none (Does.store 0 (show Oper.op _ = Op.store 42 (Operand.tmp 8) (Operand.tmp 51) from rfl) (by rfl) (by rfl) (by rfl) (by kernel_rfl) (by rfl) (by kernel_rfl) (by rfl)) (by rfl) (by rfl) ?_
      intro _ _
      refine Ls.nil ?_
      refine Cd.region ?_
      refine Ls.ev (some 9) (Ev.assign (show Oper.op _ = Op.assign (Operand.const (Value.bool true)) from rfl) (by rfl)) (by rfl) (by rfl) ?_
      refine Ls.nil ?_
      refine Cd.region ?_
      refine Ls.ev (some 16) (Ev.move (show Oper.op _ = Op.move (Operand.tmp 10) from rfl) (by rfl)) (by rfl) (by rfl) ?_
      refine Ls.ev (some 17) (Ev.addN (b := 1) (show Oper.op _ = Op.binOp BinOp.add 3 (Operand.tmp 16) (Operand.const (Value.int IntKind.i64 1)) 3 from rfl) (by rfl) (by rfl) (by omega)) (by rfl) (by rfl) ?_
      refine Ls.ev (some 10) (Ev.assign (show Oper.op _ = Op.assign (Operand.tmp 17) from rfl) (by rfl)) (by rfl) (by rfl) ?_
      refine Ls.nil ?_
      refine Ent.inv ((k + 1, some x)) ?_ ?_ ?_
      · (try dsimp only); exact ⟨⟨by omega, hg⟩, by omega⟩
      · (repeat (first | exact trivial | refine ⟨by rfl, ?_⟩ | refine ⟨by simp only [List.length_append, List.length_cons, List.length_nil]; rfl, ?_⟩ | refine ⟨by push_cast; rfl, ?_⟩))
      · rfl
    · skip
      rw [if_neg (by rw [h7]; decide)] at hg
      refine Cd.skip ?_
      refine Cd.region ?_
      refine Ls.ev (some 16) (Ev.move (show Oper.op _ = Op.move (Operand.tmp 10) from rfl) (by rfl)) (by rfl) (by rfl) ?_
      refine Ls.ev (some 17) (Ev.addN (b := 1) (show Oper.op _ = Op.binOp BinOp.add 3 (Operand.tmp 16) (Operand.const (Value.int IntKind.i64 1)) 3 from rfl) (by rfl) (by rfl) (by omega)) (by rfl) (by rfl) ?_
      refine Ls.ev (some 10) (Ev.assign (show Oper.op _ = Op.assign (Operand.tmp 17) from rfl) (by rfl)) (by rfl) (by rfl) ?_
      refine Ls.nil ?_
      refine Ent.inv ((k + 1, b)) ?_ ?_ ?_
      · (try dsimp only); exact ⟨⟨by omega, hg⟩, by omega⟩
      · (repeat (first | exact trivial | refine ⟨by rfl, ?_⟩ | refine ⟨by simp only [List.length_append, List.length_cons, List.length_nil]; rfl, ?_⟩ | refine ⟨by push_cast; rfl, ?_⟩))
      · rfl
  · skip
    have hk2 : k = l.length := by have := of_decide_eq_false h1; omega
    subst hk2
    rw [List.drop_length] at hg
    have hg : b = getS key seq none l := hg
    refine Cd.exit ?_
    refine Cd.seq ?_
    refine Cd.region ?_
    refine Ls.ev (some 52) (Ev.loads 0 (show Oper.op _ = Op.load 42 (Operand.tmp 8) from rfl) (by rfl) (by rfl) (n := 4) (by kernel_rfl) (by rfl) (by rfl)) (by rfl) (by rfl) ?_
    refine Ls.ev (some 53) (Ev.move (show Oper.op _ = Op.move (Operand.tmp 9) from rfl) (by rfl)) (by rfl) (by rfl) ?_
    refine Ls.does none (Does.store 1 (show Oper.op _ = Op.store 42 (Operand.tmp 6) (Operand.tmp 52) from rfl) (by rfl) (by rfl) (by rfl) (by kernel_rfl) (by rfl) (by kernel_rfl) (by rfl)) (by rfl) (by rfl) ?_
    intro _ _
    refine Ls.ev (some 7) (Ev.assign (show Oper.op _ = Op.assign (Operand.tmp 53) from rfl) (by rfl)) (by rfl) (by rfl) ?_
    refine Ls.nil ?_
    refine Cd.ret ?_
    refine Ent.ret (()) (trivial) (Res.cell_tmp 1 (by rfl) (by rfl) (by rfl) (n := 4) (by kernel_rfl) (by rfl) (by rfl) (by rfl)) ?_ [] (by rfl) ?_
    · rw [← hg]; rfl
    · rfl
theorem refSame_sl (A B : Option Addr) (c d : Nat) (l m : List Ety) (hn : l.length ≤ 1099511627776) : Fn Try.prog 15 #[.slice A l.length c, .slice B m.length d] [rdE A l, rdE B m] Unit (fun _ => .bool (decide (l = m))) (fun _ => []) (fun _ => True) := by
  refine Fn.enter Try.func15 rfl Try.ntmps15 (by rfl) ?_
  intro w0
  skip
  refine Cd.seq ?_
  refine Cd.region ?_
  refine Ls.ev (some 4) (Ev.assign (show Oper.op _ = Op.assign (Operand.const (Value.bool false)) from rfl) (by rfl)) (by rfl) (by rfl) ?_
  refine Ls.nil ?_
  refine Cd.seq ?_
  refine Cd.seq ?_
  refine Cd.region ?_
  refine Ls.ev (some 6) (Ev.move (show Oper.op _ = Op.move (Operand.tmp 0) from rfl) (by rfl)) (by rfl) (by rfl) ?_
  refine Ls.ev (some 7) (Ev.len (show Oper.op _ = Op.call { callee := Callee.builtin Builtin.len, args := #[Operand.tmp 6], argTypes := #[22] } from rfl) (by rfl) Try.underlying22) (by rfl) (by rfl) ?_
  refine Ls.ev (some 8) (Ev.move (show Oper.op _ = Op.move (Operand.tmp 1) from rfl) (by rfl)) (by rfl) (by rfl) ?_
  refine Ls.ev (some 9) (Ev.len (show Oper.op _ = Op.call { callee := Callee.builtin Builtin.len, args := #[Operand.tmp 8], argTypes := #[22] } from rfl) (by rfl) Try.underlying22) (by rfl) (by rfl) ?_
  refine Ls.ev (some 10) (Ev.neq (show Oper.op _ = Op.binOp BinOp.neq 3 (Operand.tmp 7) (Operand.tmp 9) 3 from rfl) (by rfl) (by rfl)) (by rfl) (by rfl) ?_
  refine Ls.nil ?_
  refine Cd.cond _ (by rfl) (fun h1 => ?_) (fun h1 => ?_)
  · skip
    have h2 : l.length ≠ m.length := by have := of_decide_eq_true h1; omega
    refine Cd.seq ?_
    refine Cd.region ?_
    refine Ls.ev (some 4) (Ev.assign (show Oper.op _ = Op.assign (Operand.const (Value.bool false)) from rfl) (by rfl)) (by rfl) (by rfl) ?_
    refine Ls.nil ?_
    refine Cd.ret ?_
    refine Ent.ret (()) (trivial) (Res.tmp (by rfl) (by rfl)) ?_ [] (by rfl) ?_
    · rw [decide_eq_false (fun e => h2 (by rw [e]))]
    · rfl
  · skip
    have h2 : l.length = m.length := by have := of_decide_eq_false h1; omega
    refine Cd.skip ?_
    refine Cd.seq ?_
    refine Cd.seq ?_
    refine Cd.region ?_
    refine Ls.ev (some 11) (Ev.move (show Oper.op _ = Op.move (Operand.tmp 0) from rfl) (by rfl)) (by rfl) (by rfl) ?_
    refine Ls.ev (some 12) (Ev.len (show Oper.op _ = Op.call { callee := Callee.builtin Builtin.len, args := #[Operand.tmp 11], argTypes := #[22] } from rfl) (by rfl) Try.underlying22) (by rfl) (by rfl) ?_
    refine Ls.ev (some 13) (Ev.move (show Oper.op _ = Op.move (Operand.const (Value.int IntKind.i64 0)) from rfl) (by rfl)) (by rfl) (by rfl) ?_
    refine Ls.nil ?_
    refine Cd.block ?_
    refine Cd.loop (ι := Nat) (fun k => [(0, .slice A l.length c), (1, .slice B m.length d), (12, .int .i64 l.length), (13, .int .i64 k)]) (fun _ => [rdE A l, rdE B m]) (fun k => k ≤ l.length ∧ l.take k = m.take k) (fun k => l.length - k) (0) (⟨Nat.zero_le _, rfl⟩) ?_ rfl ?_
    · (repeat (first | exact trivial | refine ⟨by rfl, ?_⟩))
    intro k ⟨hk, ht⟩
    refine Cd.seq ?_
    refine Cd.region ?_
    refine Ls.ev (some 14) (Ev.lss (show Oper.op _ = Op.binOp BinOp.lss 3 (Operand.tmp 13) (Operand.tmp 12) 3 from rfl) (by rfl) (by rfl)) (by rfl) (by rfl) ?_
    refine Ls.nil ?_
    refine Cd.seq ?_
    refine Cd.cond _ (by rfl) (fun h3 => ?_) (fun h3 => ?_)
    · skip
      have hlt : k < l.length := by have := of_decide_eq_true h3; omega
      obtain ⟨x, hx⟩ := get_of_lt hlt
      obtain ⟨y, hy⟩ := get_of_lt (show k < m.length by omega)
      refine Ent.rdSome 0 (by rfl) (by omega) (fun ad had => ?_)
      subst had
      refine Ent.rdSome 1 (by rfl) (by omega) (fun bd had => ?_)
      subst had
      refine Cd.skip ?_
      refine Cd.seq ?_
      refine Cd.block ?_
      refine Cd.seq ?_
      refine Cd.region ?_
      refine Ls.ev (some 15) (Ev.move (show Oper.op _ = Op.move (Operand.tmp 13) from rfl) (by rfl)) (by rfl) (by rfl) ?_
      refine Ls.ev (some 5) (Ev.assign (show Oper.op _ = Op.assign (Operand.tmp 15) from rfl) (by rfl)) (by rfl) (by rfl) ?_
      refine Ls.nil ?_
      refine Cd.seq ?_
      refine Cd.draw [] (by kernel_rfl) ?_
      refine Rg.ev 0 (by rfl) (fun _ h => h) (Ev.move (show Oper.op _ = Op.move (Operand.tmp 0) from rfl) (by rfl)) (by rfl) (some 16) (by rfl) (by kernel_rfl) (by kernel_rfl) (by kernel_rfl) (by kernel_rfl) ?_
      refine Rg.ev 1 (by rfl) (fun _ h => h) (Ev.move (show Oper.op _ = Op.move (Operand.tmp 5) from rfl) (by rfl)) (by rfl) (some 17) (by rfl) (by kernel_rfl) (by kernel_rfl) (by kernel_rfl) (by kernel_rfl) ?_
      refine Rg.ev 2 (by rfl) (fun _ h => h) (Ev.indexAt (sz := 4) (show Oper.op _ = Op.indexAddr 22 (Operand.tmp 16) (Operand.tmp 17) from rfl) (by rfl) (by rfl) Try.underlying22 (by kernel_rfl) (by omega)) (by rfl) (some 18) (by rfl) (by kernel_rfl) (by kernel_rfl) (by kernel_rfl) (by kernel_rfl) ?_
      refine Rg.ev 3 (by rfl) (fun _ h => h) (Ev.loadEl (show Oper.op _ = Op.load 42 (Operand.tmp 18) from rfl) (by rfl) (ReadsIn.rd 0 (by rfl)) (by kernel_rfl) (by intro _; rfl) (by assumption)) (by rfl) (some 19) (by rfl) (by kernel_rfl) (by kernel_rfl) (by kernel_rfl) (by kernel_rfl) ?_
      refine Rg.ev 4 (by rfl) (fun _ h => h) (Ev.move (show Oper.op _ = Op.move (Operand.tmp 1) from rfl) (by rfl)) (by rfl) (some 20) (by rfl) (by kernel_rfl) (by kernel_rfl) (by kernel_rfl) (by kernel_rfl) ?_
      refine Rg.ev 5 (by rfl) (fun _ h => h) (Ev.move (show Oper.op _ = Op.move (Operand.tmp 5) from rfl) (by rfl)) (by rfl) (some 21) (by rfl) (by kernel_rfl) (by kernel_rfl) (by kernel_rfl) (by kernel_rfl) ?_
      refine Rg.ev 6 (by rfl) (fun _ h => h) (Ev.indexAt (sz := 4) (show Oper.op _ = Op.indexAddr 22 (Operand.tmp 20) (Operand.tmp 21) from rfl) (by rfl) (by rfl) Try.underlying22 (by kernel_rfl) (by omega)) (by rfl) (some 22) (by rfl) (by kernel_rfl) (by kernel_rfl) (by kernel_rfl) (by kernel_rfl) ?_
      refine Rg.ev 7 (by rfl) (fun _ h => h) (Ev.loadEl (show Oper.op _ = Op.load 42 (Operand.tmp 22) from rfl) (by rfl) (ReadsIn.rd 1 (by rfl)) (by kernel_rfl) (by intro _; rfl) (by assumption)) (by rfl) (some 23) (by rfl) (by kernel_rfl) (by kernel_rfl) (by kernel_rfl) (by kernel_rfl) ?_
      refine Rg.ev 8 (by rfl) (fun _ h => h) (Ev.neqE x y (show Oper.op _ = Op.binOp BinOp.neq 42 (Operand.tmp 19) (Operand.tmp 23) 42 from rfl) (by rfl) (by rfl)) (by rfl) (some 24) (by rfl) (by kernel_rfl) (by kernel_rfl) (by kernel_rfl) (by kernel_rfl) ?_
      refine Rg.done (by kernel_rfl) ?_ _
      refine Cd.cond _ (by rfl) (fun h4 => ?_) (fun h4 => ?_)
      · skip
        have h5 : ¬ x = y := by simpa using h4
        refine Cd.seq ?_
        refine Cd.region ?_
        refine Ls.ev (some 4) (Ev.assign (show Oper.op _ = Op.assign (Operand.const (Value.bool false)) from rfl) (by rfl)) (by rfl) (by rfl) ?_
        refine Ls.nil ?_
        refine Cd.ret ?_
        refine Ent.ret (()) (trivial) (Res.tmp (by rfl) (by rfl)) ?_ [] (by rfl) ?_
        · rw [decide_eq_false (fun e => h5 (by rw [e, hy] at hx; exact (Option.some.inj hx).symm))]
        · rfl
      · skip
        have h5 : x = y := by simpa using h4
        subst h5
        refine Cd.skip ?_
        refine Cd.region ?_
        refine Ls.ev (some 25) (Ev.addN (b := 1) (show Oper.op _ = Op.binOp BinOp.add 3 (Operand.tmp 13) (Operand.const (Value.int IntKind.i64 1)) 3 from rfl) (by rfl) (by rfl) (by omega)) (by rfl) (by rfl) ?_
        refine Ls.ev (some 13) (Ev.move (show Oper.op _ = Op.move (Operand.tmp 25) from rfl) (by rfl)) (by rfl) (by rfl) ?_
        refine Ls.nil ?_
        refine Ent.inv (k + 1) ?_ ?_ ?_
        · (try dsimp only); exact ⟨⟨by omega, by rw [List.take_add_one, List.take_add_one, ht, hx, hy]⟩, by omega⟩
        · (repeat (first | exact trivial | refine ⟨by rfl, ?_⟩ | refine ⟨by simp only [List.length_append, List.length_cons, List.length_nil]; rfl, ?_⟩ | refine ⟨by push_cast; rfl, ?_⟩))
        · rfl
    · skip
      have hk2 : k = l.length := by have := of_decide_eq_false h3; omega
      subst hk2
      rw [List.take_length, List.take_of_length_le (by omega)] at ht
      refine Cd.exit ?_
      refine Cd.seq ?_
      refine Cd.region ?_
      refine Ls.ev (some 4) (Ev.assign (show Oper.op _ = Op.assign (Operand.const (Value.bool true)) from rfl) (by rfl)) (by rfl) (by rfl) ?_
      refine Ls.nil ?_
      refine Cd.ret ?_
      refine Ent.ret (()) (trivial) (Res.tmp (by rfl) (by rfl)) ?_ [] (by rfl) ?_
      · rw [decide_eq_true ht]
      · rfl
end Go.Proofs.Ytnhcfhamcakfkaa
/- the statements' fixed fact and own copy -/
namespace Go.Proofs.Ytnhcfhamcakfkaa
open Go.RowKit
def l0 : List Ety := [⟨⟨#[97]⟩, 1, false, ⟨#[120]⟩⟩]
theorem l0_ok : errL l0 = 0 := by decide +kernel
theorem l0_a : l0.find? (hitE ⟨#[97]⟩ 5) = some ⟨⟨#[97]⟩, 1, false, ⟨#[120]⟩⟩ := by kernel_rfl
theorem l0_b : l0.find? (hitE ⟨#[98]⟩ 5) = none := by decide +kernel
theorem own_sl (A : Option Addr) (c : Nat) (l : List Ety) (hn : l.length ≤ 8796093022207) (hc : l.length ≤ c) : Fn Try.prog 9 #[.slice A l.length c] [rdE A l] (Option Addr × Nat) (fun p => .slice p.1 (l.take 90).length p.2) (fun p => [rowE p.1 p.2 (l.take 90)]) (fun _ => True) := by
  have hl : (l.take 90).length = min l.length 90 := by rw [List.length_take, Nat.min_comm]
  refine Fn.enter Try.func9 rfl Try.ntmps9 (by rfl) ?_
  intro w0
  refine Cd.seq ?_
  refine Cd.region ?_
  refine Ls.ev (some 2) (Ev.assign (show Oper.op _ = Op.assign (Operand.const (Value.slice none 0 0)) from rfl) (by rfl)) (by rfl) (by rfl) ?_
  refine Ls.nil ?_
  refine Cd.seq ?_
  refine Cd.region ?_
  refine Ls.does (some 3) (Does.lit0 (sz := 4) (show Oper.op _ = Op.buildSlice 22 0 #[] from rfl) Try.underlying22 (by kernel_rfl)) (by rfl) (by rfl) ?_
  intro g1 _
  refine Ls.ev (some 4) (Ev.move (show Oper.op _ = Op.move (Operand.tmp 0) from rfl) (by rfl)) (by rfl) (by rfl) ?_
  refine Ls.ev (some 5) (Ev.move (show Oper.op _ = Op.move (Operand.tmp 0) from rfl) (by rfl)) (by rfl) (by rfl) ?_
  refine Ls.ev (some 6) (Ev.len (show Oper.op _ = Op.call { callee := Callee.builtin Builtin.len, args := #[Operand.tmp 5], argTypes := #[22] } from rfl) (by rfl) Try.underlying22) (by rfl) (by rfl) ?_
  refine Ls.ev (some 7) (Ev.minN (a := l.length) (b := 90) (m := (l.take 90).length) (show Oper.op _ = Op.call { callee := Callee.builtin Builtin.min, args := #[Operand.tmp 6, Operand.const (Value.int IntKind.i64 90)], argTypes := #[3, 3] } from rfl) (by rfl) (by rfl) hl.symm) (by rfl) (by rfl) ?_
  refine Ls.ev (some 8) (Ev.sliceHn (sz := 4) (show Oper.op _ = Op.slice 22 (Operand.tmp 4) none (some (Operand.tmp 7)) none from rfl) (by rfl) (by rfl) Try.underlying22 (by kernel_rfl) (by omega)) (by rfl) (by rfl) ?_
  refine Ent.cut 1 0 (l.take 90).length c (by rfl) (by omega) ?_
  rw [flat_cut (enc := Ety.enc) (sz := 4) (fun _ => rfl), List.drop_zero, Nat.sub_zero, show l.take (l.take 90).length = l.take 90 by rw [hl, List.take_eq_take_iff]; omega, show cutA A c 0 4 = A by unfold cutA; split; rfl; cases A <;> simp [Addr.add]]
  refine Ls.does (some 9) (Does.app0 (news := (l.take 90).flatMap Ety.enc) 1 (show Oper.op _ = Op.call { callee := Callee.builtin Builtin.append, args := #[Operand.tmp 3, Operand.tmp 8], argTypes := #[22, 22] } from rfl) (by rfl) (by rfl) (by rfl) (ReadsIn.rd 0 (by rfl)) elem_ents (encs_one _) (by omega)) (by rfl) (by rfl) ?_
  intro q _
  refine Ls.ev (some 2) (Ev.assign (show Oper.op _ = Op.assign (Operand.tmp 9) from rfl) (by rfl)) (by rfl) (by rfl) ?_
  refine Ls.nil ?_
  refine Cd.ret ?_
  refine Ent.ret (q) (trivial) (Res.tmp (by rfl) (by rfl)) ?_ [1] (by rfl) ?_
  · rfl
  · rfl
theorem awake_sl : Fn Try.prog 8 #[] [] Unit (fun _ => .bool true) (fun _ => []) (fun _ => True) := by
  have ht := tab_len l0_ok
  refine Fn.enter Try.func8 rfl Try.ntmps8 (by rfl) ?_
  intro w0
  skip
  refine Cd.seq ?_
  refine Cd.region ?_
  refine Ls.ev (some 0) (Ev.assign (show Oper.op _ = Op.assign (Operand.const (Value.bool false)) from rfl) (by rfl)) (by rfl) (by rfl) ?_
  refine Ls.nil ?_
  refine Cd.seq ?_
  refine Cd.region ?_
  refine Ls.ev (some 10) (Ev.buildP (pl := [(0, 1), (1, 1), (2, 1), (3, 1)]) (zs := [.string ⟨#[]⟩, .int .i64 0, .bool false, .string ⟨#[]⟩]) (show Oper.op _ = Op.build 42 #[(0, Operand.const (Value.string { data := #[97] })), (1, Operand.const (Value.int IntKind.i64 1)), (3, Operand.const (Value.string { data := #[120] }))] from rfl) (by rfl) (by kernel_rfl) (by rfl)) (by rfl) (by rfl) ?_
  refine Ls.does (some 11) (Does.lit (sz := 4) (show Oper.op _ = Op.buildSlice 22 1 #[(0, Operand.tmp 10)] from rfl) (by rfl) Try.underlying22 (by kernel_rfl) (by rfl) (by kernel_rfl)) (by rfl) (by rfl) ?_
  intro g1 _
  refine Ls.does (some 12) (Does.readN (show Oper.op _ = Op.call { callee := Callee.value (Operand.func 10), args := #[Operand.tmp 11], argTypes := #[22] } from rfl) Try.func10 (by kernel_rfl) (by kernel_rfl) (build_sl (some ⟨g1, 0, none⟩) 1 l0 (Nat.le_refl _) l0_ok) (by rfl) (by rfl) ⟨ReadsIn.row 0 (by rfl), trivial⟩ (fun _ => by rfl)) (by rfl) (by rfl) ?_
  intro q _
  refine Ls.ev (some 9) (Ev.move (show Oper.op _ = Op.move (Operand.tmp 12) from rfl) (by rfl)) (by rfl) (by rfl) ?_
  refine Ls.ev (some 13) (Ev.extract (show Oper.op _ = Op.extract (Operand.tmp 9) 0 from rfl) (by rfl) (by rfl)) (by rfl) (by rfl) ?_
  refine Ls.ev (some 14) (Ev.extract (show Oper.op _ = Op.extract (Operand.tmp 9) 1 from rfl) (by rfl) (by rfl)) (by rfl) (by rfl) ?_
  refine Ls.ev (some 1) (Ev.assign (show Oper.op _ = Op.assign (Operand.tmp 13) from rfl) (by rfl)) (by rfl) (by rfl) ?_
  refine Ls.ev (some 2) (Ev.assign (show Oper.op _ = Op.assign (Operand.tmp 14) from rfl) (by rfl)) (by rfl) (by rfl) ?_
  refine Ls.nil ?_
  refine Cd.seq ?_
  refine Cd.seq ?_
  refine Cd.region ?_
  refine Ls.ev (some 15) (Ev.move (show Oper.op _ = Op.move (Operand.tmp 2) from rfl) (by rfl)) (by rfl) (by rfl) ?_
  refine Ls.ev (some 16) (Ev.neq (show Oper.op _ = Op.binOp BinOp.neq 26 (Operand.tmp 15) (Operand.const (Value.int IntKind.i64 0)) 26 from rfl) (by rfl) (by rfl)) (by rfl) (by rfl) ?_
  refine Ls.ev (some 17) (Ev.move (show Oper.op _ = Op.move (Operand.tmp 16) from rfl) (by rfl)) (by rfl) (by rfl) ?_
  refine Ent.known 17 false (by rfl) (by exact (rfl)) ?_
  refine Ls.ev (some 18) (Ev.move (show Oper.op _ = Op.move (Operand.tmp 1) from rfl) (by rfl)) (by rfl) (by rfl) ?_
  refine Ls.ev (some 19) (Ev.len (show Oper.op _ = Op.call { callee := Callee.builtin Builtin.len, args := #[Operand.tmp 18], argTypes := #[25] } from rfl) (by rfl) Try.underlying25) (by rfl) (by rfl) ?_
  refine Ls.ev (some 20) (Ev.lss (show Oper.op _ = Op.binOp BinOp.lss 3 (Operand.tmp 19) (Operand.const (Value.int IntKind.i64 20)) 3 from rfl) (by rfl) (by rfl)) (by rfl) (by rfl) ?_
  refine Ls.ev (some 21) (Ev.pickF (show Oper.op _ = Op.pick (Operand.tmp 17) (Operand.const (Value.bool true)) (Operand.tmp 20) from rfl) (by rfl) (by rfl)) (by rfl) (by rfl) ?_
  refine Ls.nil ?_
  skip
  refine Cd.cond_false (by rfl) (decide_eq_false (by omega)) ?_
  refine Cd.skip ?_
  refine Cd.seq ?_
  refine Cd.region ?_
  refine Ls.ev (some 23) (Ev.move (show Oper.op _ = Op.move (Operand.tmp 1) from rfl) (by rfl)) (by rfl) (by rfl) ?_
  refine Ls.does (some 24) (Does.readN (show Oper.op _ = Op.call { callee := Callee.value (Operand.func 13), args := #[Operand.tmp 23], argTypes := #[25] } from rfl) Try.func13 (by kernel_rfl) (by kernel_rfl) (parse_tab l0_ok q.1 q.2) (by rfl) (by rfl) ⟨ReadsIn.row 0 (by rfl), trivial⟩ (fun _ => by rfl)) (by rfl) (by rfl) ?_
  intro t htc
  refine Ent.pick [0, 1, 2, 3] (by rfl) (Ent.see 1 (by rfl) (Ent.see 2 (by rfl) (Ent.see 3 (by rfl) ?_)))
  refine Ls.ev (some 22) (Ev.move (show Oper.op _ = Op.move (Operand.tmp 24) from rfl) (by rfl)) (by rfl) (by rfl) ?_
  refine Ls.ev (some 25) (Ev.extract (show Oper.op _ = Op.extract (Operand.tmp 22) 0 from rfl) (by rfl) (by rfl)) (by rfl) (by rfl) ?_
  refine Ls.ev (some 26) (Ev.extract (show Oper.op _ = Op.extract (Operand.tmp 22) 1 from rfl) (by rfl) (by rfl)) (by rfl) (by rfl) ?_
  refine Ls.ev (some 3) (Ev.assign (show Oper.op _ = Op.assign (Operand.tmp 25) from rfl) (by rfl)) (by rfl) (by rfl) ?_
  refine Ls.ev (some 4) (Ev.assign (show Oper.op _ = Op.assign (Operand.tmp 26) from rfl) (by rfl)) (by rfl) (by rfl) ?_
  refine Ls.nil ?_
  refine Cd.seq ?_
  refine Cd.seq ?_
  refine Cd.region ?_
  refine Ls.ev (some 27) (Ev.move (show Oper.op _ = Op.move (Operand.tmp 3) from rfl) (by rfl)) (by rfl) (by rfl) ?_
  refine Ls.ev (some 28) (Ev.ptrNil (show Oper.op _ = Op.binOp BinOp.eql 32 (Operand.tmp 27) (Operand.const (Value.pointer none)) 32 from rfl) (by rfl) (by rfl) Try.underlying32) (by rfl) (by rfl) ?_
  refine Ls.ev (some 29) (Ev.move (show Oper.op _ = Op.move (Operand.tmp 28) from rfl) (by rfl)) (by rfl) (by rfl) ?_
  refine Ent.known 29 false (by rfl) (by exact (rfl)) ?_
  refine Ls.ev (some 30) (Ev.move (show Oper.op _ = Op.move (Operand.tmp 4) from rfl) (by rfl)) (by rfl) (by rfl) ?_
  refine Ls.ev (some 31) (Ev.neq (show Oper.op _ = Op.binOp BinOp.neq 26 (Operand.tmp 30) (Operand.const (Value.int IntKind.i64 0)) 26 from rfl) (by rfl) (by rfl)) (by rfl) (by rfl) ?_
  refine Ls.ev (some 32) (Ev.pickF (show Oper.op _ = Op.pick (Operand.tmp 29) (Operand.const (Value.bool true)) (Operand.tmp 31) from rfl) (by rfl) (by rfl)) (by rfl) (by rfl) ?_
  refine Ls.ev (some 33) (Ev.move (show Oper.op _ = Op.move (Operand.tmp 32) from rfl) (by rfl)) (by rfl) (by rfl) ?_
  skip
  refine Ent.known 33 false (by rfl) (by exact (rfl)) ?_
  refine Ls.ev (some 34) (Ev.move (show Oper.op _ = Op.move (Operand.tmp 3) from rfl) (by rfl)) (by rfl) (by rfl) ?_
  refine Ls.does (some 35) (Does.read (show Oper.op _ = Op.call { callee := Callee.value (Operand.func 17), args := #[Operand.tmp 34], argTypes := #[32] } from rfl) Try.func17 (by kernel_rfl) (by kernel_rfl) (len_sl t.g t.bA (tabL l0).length t.bc t.xA (bksE l0).length t.xc t.fA (filL l0).length t.fc l0.length 0) (by rfl) (by rfl) ⟨blkIn 0 (by rfl), trivial⟩) (by rfl) (by rfl) ?_
  rintro _ -
  refine Ls.ev (some 36) (Ev.neq (show Oper.op _ = Op.binOp BinOp.neq 3 (Operand.tmp 35) (Operand.const (Value.int IntKind.i64 1)) 3 from rfl) (by rfl) (by rfl)) (by rfl) (by rfl) ?_
  refine Ls.ev (some 37) (Ev.pickF (show Oper.op _ = Op.pick (Operand.tmp 33) (Operand.const (Value.bool true)) (Operand.tmp 36) from rfl) (by rfl) (by rfl)) (by rfl) (by rfl) ?_
  refine Ls.ev (some 38) (Ev.move (show Oper.op _ = Op.move (Operand.tmp 37) from rfl) (by rfl)) (by rfl) (by rfl) ?_
  refine Ent.known 38 false (by rfl) (by exact (rfl)) ?_
  refine Ls.ev (some 39) (Ev.move (show Oper.op _ = Op.move (Operand.tmp 3) from rfl) (by rfl)) (by rfl) (by rfl) ?_
  refine Ls.does (some 40) (Does.read (show Oper.op _ = Op.call { callee := Callee.value (Operand.func 18), args := #[Operand.tmp 39], argTypes := #[32] } from rfl) Try.func18 (by kernel_rfl) (by kernel_rfl) (first_tab l0_ok t 0 ⟨⟨#[97]⟩, 1, false, ⟨#[120]⟩⟩ rfl) (by rfl) (by rfl) ⟨blkIn 0 (by rfl), ReadsIn.rd 1 (by rfl), trivial⟩) (by rfl) (by rfl) ?_
  rintro _ -
  refine Ls.ev (some 41) (Ev.neqS (show Oper.op _ = Op.binOp BinOp.neq 9 (Operand.tmp 40) (Operand.const (Value.string { data := #[97] })) 9 from rfl) (by rfl) (by rfl)) (by rfl) (by rfl) ?_
  refine Ls.ev (some 42) (Ev.pickF (show Oper.op _ = Op.pick (Operand.tmp 38) (Operand.const (Value.bool true)) (Operand.tmp 41) from rfl) (by rfl) (by rfl)) (by rfl) (by rfl) ?_
  refine Ls.ev (some 43) (Ev.move (show Oper.op _ = Op.move (Operand.tmp 42) from rfl) (by rfl)) (by rfl) (by rfl) ?_
  refine Ent.known 43 false (by rfl) (by exact (rfl)) ?_
  refine Ls.ev (some 44) (Ev.move (show Oper.op _ = Op.move (Operand.tmp 3) from rfl) (by rfl)) (by rfl) (by rfl) ?_
  refine Ls.does (some 45) (Does.read (show Oper.op _ = Op.call { callee := Callee.value (Operand.func 19), args := #[Operand.tmp 44], argTypes := #[32] } from rfl) Try.func19 (by kernel_rfl) (by kernel_rfl) (last_tab l0_ok t 0 ⟨⟨#[97]⟩, 1, false, ⟨#[120]⟩⟩ rfl) (by rfl) (by rfl) ⟨blkIn 0 (by rfl), ReadsIn.rd 1 (by rfl), trivial⟩) (by rfl) (by rfl) ?_
  rintro _ -
  refine Ls.ev (some 46) (Ev.neqS (show Oper.op _ = Op.binOp BinOp.neq 9 (Operand.tmp 45) (Operand.const (Value.string { data := #[97] })) 9 from rfl) (by rfl) (by rfl)) (by rfl) (by rfl) ?_
  refine Ls.ev (some 47) (Ev.pickF (show Oper.op _ = Op.pick (Operand.tmp 43) (Operand.const (Value.bool true)) (Operand.tmp 46) from rfl) (by rfl) (by rfl)) (by rfl) (by rfl) ?_
  refine Ls.nil ?_
  refine Cd.cond_false (by rfl) (rfl) ?_
  refine Cd.skip ?_
  refine Cd.seq ?_
  refine Cd.region ?_
  refine Ls.ev (some 49) (Ev.move (show Oper.op _ = Op.move (Operand.tmp 3) from rfl) (by rfl)) (by rfl) (by rfl) ?_
  refine Ls.does (some 50) (Does.call [0, 1, 3, 2, 1, 2, 3] (show Oper.op _ = Op.call { callee := Callee.value (Operand.func 24), args := #[Operand.tmp 49, Operand.const (Value.string { data := #[97] }), Operand.const (Value.int IntKind.i64 5)], argTypes := #[32, 9, 3] } from rfl) Try.func24 (by kernel_rfl) (by kernel_rfl) (get_tab l0_ok t 0 ⟨#[97]⟩ 5 htc (by decide) (by omega)) (by rfl) (by rfl) (by rfl)) (by rfl) (by rfl) ?_
  rintro _ -
  have hn := lookN_le l0_ok ⟨#[97]⟩ 5
  rw [l0_a]
  refine Ls.ev (some 48) (Ev.move (show Oper.op _ = Op.move (Operand.tmp 50) from rfl) (by rfl)) (by rfl) (by rfl) ?_
  refine Ls.ev (some 51) (Ev.extract (show Oper.op _ = Op.extract (Operand.tmp 48) 0 from rfl) (by rfl) (by rfl)) (by rfl) (by rfl) ?_
  refine Ls.ev (some 52) (Ev.extract (show Oper.op _ = Op.extract (Operand.tmp 48) 1 from rfl) (by rfl) (by rfl)) (by rfl) (by rfl) ?_
  refine Ls.does (some 5) (Does.alloc (cs := [.string ⟨#[]⟩, .int .i64 0, .bool false, .string ⟨#[]⟩]) (show Oper.op _ = Op.alloc 42 from rfl) (ZeroIs.mk (.agg #[.string ⟨#[]⟩, .int .i64 0, .bool false, .string ⟨#[]⟩]) (by kernel_rfl) (by rfl))) (by rfl) (by rfl) ?_
  intro g2 _
  refine Ls.does none (Does.store 0 (show Oper.op _ = Op.store 42 (Operand.tmp 5) (Operand.tmp 51) from rfl) (by rfl) (by rfl) (by rfl) (by kernel_rfl) (by rfl) (by kernel_rfl) (by rfl)) (by rfl) (by rfl) ?_
  intro _ _
  refine Ls.ev (some 6) (Ev.assign (show Oper.op _ = Op.assign (Operand.tmp 52) from rfl) (by rfl)) (by rfl) (by rfl) ?_
  refine Ls.nil ?_
  refine Cd.seq ?_
  refine Cd.region ?_
  refine Ls.ev (some 54) (Ev.move (show Oper.op _ = Op.move (Operand.tmp 3) from rfl) (by rfl)) (by rfl) (by rfl) ?_
  refine Ls.does (some 55) (Does.call [1, 2, 4, 3, 0] (show Oper.op _ = Op.call { callee := Callee.value (Operand.func 24), args := #[Operand.tmp 54, Operand.const (Value.string { data := #[98] }), Operand.const (Value.int IntKind.i64 5)], argTypes := #[32, 9, 3] } from rfl) Try.func24 (by kernel_rfl) (by kernel_rfl) (get_tab l0_ok t (0 + lookN l0 ⟨#[97]⟩ 5) ⟨#[98]⟩ 5 htc (by decide) (by omega)) (by rfl) (by rfl) (by rfl)) (by rfl) (by rfl) ?_
  rintro _ -
  rw [l0_b]
  refine Ls.ev (some 53) (Ev.move (show Oper.op _ = Op.move (Operand.tmp 55) from rfl) (by rfl)) (by rfl) (by rfl) ?_
  refine Ls.ev (some 56) (Ev.extract (show Oper.op _ = Op.extract (Operand.tmp 53) 0 from rfl) (by rfl) (by rfl)) (by rfl) (by rfl) ?_
  refine Ls.ev (some 57) (Ev.extract (show Oper.op _ = Op.extract (Operand.tmp 53) 1 from rfl) (by rfl) (by rfl)) (by rfl) (by rfl) ?_
  refine Ls.does (some 7) (Does.alloc (cs := [.string ⟨#[]⟩, .int .i64 0, .bool false, .string ⟨#[]⟩]) (show Oper.op _ = Op.alloc 42 from rfl) (ZeroIs.mk (.agg #[.string ⟨#[]⟩, .int .i64 0, .bool false, .string ⟨#[]⟩]) (by kernel_rfl) (by rfl))) (by rfl) (by rfl) ?_
  intro g3 _
  refine Ls.does none (Does.store 0 (show Oper.op _ = Op.store 42 (Operand.tmp 7) (Operand.tmp 56) from rfl) (by rfl) (by rfl) (by rfl) (by kernel_rfl) (by rfl) (by kernel_rfl) (by rfl)) (by rfl) (by rfl) ?_
  intro _ _
  refine Ls.ev (some 8) (Ev.assign (show Oper.op _ = Op.assign (Operand.tmp 57) from rfl) (by rfl)) (by rfl) (by rfl) ?_
  refine Ls.nil ?_
  refine Cd.seq ?_
  refine Cd.region ?_
  refine Ls.ev (some 58) (Ev.move (show Oper.op _ = Op.move (Operand.tmp 6) from rfl) (by rfl)) (by rfl) (by rfl) ?_
  refine Ls.ev (some 59) (Ev.move (show Oper.op _ = Op.move (Operand.tmp 58) from rfl) (by rfl)) (by rfl) (by rfl) ?_
  refine Ent.known 59 true (by rfl) (by exact (rfl)) ?_
  refine Ls.ev (some 60) (Ev.move (show Oper.op _ = Op.move (Operand.tmp 8) from rfl) (by rfl)) (by rfl) (by rfl) ?_
  refine Ls.ev (some 61) (Ev.not (show Oper.op _ = Op.unOp UnOp.not 4 (Operand.tmp 60) from rfl) (by rfl)) (by rfl) (by rfl) ?_
  refine Ls.ev (some 62) (Ev.pickT (show Oper.op _ = Op.pick (Operand.tmp 59) (Operand.tmp 61) (Operand.const (Value.bool false)) from rfl) (by rfl) (by rfl)) (by rfl) (by rfl) ?_
  refine Ls.ev (some 63) (Ev.move (show Oper.op _ = Op.move (Operand.tmp 62) from rfl) (by rfl)) (by rfl) (by rfl) ?_
  skip
  refine Ent.known 63 true (by rfl) (by exact (rfl)) ?_
  refine Ls.ev (some 64) (Ev.fieldAddr (k := 3) (show Oper.op _ = Op.fieldAddr 42 (Operand.tmp 5) 3 from rfl) (by rfl) (by kernel_rfl) (by rfl)) (by rfl) (by rfl) ?_
  refine Ls.ev (some 65) (Ev.load 2 (show Oper.op _ = Op.load 9 (Operand.tmp 64) from rfl) (by rfl) (by rfl) (by kernel_rfl) (by rfl)) (by rfl) (by rfl) ?_
  refine Ls.ev (some 66) (Ev.eqlS (show Oper.op _ = Op.binOp BinOp.eql 9 (Operand.tmp 65) (Operand.const (Value.string { data := #[120] })) 9 from rfl) (by rfl) (by rfl)) (by rfl) (by rfl) ?_
  refine Ls.ev (some 67) (Ev.pickT (show Oper.op _ = Op.pick (Operand.tmp 63) (Operand.tmp 66) (Operand.const (Value.bool false)) from rfl) (by rfl) (by rfl)) (by rfl) (by rfl) ?_
  refine Ls.ev (some 0) (Ev.assign (show Oper.op _ = Op.assign (Operand.tmp 67) from rfl) (by rfl)) (by rfl) (by rfl) ?_
  refine Ls.nil ?_
  skip
  refine Cd.ret ?_
  refine Ent.ret (()) (trivial) (Res.tmp (by rfl) (by rfl)) ?_ [] (by rfl) ?_
  · rfl
  · rfl
end Go.Proofs.Ytnhcfhamcakfkaa
