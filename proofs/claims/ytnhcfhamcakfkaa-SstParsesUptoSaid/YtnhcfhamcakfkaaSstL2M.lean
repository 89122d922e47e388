/- SstParses, in the second form: of any bytes just those of a table are taken, with its entries. No condition beyond the statement's own. -/
import Derived.Test.YtnhcfhamcakfkaaMSstL2a
import Derived.Test.YtnhcfhamcakfkaaMSstL2f
import Derived.Test.YtnhcfhamcakfkaaMSstL2g
import Derived.Test.YtnhcfhamcakfkaaChecked
import Derived.Test.YtnhcfhamcakfkaaRows
namespace Go.Proofs.Ytnhcfhamcakfkaa
open Go.RowKit
theorem parse_none (A : Option Addr) (c : Nat) (b : List UInt8) (hm : b.length ≤ 140737488355328) (h : parseT b = none) : Fn Try.prog 13 #[.slice A b.length c] [rdB A b] Unit (fun _ => .tuple #[.pointer none, .int .i64 61]) (fun _ => []) (fun _ => True) :=
  (parse_sl A c b hm).reind fun i hi => by
    rcases Bool.eq_false_or_eq_true i.ok with ho | ho
    · have := (hi.yes ho).1
      rw [h] at this
      cases this
    · exact ⟨(), trivial, by rw [ho]; rfl, by rw [ho]; rfl⟩
set_option maxHeartbeats 1000000 in
theorem parses_fn (W : World) (A : Option Addr) (c : Nat) (b : List UInt8) (hr : Reads W W.heap.size 1 A b.length (u8s b)) (hc : b.length ≤ c) (hm : b.length ≤ 1048576) :
    Fn Try.prog 4 #[.slice A b.length c] [argc W] Unit (fun _ => .bool true) (fun _ => []) (fun _ => True) := by
  have hrp := refP_eq b
  refine Fn.enter Try.func4 rfl Try.ntmps4 (by rfl) ?_
  intro w0
  refine Ent.arg 0 (by rfl) hr ?_
  skip
  refine Cd.seq ?_
  refine Cd.region ?_
  refine Ls.ev (some 2) (Ev.assign (show Oper.op _ = Op.assign (Operand.const (Value.bool false)) from rfl) (by rfl)) (by rfl) (by rfl) ?_
  refine Ls.nil ?_
  refine Cd.seq ?_
  refine Cd.seq ?_
  refine Cd.region ?_
  refine Ls.does (some 7) (Does.read (show Oper.op _ = Op.call { callee := Callee.value (Operand.func 8), args := #[], argTypes := #[] } from rfl) Try.func8 (by kernel_rfl) (by kernel_rfl) (awake_sl) (by rfl) (by rfl) trivial) (by rfl) (by rfl) ?_
  rintro _ -
  refine Ls.ev (some 8) (Ev.not (show Oper.op _ = Op.unOp UnOp.not 4 (Operand.tmp 7) from rfl) (by rfl)) (by rfl) (by rfl) ?_
  refine Ls.nil ?_
  refine Cd.cond_false (by rfl) (rfl) ?_
  refine Cd.skip ?_
  refine Cd.seq ?_
  refine Cd.region ?_
  refine Ls.does (some 10) (Does.lit0 (sz := 1) (show Oper.op _ = Op.buildSlice 25 0 #[] from rfl) Try.underlying25 (by kernel_rfl)) (by rfl) (by rfl) ?_
  intro g1 _
  refine Ls.ev (some 11) (Ev.move (show Oper.op _ = Op.move (Operand.tmp 0) from rfl) (by rfl)) (by rfl) (by rfl) ?_
  refine Ls.does (some 12) (Does.app0 (news := u8s b) 0 (show Oper.op _ = Op.call { callee := Callee.builtin Builtin.append, args := #[Operand.tmp 10, Operand.tmp 11], argTypes := #[25, 25] } from rfl) (by rfl) (by rfl) (by rfl) (ReadsIn.rd 1 (by rfl)) elem_u8 (u8s_one _) (by omega)) (by rfl) (by rfl) ?_
  intro q _
  skip
  cases hp : parseT b with
  | none =>
    rw [hp] at hrp
    skip
    refine Ls.does (some 13) (Does.readN (show Oper.op _ = Op.call { callee := Callee.value (Operand.func 13), args := #[Operand.tmp 12], argTypes := #[25] } from rfl) Try.func13 (by kernel_rfl) (by kernel_rfl) (parse_none q.1 q.2 b (by omega) hp) (by rfl) (by rfl) ⟨ReadsIn.row 0 (by rfl), trivial⟩ (fun _ => by rfl)) (by rfl) (by rfl) ?_
    rintro _ -
    refine Ls.ev (some 9) (Ev.move (show Oper.op _ = Op.move (Operand.tmp 13) from rfl) (by rfl)) (by rfl) (by rfl) ?_
    refine Ls.ev (some 14) (Ev.extract (show Oper.op _ = Op.extract (Operand.tmp 9) 0 from rfl) (by rfl) (by rfl)) (by rfl) (by rfl) ?_
    refine Ls.ev (some 15) (Ev.extract (show Oper.op _ = Op.extract (Operand.tmp 9) 1 from rfl) (by rfl) (by rfl)) (by rfl) (by rfl) ?_
    refine Ls.ev (some 3) (Ev.assign (show Oper.op _ = Op.assign (Operand.tmp 14) from rfl) (by rfl)) (by rfl) (by rfl) ?_
    refine Ls.ev (some 4) (Ev.assign (show Oper.op _ = Op.assign (Operand.tmp 15) from rfl) (by rfl)) (by rfl) (by rfl) ?_
    refine Ls.nil ?_
    refine Cd.seq ?_
    refine Cd.region ?_
    refine Ls.ev (some 17) (Ev.move (show Oper.op _ = Op.move (Operand.tmp 0) from rfl) (by rfl)) (by rfl) (by rfl) ?_
    refine Ls.does (some 18) (Does.readN (show Oper.op _ = Op.call { callee := Callee.value (Operand.func 14), args := #[Operand.tmp 17], argTypes := #[25] } from rfl) Try.func14 (by kernel_rfl) (by kernel_rfl) (refParse_sl A c b hc hm) (by rfl) (by rfl) ⟨ReadsIn.rd 1 (by rfl), trivial⟩ (fun _ => by rfl)) (by rfl) (by rfl) ?_
    rw [hrp]
    intro p _
    refine Ls.ev (some 16) (Ev.move (show Oper.op _ = Op.move (Operand.tmp 18) from rfl) (by rfl)) (by rfl) (by rfl) ?_
    refine Ls.ev (some 19) (Ev.extract (show Oper.op _ = Op.extract (Operand.tmp 16) 0 from rfl) (by rfl) (by rfl)) (by rfl) (by rfl) ?_
    refine Ls.ev (some 20) (Ev.extract (show Oper.op _ = Op.extract (Operand.tmp 16) 1 from rfl) (by rfl) (by rfl)) (by rfl) (by rfl) ?_
    refine Ls.ev (some 5) (Ev.assign (show Oper.op _ = Op.assign (Operand.tmp 19) from rfl) (by rfl)) (by rfl) (by rfl) ?_
    refine Ls.ev (some 6) (Ev.assign (show Oper.op _ = Op.assign (Operand.tmp 20) from rfl) (by rfl)) (by rfl) (by rfl) ?_
    refine Ls.nil ?_
    refine Cd.seq ?_
    refine Cd.seq ?_
    refine Cd.region ?_
    refine Ls.ev (some 21) (Ev.move (show Oper.op _ = Op.move (Operand.tmp 6) from rfl) (by rfl)) (by rfl) (by rfl) ?_
    refine Ls.ev (some 22) (Ev.not (show Oper.op _ = Op.unOp UnOp.not 4 (Operand.tmp 21) from rfl) (by rfl)) (by rfl) (by rfl) ?_
    refine Ls.nil ?_
    refine Cd.cond_true (by rfl) (rfl) ?_
    skip
    refine Cd.seq ?_
    refine Cd.region ?_
    refine Ls.ev (some 23) (Ev.move (show Oper.op _ = Op.move (Operand.tmp 3) from rfl) (by rfl)) (by rfl) (by rfl) ?_
    refine Ls.ev (some 24) (Ev.ptrNone (show Oper.op _ = Op.binOp BinOp.eql 32 (Operand.tmp 23) (Operand.const (Value.pointer none)) 32 from rfl) (by rfl) (by rfl) Try.underlying32) (by rfl) (by rfl) ?_
    refine Ls.ev (some 25) (Ev.move (show Oper.op _ = Op.move (Operand.tmp 24) from rfl) (by rfl)) (by rfl) (by rfl) ?_
    refine Ent.known 25 true (by rfl) (by exact (rfl)) ?_
    refine Ls.ev (some 26) (Ev.move (show Oper.op _ = Op.move (Operand.tmp 4) from rfl) (by rfl)) (by rfl) (by rfl) ?_
    refine Ls.ev (some 27) (Ev.eql (show Oper.op _ = Op.binOp BinOp.eql 26 (Operand.tmp 26) (Operand.const (Value.int IntKind.i64 61)) 26 from rfl) (by rfl) (by rfl)) (by rfl) (by rfl) ?_
    refine Ls.ev (some 28) (Ev.pickT (show Oper.op _ = Op.pick (Operand.tmp 25) (Operand.tmp 27) (Operand.const (Value.bool false)) from rfl) (by rfl) (by rfl)) (by rfl) (by rfl) ?_
    refine Ls.ev (some 2) (Ev.assign (show Oper.op _ = Op.assign (Operand.tmp 28) from rfl) (by rfl)) (by rfl) (by rfl) ?_
    refine Ls.nil ?_
    skip
    refine Cd.ret ?_
    refine Ent.ret (()) (trivial) (Res.tmp (by rfl) (by rfl)) ?_ [] (by rfl) ?_
    · rfl
    · rfl
  | some l =>
    rw [hp] at hrp
    obtain ⟨he, hb⟩ := parseT_form hp
    clear hp
    have hg := good_of he
    have hpos := hg.pos
    have hl84 := hg.le
    obtain ⟨e0, h0⟩ := get_of_lt hpos
    obtain ⟨e1, h1⟩ := get_of_lt (show l.length - 1 < l.length by omega)
    subst hb
    skip
    refine Ls.does (some 13) (Does.readN (show Oper.op _ = Op.call { callee := Callee.value (Operand.func 13), args := #[Operand.tmp 12], argTypes := #[25] } from rfl) Try.func13 (by kernel_rfl) (by kernel_rfl) (parse_tab he q.1 q.2) (by rfl) (by rfl) ⟨ReadsIn.row 0 (by rfl), trivial⟩ (fun _ => by rfl)) (by rfl) (by rfl) ?_
    intro t htc
    refine Ls.ev (some 9) (Ev.move (show Oper.op _ = Op.move (Operand.tmp 13) from rfl) (by rfl)) (by rfl) (by rfl) ?_
    refine Ls.ev (some 14) (Ev.extract (show Oper.op _ = Op.extract (Operand.tmp 9) 0 from rfl) (by rfl) (by rfl)) (by rfl) (by rfl) ?_
    refine Ls.ev (some 15) (Ev.extract (show Oper.op _ = Op.extract (Operand.tmp 9) 1 from rfl) (by rfl) (by rfl)) (by rfl) (by rfl) ?_
    refine Ls.ev (some 3) (Ev.assign (show Oper.op _ = Op.assign (Operand.tmp 14) from rfl) (by rfl)) (by rfl) (by rfl) ?_
    refine Ls.ev (some 4) (Ev.assign (show Oper.op _ = Op.assign (Operand.tmp 15) from rfl) (by rfl)) (by rfl) (by rfl) ?_
    refine Ls.nil ?_
    refine Cd.seq ?_
    refine Cd.region ?_
    refine Ls.ev (some 17) (Ev.move (show Oper.op _ = Op.move (Operand.tmp 0) from rfl) (by rfl)) (by rfl) (by rfl) ?_
    refine Ls.does (some 18) (Does.readN (show Oper.op _ = Op.call { callee := Callee.value (Operand.func 14), args := #[Operand.tmp 17], argTypes := #[25] } from rfl) Try.func14 (by kernel_rfl) (by kernel_rfl) (refParse_sl A c (tabL l) hc hm) (by rfl) (by rfl) ⟨ReadsIn.rd 5 (by rfl), trivial⟩ (fun _ => by rfl)) (by rfl) (by rfl) ?_
    rw [hrp]
    intro p _
    refine Ent.pick [0, 1, 2, 3, 4] (by rfl) (Ent.see 0 (by rfl) (Ent.see 2 (by rfl) (Ent.see 3 (by rfl) (Ent.see 4 (by rfl) ?_))))
    rw [Option.getD_some]
    refine Ent.rdSome 0 (by rfl) hpos (fun ad had => ?_)
    rw [had]
    refine Ls.ev (some 16) (Ev.move (show Oper.op _ = Op.move (Operand.tmp 18) from rfl) (by rfl)) (by rfl) (by rfl) ?_
    refine Ls.ev (some 19) (Ev.extract (show Oper.op _ = Op.extract (Operand.tmp 16) 0 from rfl) (by rfl) (by rfl)) (by rfl) (by rfl) ?_
    refine Ls.ev (some 20) (Ev.extract (show Oper.op _ = Op.extract (Operand.tmp 16) 1 from rfl) (by rfl) (by rfl)) (by rfl) (by rfl) ?_
    refine Ls.ev (some 5) (Ev.assign (show Oper.op _ = Op.assign (Operand.tmp 19) from rfl) (by rfl)) (by rfl) (by rfl) ?_
    refine Ls.ev (some 6) (Ev.assign (show Oper.op _ = Op.assign (Operand.tmp 20) from rfl) (by rfl)) (by rfl) (by rfl) ?_
    refine Ls.nil ?_
    refine Cd.seq ?_
    refine Cd.seq ?_
    refine Cd.region ?_
    refine Ls.ev (some 21) (Ev.move (show Oper.op _ = Op.move (Operand.tmp 6) from rfl) (by rfl)) (by rfl) (by rfl) ?_
    refine Ls.ev (some 22) (Ev.not (show Oper.op _ = Op.unOp UnOp.not 4 (Operand.tmp 21) from rfl) (by rfl)) (by rfl) (by rfl) ?_
    refine Ls.nil ?_
    refine Cd.cond_false (by rfl) (rfl) ?_
    refine Cd.skip ?_
    refine Cd.seq ?_
    refine Cd.draw [] (by kernel_rfl) ?_
    refine Rg.ev 0 (by rfl) (fun _ h => h) (Ev.move (show Oper.op _ = Op.move (Operand.tmp 3) from rfl) (by rfl)) (by rfl) (some 29) (by rfl) (by kernel_rfl) (by kernel_rfl) (by kernel_rfl) (by kernel_rfl) ?_
    refine Rg.ev 1 (by rfl) (fun _ h => h) (Ev.ptrSome (show Oper.op _ = Op.binOp BinOp.neq 32 (Operand.tmp 29) (Operand.const (Value.pointer none)) 32 from rfl) (by rfl) (by rfl) Try.underlying32) (by rfl) (some 30) (by rfl) (by kernel_rfl) (by kernel_rfl) (by kernel_rfl) (by kernel_rfl) ?_
    refine Rg.ev 2 (by rfl) (fun _ h => h) (Ev.move (show Oper.op _ = Op.move (Operand.tmp 30) from rfl) (by rfl)) (by rfl) (some 31) (by rfl) (by kernel_rfl) (by kernel_rfl) (by kernel_rfl) (by kernel_rfl) ?_
    refine Ent.known 31 true (by rfl) (by exact (rfl)) ?_
    refine Rg.ev 3 (by rfl) (fun _ h => h) (Ev.move (show Oper.op _ = Op.move (Operand.tmp 4) from rfl) (by rfl)) (by rfl) (some 32) (by rfl) (by kernel_rfl) (by kernel_rfl) (by kernel_rfl) (by kernel_rfl) ?_
    refine Rg.ev 4 (by rfl) (fun _ h => h) (Ev.eql (show Oper.op _ = Op.binOp BinOp.eql 26 (Operand.tmp 32) (Operand.const (Value.int IntKind.i64 0)) 26 from rfl) (by rfl) (by rfl)) (by rfl) (some 33) (by rfl) (by kernel_rfl) (by kernel_rfl) (by kernel_rfl) (by kernel_rfl) ?_
    refine Rg.ev 5 (by rfl) (fun _ h => h) (Ev.pickT (show Oper.op _ = Op.pick (Operand.tmp 31) (Operand.tmp 33) (Operand.const (Value.bool false)) from rfl) (by rfl) (by rfl)) (by rfl) (some 34) (by rfl) (by kernel_rfl) (by kernel_rfl) (by kernel_rfl) (by kernel_rfl) ?_
    refine Rg.ev 6 (by rfl) (fun _ h => h) (Ev.move (show Oper.op _ = Op.move (Operand.tmp 34) from rfl) (by rfl)) (by rfl) (some 35) (by rfl) (by kernel_rfl) (by kernel_rfl) (by kernel_rfl) (by kernel_rfl) ?_
    skip
    refine Ent.known 35 true (by rfl) (by exact (rfl)) ?_
    refine Rg.ev 7 (by rfl) (fun _ h => h) (Ev.move (show Oper.op _ = Op.move (Operand.tmp 3) from rfl) (by rfl)) (by rfl) (some 36) (by rfl) (by kernel_rfl) (by kernel_rfl) (by kernel_rfl) (by kernel_rfl) ?_
    refine Rg.ev 9 (by rfl) (fun _ h => h) (Ev.move (show Oper.op _ = Op.move (Operand.tmp 5) from rfl) (by rfl)) (by rfl) (some 38) (by rfl) (by kernel_rfl) (by kernel_rfl) (by kernel_rfl) (by kernel_rfl) ?_
    skip
    refine Rg.does 8 (by rfl) (by kernel_rfl) (Does.readN (show Oper.op _ = Op.call { callee := Callee.value (Operand.func 16), args := #[Operand.tmp 36], argTypes := #[32] } from rfl) Try.func16 (by kernel_rfl) (by kernel_rfl) (all_tab he t 0 htc) (by rfl) (by rfl) ⟨blkIn 1 (by rfl), ReadsIn.rd 2 (by rfl), ReadsIn.rd 4 (by rfl), trivial⟩ (fun _ => by rfl)) (by rfl) (some 37) (by rfl) (fun _ _ h => h.tail_) ?_
    intro q2 _
    skip
    refine Rg.does 10 (by rfl) (by kernel_rfl) (Does.read (show Oper.op _ = Op.call { callee := Callee.value (Operand.func 15), args := #[Operand.tmp 37, Operand.tmp 38], argTypes := #[22, 22] } from rfl) Try.func15 (by kernel_rfl) (by kernel_rfl) (refSame_sl q2.1 (some ad) q2.2 p.2 l l (by omega)) (by rfl) (by rfl) ⟨ReadsIn.row 0 (by rfl), ReadsIn.rd 1 (by rfl), trivial⟩) (by rfl) (some 39) (by rfl) (by exact fun _ _ h => h) ?_
    rintro _ -
    refine Rg.ev 11 (by rfl) (fun _ h => h) (Ev.pickT (show Oper.op _ = Op.pick (Operand.tmp 35) (Operand.tmp 39) (Operand.const (Value.bool false)) from rfl) (by rfl) (by rfl)) (by rfl) (some 40) (by rfl) (by kernel_rfl) (by kernel_rfl) (by kernel_rfl) (by kernel_rfl) ?_
    refine Rg.ev 12 (by rfl) (fun _ h => h) (Ev.move (show Oper.op _ = Op.move (Operand.tmp 40) from rfl) (by rfl)) (by rfl) (some 41) (by rfl) (by kernel_rfl) (by kernel_rfl) (by kernel_rfl) (by kernel_rfl) ?_
    refine Ent.known 41 true (by rfl) (by exact (by rw [decide_eq_true rfl])) ?_
    refine Rg.ev 13 (by rfl) (fun _ h => h) (Ev.move (show Oper.op _ = Op.move (Operand.tmp 3) from rfl) (by rfl)) (by rfl) (some 42) (by rfl) (by kernel_rfl) (by kernel_rfl) (by kernel_rfl) (by kernel_rfl) ?_
    refine Rg.ev 15 (by rfl) (fun _ h => h) (Ev.move (show Oper.op _ = Op.move (Operand.tmp 5) from rfl) (by rfl)) (by rfl) (some 44) (by rfl) (by kernel_rfl) (by kernel_rfl) (by kernel_rfl) (by kernel_rfl) ?_
    refine Rg.ev 16 (by rfl) (fun _ h => h) (Ev.len (show Oper.op _ = Op.call { callee := Callee.builtin Builtin.len, args := #[Operand.tmp 44], argTypes := #[22] } from rfl) (by rfl) Try.underlying22) (by rfl) (some 45) (by rfl) (by kernel_rfl) (by kernel_rfl) (by kernel_rfl) (by kernel_rfl) ?_
    skip
    refine Rg.does 14 (by rfl) (by kernel_rfl) (Does.read (show Oper.op _ = Op.call { callee := Callee.value (Operand.func 17), args := #[Operand.tmp 42], argTypes := #[32] } from rfl) Try.func17 (by kernel_rfl) (by kernel_rfl) (len_sl t.g t.bA (tabL l).length t.bc t.xA (bksE l).length t.xc t.fA (filL l).length t.fc l.length 0) (by rfl) (by rfl) ⟨blkIn 2 (by rfl), trivial⟩) (by rfl) (some 43) (by rfl) (by exact fun _ _ h => h) ?_
    rintro _ -
    refine Rg.ev 17 (by rfl) (fun _ h => h) (Ev.eql (show Oper.op _ = Op.binOp BinOp.eql 3 (Operand.tmp 43) (Operand.tmp 45) 3 from rfl) (by rfl) (by rfl)) (by rfl) (some 46) (by rfl) (by kernel_rfl) (by kernel_rfl) (by kernel_rfl) (by kernel_rfl) ?_
    refine Rg.ev 18 (by rfl) (fun _ h => h) (Ev.pickT (show Oper.op _ = Op.pick (Operand.tmp 41) (Operand.tmp 46) (Operand.const (Value.bool false)) from rfl) (by rfl) (by rfl)) (by rfl) (some 47) (by rfl) (by kernel_rfl) (by kernel_rfl) (by kernel_rfl) (by kernel_rfl) ?_
    refine Rg.ev 19 (by rfl) (fun _ h => h) (Ev.move (show Oper.op _ = Op.move (Operand.tmp 47) from rfl) (by rfl)) (by rfl) (some 48) (by rfl) (by kernel_rfl) (by kernel_rfl) (by kernel_rfl) (by kernel_rfl) ?_
    skip
    refine Ent.known 48 true (by rfl) (by exact (by rw [decide_eq_true rfl])) ?_
    refine Rg.ev 20 (by rfl) (fun _ h => h) (Ev.move (show Oper.op _ = Op.move (Operand.tmp 3) from rfl) (by rfl)) (by rfl) (some 49) (by rfl) (by kernel_rfl) (by kernel_rfl) (by kernel_rfl) (by kernel_rfl) ?_
    refine Rg.ev 22 (by rfl) (fun _ h => h) (Ev.move (show Oper.op _ = Op.move (Operand.tmp 5) from rfl) (by rfl)) (by rfl) (some 51) (by rfl) (by kernel_rfl) (by kernel_rfl) (by kernel_rfl) (by kernel_rfl) ?_
    refine Rg.ev 23 (by rfl) (fun _ h => h) (Ev.indexAt (k := 0) (sz := 4) (show Oper.op _ = Op.indexAddr 22 (Operand.tmp 51) (Operand.const (Value.int IntKind.i64 0)) from rfl) (by rfl) (by rfl) Try.underlying22 (by kernel_rfl) (by omega)) (by rfl) (some 52) (by rfl) (by kernel_rfl) (by kernel_rfl) (by kernel_rfl) (by kernel_rfl) ?_
    refine Rg.ev 24 (by rfl) (fun _ h => h) (Ev.fieldAddrE0 (k := 0) (show Oper.op _ = Op.fieldAddr 42 (Operand.tmp 52) 0 from rfl) (by rfl) (by kernel_rfl)) (by rfl) (some 53) (by rfl) (by kernel_rfl) (by kernel_rfl) (by kernel_rfl) (by kernel_rfl) ?_
    refine Rg.ev 25 (by rfl) (fun _ h => h) (Ev.loadElF (show Oper.op _ = Op.load 9 (Operand.tmp 53) from rfl) (by rfl) (ReadsIn.rd 1 (by rfl)) (by kernel_rfl) (by intro _; rfl) (by assumption) (by rfl)) (by rfl) (some 54) (by rfl) (by kernel_rfl) (by kernel_rfl) (by kernel_rfl) (by kernel_rfl) ?_
    skip
    refine Rg.does 21 (by rfl) (by kernel_rfl) (Does.read (show Oper.op _ = Op.call { callee := Callee.value (Operand.func 18), args := #[Operand.tmp 49], argTypes := #[32] } from rfl) Try.func18 (by kernel_rfl) (by kernel_rfl) (first_tab he t 0 e0 h0) (by rfl) (by rfl) ⟨blkIn 2 (by rfl), ReadsIn.rd 3 (by rfl), trivial⟩) (by rfl) (some 50) (by rfl) (by exact fun _ _ h => h) ?_
    rintro _ -
    refine Rg.ev 26 (by rfl) (fun _ h => h) (Ev.eqlS (show Oper.op _ = Op.binOp BinOp.eql 9 (Operand.tmp 50) (Operand.tmp 54) 9 from rfl) (by rfl) (by rfl)) (by rfl) (some 55) (by rfl) (by kernel_rfl) (by kernel_rfl) (by kernel_rfl) (by kernel_rfl) ?_
    refine Rg.ev 27 (by rfl) (fun _ h => h) (Ev.pickT (show Oper.op _ = Op.pick (Operand.tmp 48) (Operand.tmp 55) (Operand.const (Value.bool false)) from rfl) (by rfl) (by rfl)) (by rfl) (some 56) (by rfl) (by kernel_rfl) (by kernel_rfl) (by kernel_rfl) (by kernel_rfl) ?_
    refine Rg.ev 28 (by rfl) (fun _ h => h) (Ev.move (show Oper.op _ = Op.move (Operand.tmp 56) from rfl) (by rfl)) (by rfl) (some 57) (by rfl) (by kernel_rfl) (by kernel_rfl) (by kernel_rfl) (by kernel_rfl) ?_
    refine Ent.known 57 true (by rfl) (by exact (by rw [decide_eq_true rfl])) ?_
    refine Rg.ev 29 (by rfl) (fun _ h => h) (Ev.move (show Oper.op _ = Op.move (Operand.tmp 3) from rfl) (by rfl)) (by rfl) (some 58) (by rfl) (by kernel_rfl) (by kernel_rfl) (by kernel_rfl) (by kernel_rfl) ?_
    refine Rg.ev 31 (by rfl) (fun _ h => h) (Ev.move (show Oper.op _ = Op.move (Operand.tmp 5) from rfl) (by rfl)) (by rfl) (some 60) (by rfl) (by kernel_rfl) (by kernel_rfl) (by kernel_rfl) (by kernel_rfl) ?_
    refine Rg.ev 32 (by rfl) (fun _ h => h) (Ev.move (show Oper.op _ = Op.move (Operand.tmp 5) from rfl) (by rfl)) (by rfl) (some 61) (by rfl) (by kernel_rfl) (by kernel_rfl) (by kernel_rfl) (by kernel_rfl) ?_
    refine Rg.ev 33 (by rfl) (fun _ h => h) (Ev.len (show Oper.op _ = Op.call { callee := Callee.builtin Builtin.len, args := #[Operand.tmp 61], argTypes := #[22] } from rfl) (by rfl) Try.underlying22) (by rfl) (some 62) (by rfl) (by kernel_rfl) (by kernel_rfl) (by kernel_rfl) (by kernel_rfl) ?_
    refine Rg.ev 34 (by rfl) (fun _ h => h) (Ev.subN (b := 1) (show Oper.op _ = Op.binOp BinOp.sub 3 (Operand.tmp 62) (Operand.const (Value.int IntKind.i64 1)) 3 from rfl) (by rfl) (by rfl) (by omega)) (by rfl) (some 63) (by rfl) (by kernel_rfl) (by kernel_rfl) (by kernel_rfl) (by kernel_rfl) ?_
    refine Rg.ev 35 (by rfl) (fun _ h => h) (Ev.indexAt (sz := 4) (show Oper.op _ = Op.indexAddr 22 (Operand.tmp 60) (Operand.tmp 63) from rfl) (by rfl) (by rfl) Try.underlying22 (by kernel_rfl) (by omega)) (by rfl) (some 64) (by rfl) (by kernel_rfl) (by kernel_rfl) (by kernel_rfl) (by kernel_rfl) ?_
    refine Rg.ev 36 (by rfl) (fun _ h => h) (Ev.fieldAddrE0 (k := 0) (show Oper.op _ = Op.fieldAddr 42 (Operand.tmp 64) 0 from rfl) (by rfl) (by kernel_rfl)) (by rfl) (some 65) (by rfl) (by kernel_rfl) (by kernel_rfl) (by kernel_rfl) (by kernel_rfl) ?_
    refine Rg.ev 37 (by rfl) (fun _ h => h) (Ev.loadElF (show Oper.op _ = Op.load 9 (Operand.tmp 65) from rfl) (by rfl) (ReadsIn.rd 1 (by rfl)) (by kernel_rfl) (by intro _; rfl) (by assumption) (by rfl)) (by rfl) (some 66) (by rfl) (by kernel_rfl) (by kernel_rfl) (by kernel_rfl) (by kernel_rfl) ?_
    skip
    refine Rg.does 30 (by rfl) (by kernel_rfl) (Does.read (show Oper.op _ = Op.call { callee := Callee.value (Operand.func 19), args := #[Operand.tmp 58], argTypes := #[32] } from rfl) Try.func19 (by kernel_rfl) (by kernel_rfl) (last_tab he t 0 e1 h1) (by rfl) (by rfl) ⟨blkIn 2 (by rfl), ReadsIn.rd 3 (by rfl), trivial⟩) (by rfl) (some 59) (by rfl) (by exact fun _ _ h => h) ?_
    rintro _ -
    refine Rg.ev 38 (by rfl) (fun _ h => h) (Ev.eqlS (show Oper.op _ = Op.binOp BinOp.eql 9 (Operand.tmp 59) (Operand.tmp 66) 9 from rfl) (by rfl) (by rfl)) (by rfl) (some 67) (by rfl) (by kernel_rfl) (by kernel_rfl) (by kernel_rfl) (by kernel_rfl) ?_
    refine Rg.ev 39 (by rfl) (fun _ h => h) (Ev.pickT (show Oper.op _ = Op.pick (Operand.tmp 57) (Operand.tmp 67) (Operand.const (Value.bool false)) from rfl) (by rfl) (by rfl)) (by rfl) (some 68) (by rfl) (by kernel_rfl) (by kernel_rfl) (by kernel_rfl) (by kernel_rfl) ?_
    refine Rg.ev 40 (by rfl) (fun _ h => h) (Ev.assign (show Oper.op _ = Op.assign (Operand.tmp 68) from rfl) (by rfl)) (by rfl) (some 2) (by rfl) (by kernel_rfl) (by kernel_rfl) (by kernel_rfl) (by kernel_rfl) ?_
    refine Rg.done (by kernel_rfl) ?_ _
    refine Cd.ret ?_
    refine Ent.ret (()) (trivial) (Res.tmp (by rfl) (by rfl)) ?_ [] (by rfl) ?_
    · rw [decide_eq_true rfl]
    · rfl
set_option maxRecDepth 100000 in
theorem parses_vals (W : World) (args : Array Value) (hv : Vals Try.prog W [25] args.toList) (hs : Smalls Try.prog [25] args.toList) :
    Calls Try.prog 4 args W fun e W' => e = .returned (.bool true) ∧ Below W.heap.size W W' := by
  obtain ⟨v0, r0, e0, h0, rfl⟩ := hv
  obtain rfl : args = #[v0] := by cases args; simp_all
  obtain ⟨A, n, c, l, rfl, hr, hn, hc⟩ := val_bytes h0
  obtain ⟨s1, _⟩ := hs
  have hs := s1.1 _ Try.underlying25 A n c rfl
  have hlen := hr.len_
  subst hlen
  exact Fn.law (parses_fn W A c l hr hn (by omega))

set_option maxRecDepth 100000 in
theorem parses_lifted (os : Os) (started : os.Started) (H : Type) (enc : TypeId × Value → H) (F : Stop.Interp) :
    ReturnsInHanded {} Try.checked os 4 .any ((Rows.OpenSpec.upto Rows.sstParsesSpec).pre6 enc Try.prog Try.f4 Rows.sstParsesUptoRow.domain false) (((Rows.OpenSpec.upto Rows.sstParsesSpec).at F).post enc Try.prog Try.f4 false true false false) :=
  lift_upto (C := Try.checked) #[25] (by kernel_rfl) (by kernel_rfl) started (by kernel_rfl) Try.func4
    (OpenSpec.witness (enc := enc) (C := Try.checked) (s := Rows.OpenSpec.upto Rows.sstParsesSpec) (k := Rows.uptoSmall) rfl false ⟨#[], #[.slice none 0 0], []⟩ 8 (by kernel_rfl) (by kernel_rfl) (by kernel_rfl)
      (x := ([.nil], [], [])) (by kernel_rfl) rfl (by kernel_rfl))
    Try.params4 (by kernel_rfl) rfl rfl Try.underlying4 (fun ds hl => match ds, hl with | [_], _ => rfl) (fun W args hv hs => parses_vals W args hv hs)

theorem parses_holds : Rows.SstParsesUptoSaid :=
  OpenClaim.holds_of_cond 4 Try.f4 rfl rfl rfl rfl rfl rfl rfl ⟨rfl, rfl, rfl, rfl, rfl⟩ rfl rfl rfl rfl rfl (by kernel_rfl) Try.func4 (by kernel_rfl)
    (of_decide_eq_true (by kernel_rfl)) (by unfold Func.isWrapper; rw [if_neg (of_decide_eq_false (by kernel_rfl))]; exact ⟨rfl, rfl⟩)
    (fun os started H enc _ F => parses_lifted os started H enc F)
end Go.Proofs.Ytnhcfhamcakfkaa
