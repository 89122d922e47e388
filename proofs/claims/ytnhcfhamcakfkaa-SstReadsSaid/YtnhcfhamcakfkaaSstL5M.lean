/- SstReads: a table that is built is read back, and every question is answered as by a plain list in order. No condition beyond the statement's own. -/
import Derived.Test.YtnhcfhamcakfkaaMSstL5g
import Derived.Test.YtnhcfhamcakfkaaChecked
import Derived.Test.YtnhcfhamcakfkaaRows
namespace Go.Proofs.Ytnhcfhamcakfkaa
open Go.RowKit
set_option maxHeartbeats 1000000 in
theorem reads_fn (W : World) (A : Option Addr) (c : Nat) (l : List Ety) (key : ByteArray) (seq : Int) (hr : Reads W W.heap.size 4 A l.length (l.flatMap Ety.enc)) (hn : l.length ≤ 8796093022207) (hk : key.size ≤ maxLen) :
    Fn Try.prog 6 #[.slice A l.length c, .string key, .int .i64 seq] [argc W] Unit (fun _ => .bool true) (fun _ => []) (fun _ => True) := by
  have hgood := goodF_good l
  have hl84 := goodF_len l
  have hsrt := goodF_srt l
  refine Fn.enterM Try.func6 rfl Try.ntmps6 (by rfl) ?_
  intro w0
  refine Ent.arg 0 (by rfl) hr ?_
  skip
  refine Cd.seq ?_
  refine Cd.region ?_
  refine Ls.does (some 3) (Does.box (show Oper.op _ = Op.box 22 (Operand.tmp 0) from rfl) (by rfl)) (by rfl) (by rfl) ?_
  intro g1 _
  refine Ls.does (some 6) (Does.alloc (cs := [.bool false]) (show Oper.op _ = Op.alloc 4 from rfl) (ZeroIs.mk (.bool false) (by kernel_rfl) (by rfl))) (by rfl) (by rfl) ?_
  intro g2 _
  refine Ls.nil ?_
  refine Cd.seq ?_
  refine Cd.seq ?_
  refine Cd.region ?_
  refine Ls.does (some 21) (Does.read (show Oper.op _ = Op.call { callee := Callee.value (Operand.func 8), args := #[], argTypes := #[] } from rfl) Try.func8 (by kernel_rfl) (by kernel_rfl) (awake_sl) (by rfl) (by rfl) trivial) (by rfl) (by rfl) ?_
  rintro _ -
  refine Ls.ev (some 22) (Ev.not (show Oper.op _ = Op.unOp UnOp.not 4 (Operand.tmp 21) from rfl) (by rfl)) (by rfl) (by rfl) ?_
  refine Ls.nil ?_
  refine Cd.cond_false (by rfl) (rfl) ?_
  refine Cd.skip ?_
  refine Cd.seq ?_
  refine Cd.region ?_
  refine Ls.ev (some 23) (Ev.load 1 (show Oper.op _ = Op.load 22 (Operand.tmp 3) from rfl) (by rfl) (by rfl) (by kernel_rfl) (by rfl)) (by rfl) (by rfl) ?_
  refine Ls.does (some 24) (Does.readN (show Oper.op _ = Op.call { callee := Callee.value (Operand.func 20), args := #[Operand.tmp 23], argTypes := #[22] } from rfl) Try.func20 (by kernel_rfl) (by kernel_rfl) (goodL_sl A c l hn) (by rfl) (by rfl) ⟨ReadsIn.rd 2 (by rfl), trivial⟩ (fun _ => by rfl)) (by rfl) (by rfl) ?_
  revert hgood hl84 hsrt
  generalize goodF [] l = m
  intro hgood hl84 hsrt p hpc
  refine Ls.does none (Does.store 2 (show Oper.op _ = Op.store 22 (Operand.tmp 3) (Operand.tmp 24) from rfl) (by rfl) (by rfl) (by rfl) (by kernel_rfl) (by rfl) (by kernel_rfl) (by rfl)) (by rfl) (by rfl) ?_
  intro _ _
  refine Ls.nil ?_
  refine Cd.seq ?_
  refine Cd.seq ?_
  refine Cd.region ?_
  refine Ls.ev (some 25) (Ev.load 2 (show Oper.op _ = Op.load 22 (Operand.tmp 3) from rfl) (by rfl) (by rfl) (by kernel_rfl) (by rfl)) (by rfl) (by rfl) ?_
  refine Ls.ev (some 26) (Ev.len (show Oper.op _ = Op.call { callee := Callee.builtin Builtin.len, args := #[Operand.tmp 25], argTypes := #[22] } from rfl) (by rfl) Try.underlying22) (by rfl) (by rfl) ?_
  refine Ls.ev (some 27) (Ev.eql (show Oper.op _ = Op.binOp BinOp.eql 3 (Operand.tmp 26) (Operand.const (Value.int IntKind.i64 0)) 3 from rfl) (by rfl) (by rfl)) (by rfl) (by rfl) ?_
  refine Ls.nil ?_
  refine Cd.cond _ (by rfl) (fun h0 => ?_) (fun h0 => ?_)
  · skip
    refine Cd.seq ?_
    refine Cd.region ?_
    refine Ls.does none (Does.store 1 (show Oper.op _ = Op.store 4 (Operand.tmp 6) (Operand.const (Value.bool true)) from rfl) (by rfl) (by rfl) (by rfl) (by kernel_rfl) (by rfl) (by kernel_rfl) (by rfl)) (by rfl) (by rfl) ?_
    intro _ _
    refine Ls.nil ?_
    refine Cd.ret ?_
    refine Ent.retM [] (by rfl) (()) (trivial) (Res.cell1 1 (by rfl) (by rfl) (by rfl) (by kernel_rfl) (by rfl)) ?_ [] (by rfl) ?_
    · rfl
    · rfl
  · skip
    have hpos : 0 < m.length := by have := of_decide_eq_false h0; omega
    have he := hgood (fun e => by rw [e] at hpos; exact absurd hpos (by decide))
    have hg := good_of he
    refine Cd.skip ?_
    refine Cd.seq ?_
    refine Cd.region ?_
    refine Ls.ev (some 29) (Ev.load 2 (show Oper.op _ = Op.load 22 (Operand.tmp 3) from rfl) (by rfl) (by rfl) (by kernel_rfl) (by rfl)) (by rfl) (by rfl) ?_
    refine Ls.does (some 30) (Does.readN (show Oper.op _ = Op.call { callee := Callee.value (Operand.func 10), args := #[Operand.tmp 29], argTypes := #[22] } from rfl) Try.func10 (by kernel_rfl) (by kernel_rfl) (build_sl p.1 p.2 m hpc he) (by rfl) (by rfl) ⟨ReadsIn.row 0 (by rfl), trivial⟩ (fun _ => by rfl)) (by rfl) (by rfl) ?_
    intro q _
    refine Ls.ev (some 28) (Ev.move (show Oper.op _ = Op.move (Operand.tmp 30) from rfl) (by rfl)) (by rfl) (by rfl) ?_
    refine Ls.ev (some 31) (Ev.extract (show Oper.op _ = Op.extract (Operand.tmp 28) 0 from rfl) (by rfl) (by rfl)) (by rfl) (by rfl) ?_
    refine Ls.ev (some 32) (Ev.extract (show Oper.op _ = Op.extract (Operand.tmp 28) 1 from rfl) (by rfl) (by rfl)) (by rfl) (by rfl) ?_
    refine Ls.ev (some 7) (Ev.assign (show Oper.op _ = Op.assign (Operand.tmp 31) from rfl) (by rfl)) (by rfl) (by rfl) ?_
    refine Ls.ev (some 8) (Ev.assign (show Oper.op _ = Op.assign (Operand.tmp 32) from rfl) (by rfl)) (by rfl) (by rfl) ?_
    refine Ls.nil ?_
    refine Cd.seq ?_
    refine Cd.region ?_
    refine Ls.ev (some 34) (Ev.move (show Oper.op _ = Op.move (Operand.tmp 7) from rfl) (by rfl)) (by rfl) (by rfl) ?_
    refine Ls.does (some 35) (Does.readN (show Oper.op _ = Op.call { callee := Callee.value (Operand.func 13), args := #[Operand.tmp 34], argTypes := #[25] } from rfl) Try.func13 (by kernel_rfl) (by kernel_rfl) (parse_tab he q.1 q.2) (by rfl) (by rfl) ⟨ReadsIn.row 0 (by rfl), trivial⟩ (fun _ => by rfl)) (by rfl) (by rfl) ?_
    intro t htc
    refine Ent.pick [0, 1, 2, 3, 5, 6, 7] (by rfl) (Ent.see 1 (by rfl) (Ent.see 2 (by rfl) (Ent.see 3 (by rfl) (Ent.see 4 (by rfl) ?_))))
    refine Ent.rdSome 4 (by rfl) hpos (fun ad had => ?_)
    rw [had]
    refine Ls.ev (some 33) (Ev.move (show Oper.op _ = Op.move (Operand.tmp 35) from rfl) (by rfl)) (by rfl) (by rfl) ?_
    refine Ls.ev (some 36) (Ev.extract (show Oper.op _ = Op.extract (Operand.tmp 33) 0 from rfl) (by rfl) (by rfl)) (by rfl) (by rfl) ?_
    refine Ls.ev (some 37) (Ev.extract (show Oper.op _ = Op.extract (Operand.tmp 33) 1 from rfl) (by rfl) (by rfl)) (by rfl) (by rfl) ?_
    refine Ls.ev (some 9) (Ev.assign (show Oper.op _ = Op.assign (Operand.tmp 36) from rfl) (by rfl)) (by rfl) (by rfl) ?_
    refine Ls.ev (some 10) (Ev.assign (show Oper.op _ = Op.assign (Operand.tmp 37) from rfl) (by rfl)) (by rfl) (by rfl) ?_
    refine Ls.nil ?_
    refine Cd.seq ?_
    refine Cd.seq ?_
    refine Cd.draw [] (by kernel_rfl) ?_
    refine Rg.ev 0 (by rfl) (fun _ h => h) (Ev.move (show Oper.op _ = Op.move (Operand.tmp 8) from rfl) (by rfl)) (by rfl) (some 38) (by rfl) (by kernel_rfl) (by kernel_rfl) (by kernel_rfl) (by kernel_rfl) ?_
    refine Rg.ev 1 (by rfl) (fun _ h => h) (Ev.neq (show Oper.op _ = Op.binOp BinOp.neq 26 (Operand.tmp 38) (Operand.const (Value.int IntKind.i64 0)) 26 from rfl) (by rfl) (by rfl)) (by rfl) (some 39) (by rfl) (by kernel_rfl) (by kernel_rfl) (by kernel_rfl) (by kernel_rfl) ?_
    refine Rg.ev 2 (by rfl) (fun _ h => h) (Ev.move (show Oper.op _ = Op.move (Operand.tmp 39) from rfl) (by rfl)) (by rfl) (some 40) (by rfl) (by kernel_rfl) (by kernel_rfl) (by kernel_rfl) (by kernel_rfl) ?_
    refine Ent.known 40 false (by rfl) (by exact (rfl)) ?_
    refine Rg.ev 3 (by rfl) (fun _ h => h) (Ev.move (show Oper.op _ = Op.move (Operand.tmp 10) from rfl) (by rfl)) (by rfl) (some 41) (by rfl) (by kernel_rfl) (by kernel_rfl) (by kernel_rfl) (by kernel_rfl) ?_
    refine Rg.ev 4 (by rfl) (fun _ h => h) (Ev.neq (show Oper.op _ = Op.binOp BinOp.neq 26 (Operand.tmp 41) (Operand.const (Value.int IntKind.i64 0)) 26 from rfl) (by rfl) (by rfl)) (by rfl) (some 42) (by rfl) (by kernel_rfl) (by kernel_rfl) (by kernel_rfl) (by kernel_rfl) ?_
    refine Rg.ev 5 (by rfl) (fun _ h => h) (Ev.pickF (show Oper.op _ = Op.pick (Operand.tmp 40) (Operand.const (Value.bool true)) (Operand.tmp 42) from rfl) (by rfl) (by rfl)) (by rfl) (some 43) (by rfl) (by kernel_rfl) (by kernel_rfl) (by kernel_rfl) (by kernel_rfl) ?_
    refine Rg.ev 6 (by rfl) (fun _ h => h) (Ev.move (show Oper.op _ = Op.move (Operand.tmp 43) from rfl) (by rfl)) (by rfl) (some 44) (by rfl) (by kernel_rfl) (by kernel_rfl) (by kernel_rfl) (by kernel_rfl) ?_
    skip
    refine Ent.known 44 false (by rfl) (by exact (rfl)) ?_
    refine Rg.ev 7 (by rfl) (fun _ h => h) (Ev.move (show Oper.op _ = Op.move (Operand.tmp 9) from rfl) (by rfl)) (by rfl) (some 45) (by rfl) (by kernel_rfl) (by kernel_rfl) (by kernel_rfl) (by kernel_rfl) ?_
    refine Rg.ev 8 (by rfl) (fun _ h => h) (Ev.ptrNil (show Oper.op _ = Op.binOp BinOp.eql 32 (Operand.tmp 45) (Operand.const (Value.pointer none)) 32 from rfl) (by rfl) (by rfl) Try.underlying32) (by rfl) (some 46) (by rfl) (by kernel_rfl) (by kernel_rfl) (by kernel_rfl) (by kernel_rfl) ?_
    refine Rg.ev 9 (by rfl) (fun _ h => h) (Ev.pickF (show Oper.op _ = Op.pick (Operand.tmp 44) (Operand.const (Value.bool true)) (Operand.tmp 46) from rfl) (by rfl) (by rfl)) (by rfl) (some 47) (by rfl) (by kernel_rfl) (by kernel_rfl) (by kernel_rfl) (by kernel_rfl) ?_
    refine Rg.ev 10 (by rfl) (fun _ h => h) (Ev.move (show Oper.op _ = Op.move (Operand.tmp 47) from rfl) (by rfl)) (by rfl) (some 48) (by rfl) (by kernel_rfl) (by kernel_rfl) (by kernel_rfl) (by kernel_rfl) ?_
    skip
    refine Ent.known 48 false (by rfl) (by exact (rfl)) ?_
    refine Rg.ev 11 (by rfl) (fun _ h => h) (Ev.move (show Oper.op _ = Op.move (Operand.tmp 9) from rfl) (by rfl)) (by rfl) (some 49) (by rfl) (by kernel_rfl) (by kernel_rfl) (by kernel_rfl) (by kernel_rfl) ?_
    refine Rg.ev 13 (by rfl) (fun _ h => h) (Ev.load 6 (show Oper.op _ = Op.load 22 (Operand.tmp 3) from rfl) (by rfl) (by rfl) (by kernel_rfl) (by rfl)) (by rfl) (some 51) (by rfl) (by kernel_rfl) (by kernel_rfl) (by kernel_rfl) (by kernel_rfl) ?_
    skip
    refine Rg.does 12 (by rfl) (by kernel_rfl) (Does.readN (show Oper.op _ = Op.call { callee := Callee.value (Operand.func 16), args := #[Operand.tmp 49], argTypes := #[32] } from rfl) Try.func16 (by kernel_rfl) (by kernel_rfl) (all_tab he t 0 htc) (by rfl) (by rfl) ⟨blkIn 0 (by rfl), ReadsIn.rd 1 (by rfl), ReadsIn.rd 3 (by rfl), trivial⟩ (fun _ => by rfl)) (by rfl) (some 50) (by rfl) (fun _ _ h => h.tail_) ?_
    intro q2 _
    skip
    refine Rg.does 14 (by rfl) (by kernel_rfl) (Does.read (show Oper.op _ = Op.call { callee := Callee.value (Operand.func 15), args := #[Operand.tmp 50, Operand.tmp 51], argTypes := #[22, 22] } from rfl) Try.func15 (by kernel_rfl) (by kernel_rfl) (refSame_sl q2.1 (some ad) q2.2 p.2 m m (by omega)) (by rfl) (by rfl) ⟨ReadsIn.row 0 (by rfl), ReadsIn.rd 5 (by rfl), trivial⟩) (by rfl) (some 52) (by rfl) (by exact fun _ _ h => h) ?_
    rintro _ -
    refine Rg.ev 15 (by rfl) (fun _ h => h) (Ev.not (show Oper.op _ = Op.unOp UnOp.not 4 (Operand.tmp 52) from rfl) (by rfl)) (by rfl) (some 53) (by rfl) (by kernel_rfl) (by kernel_rfl) (by kernel_rfl) (by kernel_rfl) ?_
    refine Rg.ev 16 (by rfl) (fun _ h => h) (Ev.pickF (show Oper.op _ = Op.pick (Operand.tmp 48) (Operand.const (Value.bool true)) (Operand.tmp 53) from rfl) (by rfl) (by rfl)) (by rfl) (some 54) (by rfl) (by kernel_rfl) (by kernel_rfl) (by kernel_rfl) (by kernel_rfl) ?_
    refine Rg.done (by kernel_rfl) ?_ _
    refine Cd.cond_false (by rfl) (by rw [decide_eq_true rfl]; rfl) ?_
    refine Cd.skip ?_
    refine Cd.seq ?_
    refine Cd.seq ?_
    refine Cd.region ?_
    refine Ls.ev (some 11) (Ev.assign (show Oper.op _ = Op.assign (Operand.const (Value.int IntKind.i64 (-1))) from rfl) (by rfl)) (by rfl) (by rfl) ?_
    refine Ls.nil ?_
    refine Cd.block ?_
    refine Ent.pick [1, 2, 3, 4, 5, 6, 7] (by rfl) ?_
    skip
    refine Cd.loop (ι := Nat × Nat) (fun j => [(1, .string key), (2, .int .i64 seq), (3, .pointer (some ⟨g1, 0, none⟩)), (6, .pointer (some ⟨g2, 0, none⟩)), (9, .pointer (some ⟨t.g, 0, none⟩)), (11, .int .i64 ((j.1 : Int) - 1))]) (fun j => [blk t.g 75 (t.vals m (j.2 : Int)), rd t.xA (bksE m).length 4 ((bksE m).flatMap Bk.enc), rdB t.fA (filL m), rdB t.bA (tabL m), rdE (some ad) m, blk g2 4 [.bool false], blk g1 22 [.slice (some ad) m.length p.2]]) (fun j => j.1 ≤ m.length + 1 ∧ j.2 ≤ 28 * j.1) (fun j => m.length + 1 - j.1) ((0, 0)) (⟨Nat.zero_le _, Nat.zero_le _⟩) ?_ rfl ?_
    · (repeat (first | exact trivial | refine ⟨by rfl, ?_⟩))
    rintro ⟨j, lk⟩ ⟨hj, hlk⟩
    dsimp only at hj hlk ⊢
    refine Cd.seq ?_
    refine Cd.seq ?_
    refine Cd.region ?_
    refine Ls.ev (some 55) (Ev.move (show Oper.op _ = Op.move (Operand.tmp 11) from rfl) (by rfl)) (by rfl) (by rfl) ?_
    refine Ls.ev (some 56) (Ev.load 6 (show Oper.op _ = Op.load 22 (Operand.tmp 3) from rfl) (by rfl) (by rfl) (by kernel_rfl) (by rfl)) (by rfl) (by rfl) ?_
    refine Ls.ev (some 57) (Ev.len (show Oper.op _ = Op.call { callee := Callee.builtin Builtin.len, args := #[Operand.tmp 56], argTypes := #[22] } from rfl) (by rfl) Try.underlying22) (by rfl) (by rfl) ?_
    refine Ls.ev (some 58) (Ev.lss (show Oper.op _ = Op.binOp BinOp.lss 3 (Operand.tmp 55) (Operand.tmp 57) 3 from rfl) (by rfl) (by rfl)) (by rfl) (by rfl) ?_
    refine Ls.nil ?_
    refine Cd.cond _ (by rfl) (fun h2 => ?_) (fun h2 => ?_)
    · skip
      have hj2 : j < m.length + 1 := by have := of_decide_eq_true h2; omega
      refine Cd.skip ?_
      refine Cd.seq ?_
      refine Cd.block ?_
      refine Cd.seq ?_
      refine Cd.region ?_
      refine Ls.ev (some 61) (Ev.move (show Oper.op _ = Op.move (Operand.tmp 1) from rfl) (by rfl)) (by rfl) (by rfl) ?_
      refine Ls.ev (some 62) (Ev.move (show Oper.op _ = Op.move (Operand.tmp 2) from rfl) (by rfl)) (by rfl) (by rfl) ?_
      refine Ls.ev (some 12) (Ev.assign (show Oper.op _ = Op.assign (Operand.tmp 61) from rfl) (by rfl)) (by rfl) (by rfl) ?_
      refine Ls.ev (some 13) (Ev.assign (show Oper.op _ = Op.assign (Operand.tmp 62) from rfl) (by rfl)) (by rfl) (by rfl) ?_
      refine Ls.nil ?_
      refine Cd.seq ?_
      refine Cd.seq ?_
      refine Cd.region ?_
      refine Ls.ev (some 63) (Ev.move (show Oper.op _ = Op.move (Operand.tmp 11) from rfl) (by rfl)) (by rfl) (by rfl) ?_
      refine Ls.ev (some 64) (Ev.geq (show Oper.op _ = Op.binOp BinOp.geq 3 (Operand.tmp 63) (Operand.const (Value.int IntKind.i64 0)) 3 from rfl) (by rfl) (by rfl)) (by rfl) (by rfl) ?_
      refine Ls.nil ?_
      refine Cd.cut (ι := ByteArray × Int) (fun kk => [(1, .string key), (2, .int .i64 seq), (3, .pointer (some ⟨g1, 0, none⟩)), (6, .pointer (some ⟨g2, 0, none⟩)), (9, .pointer (some ⟨t.g, 0, none⟩)), (11, .int .i64 ((j : Int) - 1)), (12, .string kk.1), (13, .int .i64 kk.2)]) (fun _ => [blk t.g 75 (t.vals m (lk : Int)), rd t.xA (bksE m).length 4 ((bksE m).flatMap Bk.enc), rdB t.fA (filL m), rdB t.bA (tabL m), rdE (some ad) m, blk g2 4 [.bool false], blk g1 22 [.slice (some ad) m.length p.2]]) (fun kk => kk.1.size ≤ maxLen) ?_ ?_
      · skip
        refine Cd.cond _ (by rfl) (fun h3 => ?_) (fun h3 => ?_)
        · skip
          have hj1 : 1 ≤ j := by have := of_decide_eq_true h3; omega
          obtain ⟨e, hee⟩ := get_of_lt (show ((j : Int) - 1).toNat < m.length by omega)
          have hke := (errE_facts (hg.ok e (List.mem_of_getElem? hee))).2.2.1
          skip
          refine Cd.draw [] (by kernel_rfl) ?_
          refine Rg.ev 0 (by rfl) (fun _ h => h) (Ev.load 6 (show Oper.op _ = Op.load 22 (Operand.tmp 3) from rfl) (by rfl) (by rfl) (by kernel_rfl) (by rfl)) (by rfl) (some 65) (by rfl) (by kernel_rfl) (by kernel_rfl) (by kernel_rfl) (by kernel_rfl) ?_
          refine Rg.ev 1 (by rfl) (fun _ h => h) (Ev.move (show Oper.op _ = Op.move (Operand.tmp 11) from rfl) (by rfl)) (by rfl) (some 66) (by rfl) (by kernel_rfl) (by kernel_rfl) (by kernel_rfl) (by kernel_rfl) ?_
          refine Rg.ev 2 (by rfl) (fun _ h => h) (Ev.indexAddr (sz := 4) (show Oper.op _ = Op.indexAddr 22 (Operand.tmp 65) (Operand.tmp 66) from rfl) (by rfl) (by rfl) Try.underlying22 (by kernel_rfl) (by omega)) (by rfl) (some 67) (by rfl) (by kernel_rfl) (by kernel_rfl) (by kernel_rfl) (by kernel_rfl) ?_
          refine Rg.ev 3 (by rfl) (fun _ h => h) (Ev.fieldAddrE0 (k := 0) (show Oper.op _ = Op.fieldAddr 42 (Operand.tmp 67) 0 from rfl) (by rfl) (by kernel_rfl)) (by rfl) (some 68) (by rfl) (by kernel_rfl) (by kernel_rfl) (by kernel_rfl) (by kernel_rfl) ?_
          refine Rg.ev 4 (by rfl) (fun _ h => h) (Ev.loadElF (show Oper.op _ = Op.load 9 (Operand.tmp 68) from rfl) (by rfl) (ReadsIn.rd 4 (by rfl)) (by kernel_rfl) (by intro _; rfl) (by assumption) (by rfl)) (by rfl) (some 69) (by rfl) (by kernel_rfl) (by kernel_rfl) (by kernel_rfl) (by kernel_rfl) ?_
          refine Rg.ev 5 (by rfl) (fun _ h => h) (Ev.load 6 (show Oper.op _ = Op.load 22 (Operand.tmp 3) from rfl) (by rfl) (by rfl) (by kernel_rfl) (by rfl)) (by rfl) (some 70) (by rfl) (by kernel_rfl) (by kernel_rfl) (by kernel_rfl) (by kernel_rfl) ?_
          refine Rg.ev 6 (by rfl) (fun _ h => h) (Ev.move (show Oper.op _ = Op.move (Operand.tmp 11) from rfl) (by rfl)) (by rfl) (some 71) (by rfl) (by kernel_rfl) (by kernel_rfl) (by kernel_rfl) (by kernel_rfl) ?_
          refine Rg.ev 7 (by rfl) (fun _ h => h) (Ev.indexAddr (sz := 4) (show Oper.op _ = Op.indexAddr 22 (Operand.tmp 70) (Operand.tmp 71) from rfl) (by rfl) (by rfl) Try.underlying22 (by kernel_rfl) (by omega)) (by rfl) (some 72) (by rfl) (by kernel_rfl) (by kernel_rfl) (by kernel_rfl) (by kernel_rfl) ?_
          refine Rg.ev 8 (by rfl) (fun _ h => h) (Ev.fieldAddrE0 (k := 1) (show Oper.op _ = Op.fieldAddr 42 (Operand.tmp 72) 1 from rfl) (by rfl) (by kernel_rfl)) (by rfl) (some 73) (by rfl) (by kernel_rfl) (by kernel_rfl) (by kernel_rfl) (by kernel_rfl) ?_
          refine Rg.ev 9 (by rfl) (fun _ h => h) (Ev.loadElF (show Oper.op _ = Op.load 3 (Operand.tmp 73) from rfl) (by rfl) (ReadsIn.rd 4 (by rfl)) (by kernel_rfl) (by intro _; rfl) (by assumption) (by rfl)) (by rfl) (some 74) (by rfl) (by kernel_rfl) (by kernel_rfl) (by kernel_rfl) (by kernel_rfl) ?_
          refine Rg.ev 10 (by rfl) (fun _ h => h) (Ev.move (show Oper.op _ = Op.move (Operand.tmp 2) from rfl) (by rfl)) (by rfl) (some 75) (by rfl) (by kernel_rfl) (by kernel_rfl) (by kernel_rfl) (by kernel_rfl) ?_
          refine Rg.ev 11 (by rfl) (fun _ h => h) (Ev.and (show Oper.op _ = Op.binOp BinOp.and 3 (Operand.tmp 75) (Operand.const (Value.int IntKind.i64 1)) 3 from rfl) (by rfl) (by rfl)) (by rfl) (some 76) (by rfl) (by kernel_rfl) (by kernel_rfl) (by kernel_rfl) (by kernel_rfl) ?_
          refine Rg.ev 12 (by rfl) (fun _ h => h) (Ev.sub (show Oper.op _ = Op.binOp BinOp.sub 3 (Operand.tmp 74) (Operand.tmp 76) 3 from rfl) (by rfl) (by rfl)) (by rfl) (some 77) (by rfl) (by kernel_rfl) (by kernel_rfl) (by kernel_rfl) (by kernel_rfl) ?_
          refine Rg.ev 13 (by rfl) (fun _ h => h) (Ev.assign (show Oper.op _ = Op.assign (Operand.tmp 69) from rfl) (by rfl)) (by rfl) (some 12) (by rfl) (by kernel_rfl) (by kernel_rfl) (by kernel_rfl) (by kernel_rfl) ?_
          refine Rg.ev 14 (by rfl) (fun _ h => h) (Ev.assign (show Oper.op _ = Op.assign (Operand.tmp 77) from rfl) (by rfl)) (by rfl) (some 13) (by rfl) (by kernel_rfl) (by kernel_rfl) (by kernel_rfl) (by kernel_rfl) ?_
          refine Rg.done (by kernel_rfl) ?_ _
          skip
          refine Ent.inv ((e.key, IntKind.i64.wrap (e.seq - bits .and .i64 seq 1))) ?_ ?_ ?_
          · (try dsimp only); (unfold maxLen; omega)
          · (repeat (first | exact trivial | refine ⟨by rfl, ?_⟩ | refine ⟨by simp only [List.length_append, List.length_cons, List.length_nil]; rfl, ?_⟩ | refine ⟨by push_cast; rfl, ?_⟩))
          · rfl
        · skip
          refine Cd.skip ?_
          refine Ent.inv ((key, seq)) ?_ ?_ ?_
          · (try dsimp only); exact hk
          · (repeat (first | exact trivial | refine ⟨by rfl, ?_⟩ | refine ⟨by simp only [List.length_append, List.length_cons, List.length_nil]; rfl, ?_⟩ | refine ⟨by push_cast; rfl, ?_⟩))
          · rfl
      skip
      rintro ⟨kk, ss⟩ hkk
      dsimp only at hkk ⊢
      have hln := lookN_le he kk ss
      refine Cd.seq ?_
      refine Cd.region ?_
      refine Ls.ev (some 79) (Ev.move (show Oper.op _ = Op.move (Operand.tmp 9) from rfl) (by rfl)) (by rfl) (by rfl) ?_
      refine Ls.ev (some 80) (Ev.move (show Oper.op _ = Op.move (Operand.tmp 12) from rfl) (by rfl)) (by rfl) (by rfl) ?_
      refine Ls.ev (some 81) (Ev.move (show Oper.op _ = Op.move (Operand.tmp 13) from rfl) (by rfl)) (by rfl) (by rfl) ?_
      refine Ls.does (some 82) (Does.call [0, 1, 3, 2, 1, 2, 3, 4, 5, 6] (show Oper.op _ = Op.call { callee := Callee.value (Operand.func 24), args := #[Operand.tmp 79, Operand.tmp 80, Operand.tmp 81], argTypes := #[32, 9, 3] } from rfl) Try.func24 (by kernel_rfl) (by kernel_rfl) (get_tab he t lk kk ss htc hkk (by omega)) (by rfl) (by rfl) (by rfl)) (by rfl) (by rfl) ?_
      rintro _ -
      refine Ls.ev (some 78) (Ev.move (show Oper.op _ = Op.move (Operand.tmp 82) from rfl) (by rfl)) (by rfl) (by rfl) ?_
      refine Ls.ev (some 83) (Ev.extract (show Oper.op _ = Op.extract (Operand.tmp 78) 0 from rfl) (by rfl) (by rfl)) (by rfl) (by rfl) ?_
      refine Ls.ev (some 84) (Ev.extract (show Oper.op _ = Op.extract (Operand.tmp 78) 1 from rfl) (by rfl) (by rfl)) (by rfl) (by rfl) ?_
      refine Ls.does (some 14) (Does.alloc (cs := [.string ⟨#[]⟩, .int .i64 0, .bool false, .string ⟨#[]⟩]) (show Oper.op _ = Op.alloc 42 from rfl) (ZeroIs.mk (.agg #[.string ⟨#[]⟩, .int .i64 0, .bool false, .string ⟨#[]⟩]) (by kernel_rfl) (by rfl))) (by rfl) (by rfl) ?_
      intro g3 _
      refine Ls.does none (Does.store 0 (show Oper.op _ = Op.store 42 (Operand.tmp 14) (Operand.tmp 83) from rfl) (by rfl) (by rfl) (by rfl) (by kernel_rfl) (by rfl) (by kernel_rfl) (by rfl)) (by rfl) (by rfl) ?_
      intro _ _
      refine Ls.ev (some 15) (Ev.assign (show Oper.op _ = Op.assign (Operand.tmp 84) from rfl) (by rfl)) (by rfl) (by rfl) ?_
      refine Ls.nil ?_
      refine Cd.seq ?_
      refine Cd.region ?_
      refine Ls.ev (some 86) (Ev.load 7 (show Oper.op _ = Op.load 22 (Operand.tmp 3) from rfl) (by rfl) (by rfl) (by kernel_rfl) (by rfl)) (by rfl) (by rfl) ?_
      refine Ls.ev (some 87) (Ev.move (show Oper.op _ = Op.move (Operand.tmp 12) from rfl) (by rfl)) (by rfl) (by rfl) ?_
      refine Ls.ev (some 88) (Ev.move (show Oper.op _ = Op.move (Operand.tmp 13) from rfl) (by rfl)) (by rfl) (by rfl) ?_
      refine Ls.does (some 89) (Does.read (show Oper.op _ = Op.call { callee := Callee.value (Operand.func 25), args := #[Operand.tmp 86, Operand.tmp 87, Operand.tmp 88], argTypes := #[22, 9, 3] } from rfl) Try.func25 (by kernel_rfl) (by kernel_rfl) (refGet_sl (some ad) p.2 m kk ss (by omega)) (by rfl) (by rfl) ⟨ReadsIn.rd 5 (by rfl), trivial⟩) (by rfl) (by rfl) ?_
      rw [getS_find kk ss m hsrt]
      rintro _ -
      refine Ls.ev (some 85) (Ev.move (show Oper.op _ = Op.move (Operand.tmp 89) from rfl) (by rfl)) (by rfl) (by rfl) ?_
      refine Ls.ev (some 90) (Ev.extract (show Oper.op _ = Op.extract (Operand.tmp 85) 0 from rfl) (by rfl) (by rfl)) (by rfl) (by rfl) ?_
      refine Ls.ev (some 91) (Ev.extract (show Oper.op _ = Op.extract (Operand.tmp 85) 1 from rfl) (by rfl) (by rfl)) (by rfl) (by rfl) ?_
      refine Ls.does (some 16) (Does.alloc (cs := [.string ⟨#[]⟩, .int .i64 0, .bool false, .string ⟨#[]⟩]) (show Oper.op _ = Op.alloc 42 from rfl) (ZeroIs.mk (.agg #[.string ⟨#[]⟩, .int .i64 0, .bool false, .string ⟨#[]⟩]) (by kernel_rfl) (by rfl))) (by rfl) (by rfl) ?_
      intro g4 _
      refine Ls.does none (Does.store 0 (show Oper.op _ = Op.store 42 (Operand.tmp 16) (Operand.tmp 90) from rfl) (by rfl) (by rfl) (by rfl) (by kernel_rfl) (by rfl) (by kernel_rfl) (by rfl)) (by rfl) (by rfl) ?_
      intro _ _
      refine Ls.ev (some 17) (Ev.assign (show Oper.op _ = Op.assign (Operand.tmp 91) from rfl) (by rfl)) (by rfl) (by rfl) ?_
      refine Ls.nil ?_
      refine Cd.seq ?_
      refine Cd.region ?_
      refine Ls.ev (some 92) (Ev.loads 1 (show Oper.op _ = Op.load 42 (Operand.tmp 14) from rfl) (by rfl) (by rfl) (n := 4) (by kernel_rfl) (by rfl) (by rfl)) (by rfl) (by rfl) ?_
      refine Ls.ev (some 93) (Ev.loads 0 (show Oper.op _ = Op.load 42 (Operand.tmp 16) from rfl) (by rfl) (by rfl) (n := 4) (by kernel_rfl) (by rfl) (by rfl)) (by rfl) (by rfl) ?_
      refine Ls.ev (some 94) (Ev.neqE ((m.find? (hitE kk ss)).getD Ety.zero) ((m.find? (hitE kk ss)).getD Ety.zero) (show Oper.op _ = Op.binOp BinOp.neq 42 (Operand.tmp 92) (Operand.tmp 93) 42 from rfl) (by rfl) (by rfl)) (by rfl) (by rfl) ?_
      refine Ls.ev (some 95) (Ev.move (show Oper.op _ = Op.move (Operand.tmp 94) from rfl) (by rfl)) (by rfl) (by rfl) ?_
      refine Ent.known 95 false (by rfl) (by exact (by rw [decide_eq_true rfl]; rfl)) ?_
      refine Ls.ev (some 96) (Ev.move (show Oper.op _ = Op.move (Operand.tmp 15) from rfl) (by rfl)) (by rfl) (by rfl) ?_
      refine Ls.ev (some 97) (Ev.move (show Oper.op _ = Op.move (Operand.tmp 17) from rfl) (by rfl)) (by rfl) (by rfl) ?_
      refine Ls.ev (some 98) (Ev.neqB (show Oper.op _ = Op.binOp BinOp.neq 4 (Operand.tmp 96) (Operand.tmp 97) 4 from rfl) (by rfl) (by rfl) Try.underlying4) (by rfl) (by rfl) ?_
      refine Ls.ev (some 99) (Ev.pickF (show Oper.op _ = Op.pick (Operand.tmp 95) (Operand.const (Value.bool true)) (Operand.tmp 98) from rfl) (by rfl) (by rfl)) (by rfl) (by rfl) ?_
      refine Ls.nil ?_
      skip
      refine Cd.cond_false (by rfl) (by simp) ?_
      refine Cd.skip ?_
      refine Cd.region ?_
      refine Ls.ev (some 59) (Ev.move (show Oper.op _ = Op.move (Operand.tmp 11) from rfl) (by rfl)) (by rfl) (by rfl) ?_
      refine Ls.ev (some 60) (Ev.addI (show Oper.op _ = Op.binOp BinOp.add 3 (Operand.tmp 59) (Operand.const (Value.int IntKind.i64 1)) 3 from rfl) (by rfl) (by rfl) (by omega)) (by rfl) (by rfl) ?_
      refine Ls.ev (some 11) (Ev.assign (show Oper.op _ = Op.assign (Operand.tmp 60) from rfl) (by rfl)) (by rfl) (by rfl) ?_
      refine Ls.nil ?_
      refine Ent.pick [2, 3, 4, 5, 6, 7, 8] (by rfl) ?_
      refine Ent.inv ((j + 1, lk + lookN m kk ss)) ?_ ?_ ?_
      · (try dsimp only); exact ⟨⟨by omega, by omega⟩, by omega⟩
      · (repeat (first | exact trivial | refine ⟨by rfl, ?_⟩ | refine ⟨by simp only [List.length_append, List.length_cons, List.length_nil]; rfl, ?_⟩ | refine ⟨by push_cast; rfl, ?_⟩ | refine ⟨by (show some (Value.int _ _) = some (Value.int _ _); congr 2; push_cast; omega), ?_⟩))
      · (dsimp only; rw [show ((lk + lookN m kk ss : Nat) : Int) = (lk : Int) + (lookN m kk ss : Nat) from by push_cast; rfl]; rfl)
    · skip
      skip
      refine Cd.exit ?_
      refine Cd.seq ?_
      refine Cd.region ?_
      refine Ls.does (some 18) (Does.alloc (cs := [.int .i64 0]) (show Oper.op _ = Op.alloc 3 from rfl) (ZeroIs.mk (.int .i64 0) (by kernel_rfl) (by rfl))) (by rfl) (by rfl) ?_
      intro g3 _
      refine Ls.does none (Does.store 0 (show Oper.op _ = Op.store 3 (Operand.tmp 18) (Operand.const (Value.int IntKind.i64 0)) from rfl) (by rfl) (by rfl) (by rfl) (by kernel_rfl) (by rfl) (by kernel_rfl) (by rfl)) (by rfl) (by rfl) ?_
      intro _ _
      refine Ls.nil ?_
      refine Cd.seq ?_
      refine Cd.seq ?_
      refine Cd.region ?_
      refine Ls.ev (some 100) (Ev.load 7 (show Oper.op _ = Op.load 22 (Operand.tmp 3) from rfl) (by rfl) (by rfl) (by kernel_rfl) (by rfl)) (by rfl) (by rfl) ?_
      refine Ls.ev (some 101) (Ev.len (show Oper.op _ = Op.call { callee := Callee.builtin Builtin.len, args := #[Operand.tmp 100], argTypes := #[22] } from rfl) (by rfl) Try.underlying22) (by rfl) (by rfl) ?_
      refine Ls.ev (some 102) (Ev.move (show Oper.op _ = Op.move (Operand.const (Value.int IntKind.i64 0)) from rfl) (by rfl)) (by rfl) (by rfl) ?_
      refine Ls.nil ?_
      refine Cd.block ?_
      refine Cd.loop (ι := Nat) (fun k => [(1, .string key), (3, .pointer (some ⟨g1, 0, none⟩)), (6, .pointer (some ⟨g2, 0, none⟩)), (9, .pointer (some ⟨t.g, 0, none⟩)), (18, .pointer (some ⟨g3, 0, none⟩)), (101, .int .i64 m.length), (102, .int .i64 k)]) (fun k => [blk g3 3 [.int .i64 ((m.take k).countP (fun e => kl e.key key) : Nat)], blk t.g 75 (t.vals m lk), rd t.xA (bksE m).length 4 ((bksE m).flatMap Bk.enc), rdB t.fA (filL m), rdB t.bA (tabL m), rdE (some ad) m, blk g2 4 [.bool false], blk g1 22 [.slice (some ad) m.length p.2]]) (fun k => k ≤ m.length) (fun k => m.length - k) (0) (Nat.zero_le _) ?_ rfl ?_
      · (repeat (first | exact trivial | refine ⟨by rfl, ?_⟩))
      intro k hkm
      have hcp := List.countP_le_length (p := fun e : Ety => kl e.key key) (l := m.take k)
      rw [List.length_take] at hcp
      refine Cd.seq ?_
      refine Cd.region ?_
      refine Ls.ev (some 103) (Ev.lss (show Oper.op _ = Op.binOp BinOp.lss 3 (Operand.tmp 102) (Operand.tmp 101) 3 from rfl) (by rfl) (by rfl)) (by rfl) (by rfl) ?_
      refine Ls.nil ?_
      refine Cd.seq ?_
      refine Cd.cond _ (by rfl) (fun h4 => ?_) (fun h4 => ?_)
      · skip
        have hlt : k < m.length := by have := of_decide_eq_true h4; omega
        obtain ⟨e, hee⟩ := get_of_lt hlt
        have htk : m.take (k + 1) = m.take k ++ [e] := by rw [List.take_add_one, hee]; rfl
        have hct : (m.take (k + 1)).countP (fun e => kl e.key key) = (m.take k).countP (fun e => kl e.key key) + (if kl e.key key = true then 1 else 0) := by rw [htk, List.countP_append, List.countP_singleton]
        skip
        refine Cd.skip ?_
        refine Cd.seq ?_
        refine Cd.block ?_
        refine Cd.seq ?_
        refine Cd.region ?_
        refine Ls.ev (some 104) (Ev.move (show Oper.op _ = Op.move (Operand.tmp 102) from rfl) (by rfl)) (by rfl) (by rfl) ?_
        refine Ls.ev (some 19) (Ev.assign (show Oper.op _ = Op.assign (Operand.tmp 104) from rfl) (by rfl)) (by rfl) (by rfl) ?_
        refine Ls.nil ?_
        refine Cd.seq ?_
        refine Cd.region ?_
        refine Ls.ev (some 105) (Ev.load 7 (show Oper.op _ = Op.load 22 (Operand.tmp 3) from rfl) (by rfl) (by rfl) (by kernel_rfl) (by rfl)) (by rfl) (by rfl) ?_
        refine Ls.ev (some 106) (Ev.move (show Oper.op _ = Op.move (Operand.tmp 19) from rfl) (by rfl)) (by rfl) (by rfl) ?_
        refine Ls.ev (some 107) (Ev.indexAt (sz := 4) (show Oper.op _ = Op.indexAddr 22 (Operand.tmp 105) (Operand.tmp 106) from rfl) (by rfl) (by rfl) Try.underlying22 (by kernel_rfl) (by omega)) (by rfl) (by rfl) ?_
        refine Ls.ev (some 108) (Ev.fieldAddrE0 (k := 0) (show Oper.op _ = Op.fieldAddr 42 (Operand.tmp 107) 0 from rfl) (by rfl) (by kernel_rfl)) (by rfl) (by rfl) ?_
        refine Ls.ev (some 109) (Ev.loadElF (show Oper.op _ = Op.load 9 (Operand.tmp 108) from rfl) (by rfl) (ReadsIn.rd 5 (by rfl)) (by kernel_rfl) (by intro _; rfl) (by assumption) (by rfl)) (by rfl) (by rfl) ?_
        refine Ls.ev (some 110) (Ev.move (show Oper.op _ = Op.move (Operand.tmp 1) from rfl) (by rfl)) (by rfl) (by rfl) ?_
        refine Ls.ev (some 111) (Ev.lssS (show Oper.op _ = Op.binOp BinOp.lss 9 (Operand.tmp 109) (Operand.tmp 110) 9 from rfl) (by rfl) (by rfl)) (by rfl) (by rfl) ?_
        refine Ls.nil ?_
        skip
        refine Cd.cond _ (by rfl) (fun h5 => ?_) (fun h5 => ?_)
        · skip
          have h6 : kl e.key key = true := h5
          rw [if_pos h6] at hct
          refine Cd.region ?_
          refine Ls.ev (some 112) (Ev.load 0 (show Oper.op _ = Op.load 3 (Operand.tmp 18) from rfl) (by rfl) (by rfl) (by kernel_rfl) (by rfl)) (by rfl) (by rfl) ?_
          refine Ls.ev (some 113) (Ev.addN (b := 1) (show Oper.op _ = Op.binOp BinOp.add 3 (Operand.tmp 112) (Operand.const (Value.int IntKind.i64 1)) 3 from rfl) (by rfl) (by rfl) (by omega)) (by rfl) (by rfl) ?_
          refine Ls.does none (Does.store 0 (show Oper.op _ = Op.store 3 (Operand.tmp 18) (Operand.tmp 113) from rfl) (by rfl) (by rfl) (by rfl) (by kernel_rfl) (by rfl) (by kernel_rfl) (by rfl)) (by rfl) (by rfl) ?_
          intro _ _
          refine Ls.nil ?_
          refine Cd.region ?_
          refine Ls.ev (some 114) (Ev.addN (b := 1) (show Oper.op _ = Op.binOp BinOp.add 3 (Operand.tmp 102) (Operand.const (Value.int IntKind.i64 1)) 3 from rfl) (by rfl) (by rfl) (by omega)) (by rfl) (by rfl) ?_
          refine Ls.ev (some 102) (Ev.move (show Oper.op _ = Op.move (Operand.tmp 114) from rfl) (by rfl)) (by rfl) (by rfl) ?_
          refine Ls.nil ?_
          refine Ent.inv (k + 1) ?_ ?_ ?_
          · (try dsimp only); exact ⟨by omega, by omega⟩
          · (repeat (first | exact trivial | refine ⟨by rfl, ?_⟩ | refine ⟨by simp only [List.length_append, List.length_cons, List.length_nil]; rfl, ?_⟩ | refine ⟨by push_cast; rfl, ?_⟩))
          · (rw [hct]; rfl)
        · skip
          have h6 : ¬ kl e.key key = true := by intro h; rw [show Op.bytesLess e.key.toList key.toList = true from h] at h5; cases h5
          rw [if_neg h6] at hct
          refine Cd.skip ?_
          refine Cd.region ?_
          refine Ls.ev (some 114) (Ev.addN (b := 1) (show Oper.op _ = Op.binOp BinOp.add 3 (Operand.tmp 102) (Operand.const (Value.int IntKind.i64 1)) 3 from rfl) (by rfl) (by rfl) (by omega)) (by rfl) (by rfl) ?_
          refine Ls.ev (some 102) (Ev.move (show Oper.op _ = Op.move (Operand.tmp 114) from rfl) (by rfl)) (by rfl) (by rfl) ?_
          refine Ls.nil ?_
          refine Ent.inv (k + 1) ?_ ?_ ?_
          · (try dsimp only); exact ⟨by omega, by omega⟩
          · (repeat (first | exact trivial | refine ⟨by rfl, ?_⟩ | refine ⟨by simp only [List.length_append, List.length_cons, List.length_nil]; rfl, ?_⟩ | refine ⟨by push_cast; rfl, ?_⟩))
          · (rw [hct]; rfl)
      · skip
        have hk2 : k = m.length := by have := of_decide_eq_false h4; omega
        subst hk2
        rw [List.take_length]
        have hsp := srt_split key hsrt
        have hn0 : m.countP (fun e => kl e.key key) = (m.filter (fun e => kl e.key key)).length := List.countP_eq_length_filter
        have hlen : m.length = (m.filter (fun e => kl e.key key)).length + (m.filter (fromE key)).length := by
          conv => lhs; rw [hsp]
          rw [List.length_append]
        rw [hn0]
        refine Cd.exit ?_
        refine Cd.seq ?_
        refine Cd.seq ?_
        refine Cd.region ?_
        refine Ls.ev (some 115) (Ev.move (show Oper.op _ = Op.move (Operand.tmp 9) from rfl) (by rfl)) (by rfl) (by rfl) ?_
        refine Ls.ev (some 116) (Ev.move (show Oper.op _ = Op.move (Operand.tmp 1) from rfl) (by rfl)) (by rfl) (by rfl) ?_
        refine Ls.does (some 117) (Does.readN (show Oper.op _ = Op.call { callee := Callee.value (Operand.func 26), args := #[Operand.tmp 115, Operand.tmp 116], argTypes := #[32, 9] } from rfl) Try.func26 (by kernel_rfl) (by kernel_rfl) (from_sl t key) (by rfl) (by rfl) trivial (fun _ => by rfl)) (by rfl) (by rfl) ?_
        intro pr _
        refine Ls.nil ?_
        refine Cd.block ?_
        refine Ent.pick [2, 8, 9, 7, 0, 1, 3, 4, 6, 5] (by rfl) ?_
        refine Cd.range (ι := Unit) (γ := Nat) (t.hit m lk key pr.1 pr.2) ([rdE (some ad) m]) ([rdB t.fA (filL m)]) (fun (x : Ety) q => [(3, .pointer (some ⟨g1, 0, none⟩)), (6, .pointer (some ⟨g2, 0, none⟩)), (18, .pointer (some ⟨g3, 0, none⟩)), (20, .pointer (some ⟨q, 0, none⟩))]) (fun x q => [blk q 42 x.enc]) (fun pre _ => [blk g3 3 [.int .i64 ((m.filter (fun e => kl e.key key)).length + pre.length : Nat)], blk g2 4 [.bool false], blk g1 22 [.slice (some ad) m.length p.2]]) (fun _ _ => [blk g2 4 [.bool false]]) (fun pre _ => pre.length ≤ (m.filter (fromE key)).length) (fun _ _ _ => False) (()) (by rfl) (call_enter Try.func53 (by kernel_rfl) (by kernel_rfl)) (from_iter he t lk key pr.1 pr.2 htc) (fun _ => by rfl) (by rfl) (Nat.zero_le _) ?_ (by rfl) (fun _ _ => by rfl) (fun _ _ => by rfl) ?_ ?_ ?_ ?_
        · rfl
        · intro lp x W
          refine Cd.region ?_
          refine Ls.does (some 20) (Does.alloc (cs := [.string ⟨#[]⟩, .int .i64 0, .bool false, .string ⟨#[]⟩]) (show Oper.op _ = Op.alloc 42 from rfl) (ZeroIs.mk (.agg #[.string ⟨#[]⟩, .int .i64 0, .bool false, .string ⟨#[]⟩]) (by kernel_rfl) (by rfl))) (by rfl) (by rfl) ?_
          intro g4 _
          refine Ls.does none (Does.store 0 (show Oper.op _ = Op.store 42 (Operand.tmp 20) (Operand.tmp 118) from rfl) (by rfl) (by rfl) (by rfl) (by kernel_rfl) (by rfl) (by kernel_rfl) (by rfl)) (by rfl) (by rfl) ?_
          intro _ _
          refine Ls.nil ?_
          refine Ent.asg (g4) ?_ ?_
          · (repeat (first | exact trivial | refine ⟨by rfl, ?_⟩ | refine ⟨by simp only [List.length_append, List.length_cons, List.length_nil]; rfl, ?_⟩ | refine ⟨by push_cast; rfl, ?_⟩))
          · rfl
        · intro lp pre x i q W hi hx
          skip
          have hxl := (List.getElem?_eq_some_iff.1 hx).1
          have hmx : m[(m.filter (fun e => kl e.key key)).length + pre.length]? = some x := by
            refine (congrArg (fun z : List Ety => z[(m.filter (fun e => kl e.key key)).length + pre.length]?) hsp).trans ?_
            show (m.filter (fun e => kl e.key key) ++ m.filter (fromE key))[(m.filter (fun e => kl e.key key)).length + pre.length]? = some x
            rw [List.getElem?_append_right (Nat.le_add_right _ _), Nat.add_sub_cancel_left]
            exact hx
          revert hmx hlen
          generalize (m.filter (fun e => kl e.key key)).length = n0
          intro hlen hmx
          refine Cd.block ?_
          refine Cd.seq ?_
          refine Cd.seq ?_
          refine Cd.draw [] (by kernel_rfl) ?_
          refine Rg.ev 0 (by rfl) (fun _ h => h) (Ev.load 1 (show Oper.op _ = Op.load 3 (Operand.tmp 18) from rfl) (by rfl) (by rfl) (by kernel_rfl) (by rfl)) (by rfl) (some 119) (by rfl) (by kernel_rfl) (by kernel_rfl) (by kernel_rfl) (by kernel_rfl) ?_
          refine Rg.ev 1 (by rfl) (fun _ h => h) (Ev.load 3 (show Oper.op _ = Op.load 22 (Operand.tmp 3) from rfl) (by rfl) (by rfl) (by kernel_rfl) (by rfl)) (by rfl) (some 120) (by rfl) (by kernel_rfl) (by kernel_rfl) (by kernel_rfl) (by kernel_rfl) ?_
          refine Rg.ev 2 (by rfl) (fun _ h => h) (Ev.len (show Oper.op _ = Op.call { callee := Callee.builtin Builtin.len, args := #[Operand.tmp 120], argTypes := #[22] } from rfl) (by rfl) Try.underlying22) (by rfl) (some 121) (by rfl) (by kernel_rfl) (by kernel_rfl) (by kernel_rfl) (by kernel_rfl) ?_
          refine Rg.ev 3 (by rfl) (fun _ h => h) (Ev.geq (show Oper.op _ = Op.binOp BinOp.geq 3 (Operand.tmp 119) (Operand.tmp 121) 3 from rfl) (by rfl) (by rfl)) (by rfl) (some 122) (by rfl) (by kernel_rfl) (by kernel_rfl) (by kernel_rfl) (by kernel_rfl) ?_
          refine Rg.ev 4 (by rfl) (fun _ h => h) (Ev.move (show Oper.op _ = Op.move (Operand.tmp 122) from rfl) (by rfl)) (by rfl) (some 123) (by rfl) (by kernel_rfl) (by kernel_rfl) (by kernel_rfl) (by kernel_rfl) ?_
          refine Ent.known 123 false (by rfl) (by exact (decide_eq_false (by omega))) ?_
          refine Rg.ev 5 (by rfl) (fun _ h => h) (Ev.load 3 (show Oper.op _ = Op.load 22 (Operand.tmp 3) from rfl) (by rfl) (by rfl) (by kernel_rfl) (by rfl)) (by rfl) (some 124) (by rfl) (by kernel_rfl) (by kernel_rfl) (by kernel_rfl) (by kernel_rfl) ?_
          refine Rg.ev 6 (by rfl) (fun _ h => h) (Ev.load 1 (show Oper.op _ = Op.load 3 (Operand.tmp 18) from rfl) (by rfl) (by rfl) (by kernel_rfl) (by rfl)) (by rfl) (some 125) (by rfl) (by kernel_rfl) (by kernel_rfl) (by kernel_rfl) (by kernel_rfl) ?_
          refine Rg.ev 7 (by rfl) (fun _ h => h) (Ev.indexAt (sz := 4) (show Oper.op _ = Op.indexAddr 22 (Operand.tmp 124) (Operand.tmp 125) from rfl) (by rfl) (by rfl) Try.underlying22 (by kernel_rfl) (by omega)) (by rfl) (some 126) (by rfl) (by kernel_rfl) (by kernel_rfl) (by kernel_rfl) (by kernel_rfl) ?_
          refine Rg.ev 8 (by rfl) (fun _ h => h) (Ev.loadEl (show Oper.op _ = Op.load 42 (Operand.tmp 126) from rfl) (by rfl) (ReadsIn.rd 4 (by rfl)) (by kernel_rfl) (by intro _; rfl) (by assumption)) (by rfl) (some 127) (by rfl) (by kernel_rfl) (by kernel_rfl) (by kernel_rfl) (by kernel_rfl) ?_
          refine Rg.ev 9 (by rfl) (fun _ h => h) (Ev.loads 0 (show Oper.op _ = Op.load 42 (Operand.tmp 20) from rfl) (by rfl) (by rfl) (n := 4) (by kernel_rfl) (by rfl) (by rfl)) (by rfl) (some 128) (by rfl) (by kernel_rfl) (by kernel_rfl) (by kernel_rfl) (by kernel_rfl) ?_
          skip
          refine Rg.ev 10 (by rfl) (fun _ h => h) (Ev.neqE x x (show Oper.op _ = Op.binOp BinOp.neq 42 (Operand.tmp 127) (Operand.tmp 128) 42 from rfl) (by rfl) (by rfl)) (by rfl) (some 129) (by rfl) (by kernel_rfl) (by kernel_rfl) (by kernel_rfl) (by kernel_rfl) ?_
          refine Rg.ev 11 (by rfl) (fun _ h => h) (Ev.pickF (show Oper.op _ = Op.pick (Operand.tmp 123) (Operand.const (Value.bool true)) (Operand.tmp 129) from rfl) (by rfl) (by rfl)) (by rfl) (some 130) (by rfl) (by kernel_rfl) (by kernel_rfl) (by kernel_rfl) (by kernel_rfl) ?_
          refine Rg.done (by kernel_rfl) ?_ _
          refine Cd.cond_false (by rfl) (by rw [decide_eq_true rfl]; rfl) ?_
          refine Cd.skip ?_
          refine Cd.region ?_
          refine Ls.ev (some 131) (Ev.load 1 (show Oper.op _ = Op.load 3 (Operand.tmp 18) from rfl) (by rfl) (by rfl) (by kernel_rfl) (by rfl)) (by rfl) (by rfl) ?_
          refine Ls.ev (some 132) (Ev.addN (b := 1) (show Oper.op _ = Op.binOp BinOp.add 3 (Operand.tmp 131) (Operand.const (Value.int IntKind.i64 1)) 3 from rfl) (by rfl) (by rfl) (by omega)) (by rfl) (by rfl) ?_
          refine Ls.does none (Does.store 1 (show Oper.op _ = Op.store 3 (Operand.tmp 18) (Operand.tmp 132) from rfl) (by rfl) (by rfl) (by rfl) (by kernel_rfl) (by rfl) (by kernel_rfl) (by rfl)) (by rfl) (by rfl) ?_
          intro _ _
          refine Ls.nil ?_
          refine Ent.some_ (()) ((by show (pre ++ [x]).length ≤ _; rw [List.length_append]; exact hxl)) [1, 2, 3, 4] (by rfl) ?_
          · (show [_, _, _, _] = [blk g3 3 [.int .i64 (n0 + (pre ++ [x]).length : Nat)], _, _, _]; rw [List.length_append]; rfl)
        · intro D1 c pre j hpre hj
          exact hj.elim
        · intro D1 j hj
          skip
          refine Cd.seq ?_
          refine Cd.region ?_
          refine Ls.ev (some 133) (Ev.load 1 (show Oper.op _ = Op.load 3 (Operand.tmp 18) from rfl) (by rfl) (by rfl) (by kernel_rfl) (by rfl)) (by rfl) (by rfl) ?_
          refine Ls.ev (some 134) (Ev.load 3 (show Oper.op _ = Op.load 22 (Operand.tmp 3) from rfl) (by rfl) (by rfl) (by kernel_rfl) (by rfl)) (by rfl) (by rfl) ?_
          refine Ls.ev (some 135) (Ev.len (show Oper.op _ = Op.call { callee := Callee.builtin Builtin.len, args := #[Operand.tmp 134], argTypes := #[22] } from rfl) (by rfl) Try.underlying22) (by rfl) (by rfl) ?_
          refine Ls.ev (some 136) (Ev.eql (show Oper.op _ = Op.binOp BinOp.eql 3 (Operand.tmp 133) (Operand.tmp 135) 3 from rfl) (by rfl) (by rfl)) (by rfl) (by rfl) ?_
          refine Ls.does none (Does.store 2 (show Oper.op _ = Op.store 4 (Operand.tmp 6) (Operand.tmp 136) from rfl) (by rfl) (by rfl) (by rfl) (by kernel_rfl) (by rfl) (by kernel_rfl) (by rfl)) (by rfl) (by rfl) ?_
          intro _ _
          refine Ls.nil ?_
          refine Cd.ret ?_
          refine Ent.pick [0, 2] (by rfl) ?_
          refine Ent.retM [D1] (by rfl) (()) (trivial) (Res.cell1 0 (by rfl) (by rfl) (by rfl) (by kernel_rfl) (by rfl)) ?_ [] (by rfl) ?_
          · rw [← hlen, decide_eq_true rfl]
          · rfl
set_option maxRecDepth 100000 in
theorem reads_vals (W : World) (args : Array Value) (hv : Vals Try.prog W [22, 9, 3] args.toList) :
    Calls Try.prog 6 args W fun e W' => e = .returned (.bool true) ∧ Below W.heap.size W W' := by
  obtain ⟨v0, r0, e0, h0, v1, r1, rfl, h1, v2, r2, rfl, h2, rfl⟩ := hv
  obtain rfl : args = #[v0, v1, v2] := by cases args; simp_all
  obtain ⟨A, c, l, rfl, hr, _, hc, hn⟩ := val_ents h0
  obtain ⟨key, rfl, hk, _⟩ := val_string Try.underlying9 h1
  obtain ⟨seq, rfl, _⟩ := val_int Try.underlying3 h2
  exact Fn.law (reads_fn W A c l key seq hr (by omega) hk)

set_option maxRecDepth 100000 in
theorem reads_lifted (os : Os) (started : os.Started) (H : Type) (enc : TypeId × Value → H) :
    ReturnsInHanded {} Try.checked os 6 .any (Rows.sstReadsSpec.pre6 enc Try.prog Try.f6 Rows.sstReadsRow.domain false) (Rows.sstReadsSpec.post enc Try.prog Try.f6 false true false false) :=
  lift_law (C := Try.checked) #[22, 9, 3] (by kernel_rfl) (by kernel_rfl) started (by kernel_rfl) Try.func6
    (ChangeSpec.witness6 (enc := enc) (C := Try.checked) false ⟨#[], #[.slice none 0 0, .string ⟨#[]⟩, .int .i64 0], []⟩ 8 (by kernel_rfl) (by kernel_rfl) (by kernel_rfl) (by kernel_rfl))
    Try.params6 (by kernel_rfl) rfl rfl Try.underlying4 (fun ds hl => match ds, hl with | [_, _, _], _ => rfl) (fun W args hv => reads_vals W args hv)

theorem reads_holds : Rows.SstReadsSaid :=
  OpenClaim.holds_of_wide 6 Try.f6 rfl rfl rfl rfl rfl rfl rfl ⟨rfl, rfl, rfl, rfl, rfl⟩ rfl rfl rfl rfl rfl (by kernel_rfl) Try.func6 (by kernel_rfl)
    (of_decide_eq_true (by kernel_rfl)) (by unfold Func.isWrapper; rw [if_neg (of_decide_eq_false (by kernel_rfl))]; exact ⟨rfl, rfl⟩)
    (fun os started H enc _ => reads_lifted os started H enc)
end Go.Proofs.Ytnhcfhamcakfkaa
