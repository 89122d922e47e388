/- SstBlocks: a Get looks into no block where the filter says no, and else only into such as may have the key. No condition beyond the statement's own. -/
import Derived.Test.YtnhcfhamcakfkaaMSstL4g
import Derived.Test.YtnhcfhamcakfkaaChecked
import Derived.Test.YtnhcfhamcakfkaaRows
namespace Go.Proofs.Ytnhcfhamcakfkaa
open Go.RowKit
theorem parseT_nil : parseT [] = none := by kernel_rfl
theorem parse_nil (A : Option Addr) (c : Nat) : Fn Try.prog 13 #[.slice A 0 c] [rdB A []] Unit (fun _ => .tuple #[.pointer none, .int .i64 61]) (fun _ => []) (fun _ => True) := by
  refine Fn.reind (parse_sl A c [] (by decide)) fun i hi => ?_
  rcases Bool.eq_false_or_eq_true i.ok with ho | ho
  · have := (hi.yes ho).1
    rw [parseT_nil] at this
    cases this
  · exact ⟨(), trivial, by rw [ho]; rfl, by rw [ho]; rfl⟩
theorem range_countP_succ (p : Nat → Bool) (n : Nat) : (List.range (n + 1)).countP p = (List.range n).countP p + (if p n = true then 1 else 0) := by
  rw [List.range_succ, List.countP_append, List.countP_singleton]
theorem range_countP_le (p : Nat → Bool) (n : Nat) : (List.range n).countP p ≤ n := by
  have := List.countP_le_length (p := p) (l := List.range n)
  rwa [List.length_range] at this
set_option maxHeartbeats 1000000 in
theorem blocks_fn (W : World) (A : Option Addr) (c : Nat) (l : List Ety) (key : ByteArray) (seq : Int) (hr : Reads W W.heap.size 4 A l.length (l.flatMap Ety.enc)) (hn : l.length ≤ 8796093022207) (hk : key.size ≤ maxLen) :
    Fn Try.prog 5 #[.slice A l.length c, .string key, .int .i64 seq] [argc W] Unit (fun _ => .bool true) (fun _ => []) (fun _ => True) := by
  have hgood := goodF_good l
  have hl84 := goodF_len l
  refine Fn.enter Try.func5 rfl Try.ntmps5 (by rfl) ?_
  intro w0
  refine Ent.arg 0 (by rfl) hr ?_
  skip
  refine Cd.seq ?_
  refine Cd.region ?_
  refine Ls.ev (some 6) (Ev.assign (show Oper.op _ = Op.assign (Operand.const (Value.bool false)) from rfl) (by rfl)) (by rfl) (by rfl) ?_
  refine Ls.nil ?_
  refine Cd.seq ?_
  refine Cd.seq ?_
  refine Cd.region ?_
  refine Ls.does (some 18) (Does.read (show Oper.op _ = Op.call { callee := Callee.value (Operand.func 8), args := #[], argTypes := #[] } from rfl) Try.func8 (by kernel_rfl) (by kernel_rfl) (awake_sl) (by rfl) (by rfl) trivial) (by rfl) (by rfl) ?_
  rintro _ -
  refine Ls.ev (some 19) (Ev.not (show Oper.op _ = Op.unOp UnOp.not 4 (Operand.tmp 18) from rfl) (by rfl)) (by rfl) (by rfl) ?_
  refine Ls.nil ?_
  refine Cd.cond_false (by rfl) (rfl) ?_
  refine Cd.skip ?_
  refine Cd.seq ?_
  refine Cd.region ?_
  refine Ls.ev (some 20) (Ev.move (show Oper.op _ = Op.move (Operand.tmp 0) from rfl) (by rfl)) (by rfl) (by rfl) ?_
  refine Ls.does (some 21) (Does.readN (show Oper.op _ = Op.call { callee := Callee.value (Operand.func 20), args := #[Operand.tmp 20], argTypes := #[22] } from rfl) Try.func20 (by kernel_rfl) (by kernel_rfl) (goodL_sl A c l hn) (by rfl) (by rfl) ⟨ReadsIn.rd 0 (by rfl), trivial⟩ (fun _ => by rfl)) (by rfl) (by rfl) ?_
  revert hgood hl84
  generalize goodF [] l = m
  intro hgood hl84 p hpc
  refine Ls.ev (some 0) (Ev.assign (show Oper.op _ = Op.assign (Operand.tmp 21) from rfl) (by rfl)) (by rfl) (by rfl) ?_
  refine Ls.nil ?_
  refine Cd.seq ?_
  refine Cd.region ?_
  refine Ls.ev (some 23) (Ev.move (show Oper.op _ = Op.move (Operand.tmp 0) from rfl) (by rfl)) (by rfl) (by rfl) ?_
  by_cases hm : m = []
  · subst hm
    skip
    refine Ls.does (some 24) (Does.read (show Oper.op _ = Op.call { callee := Callee.value (Operand.func 10), args := #[Operand.tmp 23], argTypes := #[22] } from rfl) Try.func10 (by kernel_rfl) (by kernel_rfl) (build_bad p.1 p.2 [] (by decide) (by decide)) (by rfl) (by rfl) ⟨ReadsIn.row 0 (by rfl), trivial⟩) (by rfl) (by rfl) ?_
    rintro _ -
    refine Ls.ev (some 22) (Ev.move (show Oper.op _ = Op.move (Operand.tmp 24) from rfl) (by rfl)) (by rfl) (by rfl) ?_
    refine Ls.ev (some 25) (Ev.extract (show Oper.op _ = Op.extract (Operand.tmp 22) 0 from rfl) (by rfl) (by rfl)) (by rfl) (by rfl) ?_
    refine Ls.ev (some 26) (Ev.extract (show Oper.op _ = Op.extract (Operand.tmp 22) 1 from rfl) (by rfl) (by rfl)) (by rfl) (by rfl) ?_
    refine Ls.ev (some 7) (Ev.assign (show Oper.op _ = Op.assign (Operand.tmp 25) from rfl) (by rfl)) (by rfl) (by rfl) ?_
    refine Ls.ev (some 8) (Ev.assign (show Oper.op _ = Op.assign (Operand.tmp 26) from rfl) (by rfl)) (by rfl) (by rfl) ?_
    refine Ls.nil ?_
    refine Cd.seq ?_
    refine Cd.region ?_
    refine Ls.ev (some 28) (Ev.move (show Oper.op _ = Op.move (Operand.tmp 7) from rfl) (by rfl)) (by rfl) (by rfl) ?_
    refine Ent.nil 5 1 ?_
    refine Ls.does (some 29) (Does.read (show Oper.op _ = Op.call { callee := Callee.value (Operand.func 13), args := #[Operand.tmp 28], argTypes := #[25] } from rfl) Try.func13 (by kernel_rfl) (by kernel_rfl) (parse_nil none 0) (by rfl) (by rfl) ⟨ReadsIn.row 0 (by rfl), trivial⟩) (by rfl) (by rfl) ?_
    rintro _ -
    refine Ls.ev (some 27) (Ev.move (show Oper.op _ = Op.move (Operand.tmp 29) from rfl) (by rfl)) (by rfl) (by rfl) ?_
    refine Ls.ev (some 30) (Ev.extract (show Oper.op _ = Op.extract (Operand.tmp 27) 0 from rfl) (by rfl) (by rfl)) (by rfl) (by rfl) ?_
    refine Ls.ev (some 31) (Ev.extract (show Oper.op _ = Op.extract (Operand.tmp 27) 1 from rfl) (by rfl) (by rfl)) (by rfl) (by rfl) ?_
    refine Ls.ev (some 9) (Ev.assign (show Oper.op _ = Op.assign (Operand.tmp 30) from rfl) (by rfl)) (by rfl) (by rfl) ?_
    refine Ls.ev (some 10) (Ev.assign (show Oper.op _ = Op.assign (Operand.tmp 31) from rfl) (by rfl)) (by rfl) (by rfl) ?_
    refine Ls.nil ?_
    refine Cd.seq ?_
    refine Cd.seq ?_
    refine Cd.region ?_
    refine Ls.ev (some 32) (Ev.move (show Oper.op _ = Op.move (Operand.tmp 8) from rfl) (by rfl)) (by rfl) (by rfl) ?_
    refine Ls.ev (some 33) (Ev.neq (show Oper.op _ = Op.binOp BinOp.neq 26 (Operand.tmp 32) (Operand.const (Value.int IntKind.i64 0)) 26 from rfl) (by rfl) (by rfl)) (by rfl) (by rfl) ?_
    refine Ls.ev (some 34) (Ev.move (show Oper.op _ = Op.move (Operand.tmp 33) from rfl) (by rfl)) (by rfl) (by rfl) ?_
    refine Ent.known 34 true (by rfl) (by exact (by decide)) ?_
    refine Ls.pass (some 35) (by rfl) (by rfl) ?_
    refine Ls.pass (some 36) (by rfl) (by rfl) ?_
    refine Ls.ev (some 37) (Ev.pickT (show Oper.op _ = Op.pick (Operand.tmp 34) (Operand.const (Value.bool true)) (Operand.tmp 36) from rfl) (by rfl) (by rfl)) (by rfl) (by rfl) ?_
    refine Ls.ev (some 38) (Ev.move (show Oper.op _ = Op.move (Operand.tmp 37) from rfl) (by rfl)) (by rfl) (by rfl) ?_
    skip
    refine Ent.known 38 true (by rfl) (by exact (by decide)) ?_
    refine Ls.pass (some 39) (by rfl) (by rfl) ?_
    refine Ls.pass (some 40) (by rfl) (by rfl) ?_
    refine Ls.ev (some 41) (Ev.pickT (show Oper.op _ = Op.pick (Operand.tmp 38) (Operand.const (Value.bool true)) (Operand.tmp 40) from rfl) (by rfl) (by rfl)) (by rfl) (by rfl) ?_
    refine Ls.nil ?_
    skip
    refine Cd.cond_true (by rfl) (by decide) ?_
    refine Cd.seq ?_
    refine Cd.region ?_
    refine Ls.ev (some 42) (Ev.move (show Oper.op _ = Op.move (Operand.tmp 0) from rfl) (by rfl)) (by rfl) (by rfl) ?_
    refine Ls.ev (some 43) (Ev.len (show Oper.op _ = Op.call { callee := Callee.builtin Builtin.len, args := #[Operand.tmp 42], argTypes := #[22] } from rfl) (by rfl) Try.underlying22) (by rfl) (by rfl) ?_
    refine Ls.ev (some 44) (Ev.eql (show Oper.op _ = Op.binOp BinOp.eql 3 (Operand.tmp 43) (Operand.const (Value.int IntKind.i64 0)) 3 from rfl) (by rfl) (by rfl)) (by rfl) (by rfl) ?_
    refine Ls.ev (some 6) (Ev.assign (show Oper.op _ = Op.assign (Operand.tmp 44) from rfl) (by rfl)) (by rfl) (by rfl) ?_
    refine Ls.nil ?_
    refine Cd.ret ?_
    refine Ent.ret (()) (trivial) (Res.tmp (by rfl) (by rfl)) ?_ [] (by rfl) ?_
    · rfl
    · rfl
  · have he := hgood hm
    skip
    refine Ls.does (some 24) (Does.readN (show Oper.op _ = Op.call { callee := Callee.value (Operand.func 10), args := #[Operand.tmp 23], argTypes := #[22] } from rfl) Try.func10 (by kernel_rfl) (by kernel_rfl) (build_sl p.1 p.2 m hpc he) (by rfl) (by rfl) ⟨ReadsIn.row 0 (by rfl), trivial⟩ (fun _ => by rfl)) (by rfl) (by rfl) ?_
    intro q _
    refine Ls.ev (some 22) (Ev.move (show Oper.op _ = Op.move (Operand.tmp 24) from rfl) (by rfl)) (by rfl) (by rfl) ?_
    refine Ls.ev (some 25) (Ev.extract (show Oper.op _ = Op.extract (Operand.tmp 22) 0 from rfl) (by rfl) (by rfl)) (by rfl) (by rfl) ?_
    refine Ls.ev (some 26) (Ev.extract (show Oper.op _ = Op.extract (Operand.tmp 22) 1 from rfl) (by rfl) (by rfl)) (by rfl) (by rfl) ?_
    refine Ls.ev (some 7) (Ev.assign (show Oper.op _ = Op.assign (Operand.tmp 25) from rfl) (by rfl)) (by rfl) (by rfl) ?_
    refine Ls.ev (some 8) (Ev.assign (show Oper.op _ = Op.assign (Operand.tmp 26) from rfl) (by rfl)) (by rfl) (by rfl) ?_
    refine Ls.nil ?_
    refine Cd.seq ?_
    refine Cd.region ?_
    refine Ls.ev (some 28) (Ev.move (show Oper.op _ = Op.move (Operand.tmp 7) from rfl) (by rfl)) (by rfl) (by rfl) ?_
    refine Ls.does (some 29) (Does.readN (show Oper.op _ = Op.call { callee := Callee.value (Operand.func 13), args := #[Operand.tmp 28], argTypes := #[25] } from rfl) Try.func13 (by kernel_rfl) (by kernel_rfl) (parse_tab he q.1 q.2) (by rfl) (by rfl) ⟨ReadsIn.row 0 (by rfl), trivial⟩ (fun _ => by rfl)) (by rfl) (by rfl) ?_
    intro t htc
    refine Ls.ev (some 27) (Ev.move (show Oper.op _ = Op.move (Operand.tmp 29) from rfl) (by rfl)) (by rfl) (by rfl) ?_
    refine Ls.ev (some 30) (Ev.extract (show Oper.op _ = Op.extract (Operand.tmp 27) 0 from rfl) (by rfl) (by rfl)) (by rfl) (by rfl) ?_
    refine Ls.ev (some 31) (Ev.extract (show Oper.op _ = Op.extract (Operand.tmp 27) 1 from rfl) (by rfl) (by rfl)) (by rfl) (by rfl) ?_
    refine Ls.ev (some 9) (Ev.assign (show Oper.op _ = Op.assign (Operand.tmp 30) from rfl) (by rfl)) (by rfl) (by rfl) ?_
    refine Ls.ev (some 10) (Ev.assign (show Oper.op _ = Op.assign (Operand.tmp 31) from rfl) (by rfl)) (by rfl) (by rfl) ?_
    refine Ls.nil ?_
    refine Cd.seq ?_
    refine Cd.seq ?_
    refine Cd.region ?_
    refine Ls.ev (some 32) (Ev.move (show Oper.op _ = Op.move (Operand.tmp 8) from rfl) (by rfl)) (by rfl) (by rfl) ?_
    refine Ls.ev (some 33) (Ev.neq (show Oper.op _ = Op.binOp BinOp.neq 26 (Operand.tmp 32) (Operand.const (Value.int IntKind.i64 0)) 26 from rfl) (by rfl) (by rfl)) (by rfl) (by rfl) ?_
    refine Ls.ev (some 34) (Ev.move (show Oper.op _ = Op.move (Operand.tmp 33) from rfl) (by rfl)) (by rfl) (by rfl) ?_
    refine Ent.known 34 false (by rfl) (by exact (rfl)) ?_
    refine Ls.ev (some 35) (Ev.move (show Oper.op _ = Op.move (Operand.tmp 10) from rfl) (by rfl)) (by rfl) (by rfl) ?_
    refine Ls.ev (some 36) (Ev.neq (show Oper.op _ = Op.binOp BinOp.neq 26 (Operand.tmp 35) (Operand.const (Value.int IntKind.i64 0)) 26 from rfl) (by rfl) (by rfl)) (by rfl) (by rfl) ?_
    refine Ls.ev (some 37) (Ev.pickF (show Oper.op _ = Op.pick (Operand.tmp 34) (Operand.const (Value.bool true)) (Operand.tmp 36) from rfl) (by rfl) (by rfl)) (by rfl) (by rfl) ?_
    refine Ls.ev (some 38) (Ev.move (show Oper.op _ = Op.move (Operand.tmp 37) from rfl) (by rfl)) (by rfl) (by rfl) ?_
    skip
    refine Ent.known 38 false (by rfl) (by exact (rfl)) ?_
    refine Ls.ev (some 39) (Ev.move (show Oper.op _ = Op.move (Operand.tmp 9) from rfl) (by rfl)) (by rfl) (by rfl) ?_
    refine Ls.ev (some 40) (Ev.ptrNil (show Oper.op _ = Op.binOp BinOp.eql 32 (Operand.tmp 39) (Operand.const (Value.pointer none)) 32 from rfl) (by rfl) (by rfl) Try.underlying32) (by rfl) (by rfl) ?_
    refine Ls.ev (some 41) (Ev.pickF (show Oper.op _ = Op.pick (Operand.tmp 38) (Operand.const (Value.bool true)) (Operand.tmp 40) from rfl) (by rfl) (by rfl)) (by rfl) (by rfl) ?_
    refine Ls.nil ?_
    skip
    refine Cd.cond_false (by rfl) (rfl) ?_
    refine Cd.skip ?_
    refine Cd.seq ?_
    refine Cd.region ?_
    refine Ls.ev (some 11) (Ev.assign (show Oper.op _ = Op.assign (Operand.const (Value.slice none 0 0)) from rfl) (by rfl)) (by rfl) (by rfl) ?_
    refine Ls.nil ?_
    refine Cd.seq ?_
    refine Cd.seq ?_
    refine Cd.region ?_
    refine Ls.ev (some 45) (Ev.move (show Oper.op _ = Op.move (Operand.tmp 0) from rfl) (by rfl)) (by rfl) (by rfl) ?_
    refine Ls.ev (some 46) (Ev.len (show Oper.op _ = Op.call { callee := Callee.builtin Builtin.len, args := #[Operand.tmp 45], argTypes := #[22] } from rfl) (by rfl) Try.underlying22) (by rfl) (by rfl) ?_
    refine Ls.ev (some 47) (Ev.move (show Oper.op _ = Op.move (Operand.const (Value.int IntKind.i64 0)) from rfl) (by rfl)) (by rfl) (by rfl) ?_
    refine Ls.nil ?_
    refine Cd.block ?_
    have hpos : 0 < m.length := by
      rcases Nat.eq_zero_or_pos m.length with h | h
      · exact absurd (List.length_eq_zero_iff.1 h) hm
      · exact h
    have hg := good_of he
    refine Ent.pick [0, 1, 2, 3, 5] (by rfl) (Ent.see 1 (by rfl) (Ent.see 2 (by rfl) (Ent.see 3 (by rfl) (Ent.see 4 (by rfl) ?_))))
    refine Ent.rdSome 4 (by rfl) hpos (fun ad had => ?_)
    refine Ent.nil 9 1 ?_
    rw [had]
    have hkl : (keysE m).length = m.length := by unfold keysE; rw [List.length_map]
    refine Cd.loop (ι := Nat × Option Addr × Nat) (fun j => [(0, .slice (some ad) m.length p.2), (1, .string key), (2, .int .i64 seq), (9, .pointer (some ⟨t.g, 0, none⟩)), (11, .slice j.2.1 (cmpK (keysE m) j.1).length j.2.2), (46, .int .i64 m.length), (47, .int .i64 j.1)]) (fun j => [row j.2.1 (cmpK (keysE m) j.1).length j.2.2 9 1 (strs (cmpK (keysE m) j.1)), blk t.g 75 (t.vals m 0), rd t.xA (bksE m).length 4 ((bksE m).flatMap Bk.enc), rdB t.fA (filL m), rdB t.bA (tabL m), rdE (some ad) m]) (fun j => j.1 ≤ m.length) (fun j => m.length - j.1) ((0, none, 0)) (Nat.zero_le _) ?_ rfl ?_
    · (repeat (first | exact trivial | refine ⟨by rfl, ?_⟩))
    rintro ⟨k, kA, kc⟩ hkm
    dsimp only at hkm ⊢
    refine Cd.seq ?_
    refine Cd.region ?_
    refine Ls.ev (some 48) (Ev.lss (show Oper.op _ = Op.binOp BinOp.lss 3 (Operand.tmp 47) (Operand.tmp 46) 3 from rfl) (by rfl) (by rfl)) (by rfl) (by rfl) ?_
    refine Ls.nil ?_
    refine Cd.seq ?_
    refine Cd.cond _ (by rfl) (fun h1 => ?_) (fun h1 => ?_)
    · skip
      have hlt : k < m.length := by have := of_decide_eq_true h1; omega
      obtain ⟨e, hee⟩ := get_of_lt hlt
      have hke : (keysE m)[k]? = some e.key := by unfold keysE; rw [List.getElem?_map, hee]; rfl
      have hcl := cmpK_le (keysE m) k
      refine Cd.skip ?_
      refine Cd.seq ?_
      refine Cd.block ?_
      refine Cd.seq ?_
      refine Cd.region ?_
      refine Ls.ev (some 49) (Ev.move (show Oper.op _ = Op.move (Operand.tmp 47) from rfl) (by rfl)) (by rfl) (by rfl) ?_
      refine Ls.ev (some 12) (Ev.assign (show Oper.op _ = Op.assign (Operand.tmp 49) from rfl) (by rfl)) (by rfl) (by rfl) ?_
      refine Ls.nil ?_
      refine Cd.seq ?_
      refine Cd.cut (ι := Unit) (fun _ => [(0, .slice (some ad) m.length p.2), (1, .string key), (2, .int .i64 seq), (9, .pointer (some ⟨t.g, 0, none⟩)), (11, .slice kA (cmpK (keysE m) k).length kc), (12, .int .i64 k), (46, .int .i64 m.length), (47, .int .i64 k), (65, .bool (decide (k = 0 ∨ (keysE m)[k - 1]? ≠ (keysE m)[k]?)))]) (fun _ => [row kA (cmpK (keysE m) k).length kc 9 1 (strs (cmpK (keysE m) k)), blk t.g 75 (t.vals m 0), rd t.xA (bksE m).length 4 ((bksE m).flatMap Bk.enc), rdB t.fA (filL m), rdB t.bA (tabL m), rdE (some ad) m]) (fun _ => True) ?_ ?_
      · skip
        refine Cd.draw [] (by kernel_rfl) ?_
        refine Rg.ev 0 (by rfl) (fun _ h => h) (Ev.move (show Oper.op _ = Op.move (Operand.tmp 12) from rfl) (by rfl)) (by rfl) (some 50) (by rfl) (by kernel_rfl) (by kernel_rfl) (by kernel_rfl) (by kernel_rfl) ?_
        refine Rg.ev 1 (by rfl) (fun _ h => h) (Ev.eql (show Oper.op _ = Op.binOp BinOp.eql 3 (Operand.tmp 50) (Operand.const (Value.int IntKind.i64 0)) 3 from rfl) (by rfl) (by rfl)) (by rfl) (some 51) (by rfl) (by kernel_rfl) (by kernel_rfl) (by kernel_rfl) (by kernel_rfl) ?_
        refine Rg.ev 2 (by rfl) (fun _ h => h) (Ev.move (show Oper.op _ = Op.move (Operand.tmp 51) from rfl) (by rfl)) (by rfl) (some 52) (by rfl) (by kernel_rfl) (by kernel_rfl) (by kernel_rfl) (by kernel_rfl) ?_
        refine Ent.split 52 (by rfl) (fun h6 => ?_) (fun h6 => ?_)
        · skip
          have h7 : k ≠ 0 := by have := of_decide_eq_false h6; omega
          obtain ⟨x, hx⟩ := get_of_lt (show k - 1 < m.length by omega)
          have hkx : (keysE m)[k - 1]? = some x.key := by unfold keysE; rw [List.getElem?_map, hx]; rfl
          skip
          refine Rg.ev 3 (by rfl) (fun _ h => h) (Ev.move (show Oper.op _ = Op.move (Operand.tmp 0) from rfl) (by rfl)) (by rfl) (some 53) (by rfl) (by kernel_rfl) (by kernel_rfl) (by kernel_rfl) (by kernel_rfl) ?_
          refine Rg.ev 4 (by rfl) (fun _ h => h) (Ev.move (show Oper.op _ = Op.move (Operand.tmp 12) from rfl) (by rfl)) (by rfl) (some 54) (by rfl) (by kernel_rfl) (by kernel_rfl) (by kernel_rfl) (by kernel_rfl) ?_
          refine Rg.ev 5 (by rfl) (fun _ h => h) (Ev.subN (b := 1) (show Oper.op _ = Op.binOp BinOp.sub 3 (Operand.tmp 54) (Operand.const (Value.int IntKind.i64 1)) 3 from rfl) (by rfl) (by rfl) (by omega)) (by rfl) (some 55) (by rfl) (by kernel_rfl) (by kernel_rfl) (by kernel_rfl) (by kernel_rfl) ?_
          refine Rg.ev 6 (by rfl) (fun _ h => h) (Ev.indexAt (sz := 4) (show Oper.op _ = Op.indexAddr 22 (Operand.tmp 53) (Operand.tmp 55) from rfl) (by rfl) (by rfl) Try.underlying22 (by kernel_rfl) (by omega)) (by rfl) (some 56) (by rfl) (by kernel_rfl) (by kernel_rfl) (by kernel_rfl) (by kernel_rfl) ?_
          refine Rg.ev 7 (by rfl) (fun _ h => h) (Ev.fieldAddrE0 (k := 0) (show Oper.op _ = Op.fieldAddr 42 (Operand.tmp 56) 0 from rfl) (by rfl) (by kernel_rfl)) (by rfl) (some 57) (by rfl) (by kernel_rfl) (by kernel_rfl) (by kernel_rfl) (by kernel_rfl) ?_
          refine Rg.ev 8 (by rfl) (fun _ h => h) (Ev.loadElF (show Oper.op _ = Op.load 9 (Operand.tmp 57) from rfl) (by rfl) (ReadsIn.rd 5 (by rfl)) (by kernel_rfl) (by intro _; rfl) (by assumption) (by rfl)) (by rfl) (some 58) (by rfl) (by kernel_rfl) (by kernel_rfl) (by kernel_rfl) (by kernel_rfl) ?_
          refine Rg.ev 9 (by rfl) (fun _ h => h) (Ev.move (show Oper.op _ = Op.move (Operand.tmp 0) from rfl) (by rfl)) (by rfl) (some 59) (by rfl) (by kernel_rfl) (by kernel_rfl) (by kernel_rfl) (by kernel_rfl) ?_
          refine Rg.ev 10 (by rfl) (fun _ h => h) (Ev.move (show Oper.op _ = Op.move (Operand.tmp 12) from rfl) (by rfl)) (by rfl) (some 60) (by rfl) (by kernel_rfl) (by kernel_rfl) (by kernel_rfl) (by kernel_rfl) ?_
          refine Rg.ev 11 (by rfl) (fun _ h => h) (Ev.indexAt (sz := 4) (show Oper.op _ = Op.indexAddr 22 (Operand.tmp 59) (Operand.tmp 60) from rfl) (by rfl) (by rfl) Try.underlying22 (by kernel_rfl) (by omega)) (by rfl) (some 61) (by rfl) (by kernel_rfl) (by kernel_rfl) (by kernel_rfl) (by kernel_rfl) ?_
          refine Rg.ev 12 (by rfl) (fun _ h => h) (Ev.fieldAddrE0 (k := 0) (show Oper.op _ = Op.fieldAddr 42 (Operand.tmp 61) 0 from rfl) (by rfl) (by kernel_rfl)) (by rfl) (some 62) (by rfl) (by kernel_rfl) (by kernel_rfl) (by kernel_rfl) (by kernel_rfl) ?_
          refine Rg.ev 13 (by rfl) (fun _ h => h) (Ev.loadElF (show Oper.op _ = Op.load 9 (Operand.tmp 62) from rfl) (by rfl) (ReadsIn.rd 5 (by rfl)) (by kernel_rfl) (by intro _; rfl) (by assumption) (by rfl)) (by rfl) (some 63) (by rfl) (by kernel_rfl) (by kernel_rfl) (by kernel_rfl) (by kernel_rfl) ?_
          refine Rg.ev 14 (by rfl) (fun _ h => h) (Ev.neqS (show Oper.op _ = Op.binOp BinOp.neq 9 (Operand.tmp 58) (Operand.tmp 63) 9 from rfl) (by rfl) (by rfl)) (by rfl) (some 64) (by rfl) (by kernel_rfl) (by kernel_rfl) (by kernel_rfl) (by kernel_rfl) ?_
          refine Rg.ev 15 (by rfl) (fun _ h => h) (Ev.pickF (show Oper.op _ = Op.pick (Operand.tmp 52) (Operand.const (Value.bool true)) (Operand.tmp 64) from rfl) (by rfl) (by rfl)) (by rfl) (some 65) (by rfl) (by kernel_rfl) (by kernel_rfl) (by kernel_rfl) (by kernel_rfl) ?_
          refine Rg.done (by kernel_rfl) ?_ _
          skip
          refine Ent.inv (()) ?_ ?_ ?_
          · (try dsimp only); skip
          · (repeat (first | exact trivial | refine ⟨by rfl, ?_⟩ | refine ⟨by simp only [List.length_append, List.length_cons, List.length_nil]; rfl, ?_⟩ | refine ⟨by push_cast; rfl, ?_⟩ | refine ⟨by (show some (Value.bool _) = some (Value.bool _); rw [hkx, hke]; congr 2; simp only [decide_eq_decide]; exact ⟨fun h => .inr (fun e => h (Option.some.inj e)), fun h => h.elim (fun h => absurd h h7) (fun h e => h (by rw [e]))⟩), ?_⟩))
          · rfl
        · skip
          have h7 : k = 0 := by have := of_decide_eq_true h6; omega
          refine Rg.pass 3 (by rfl) (fun _ h => h) (by rfl) (some 53) (by rfl) (by kernel_rfl) (by kernel_rfl) (by kernel_rfl) (by kernel_rfl) ?_
          refine Rg.pass 4 (by rfl) (fun _ h => h) (by rfl) (some 54) (by rfl) (by kernel_rfl) (by kernel_rfl) (by kernel_rfl) (by kernel_rfl) ?_
          refine Rg.pass 5 (by rfl) (fun _ h => h) (by rfl) (some 55) (by rfl) (by kernel_rfl) (by kernel_rfl) (by kernel_rfl) (by kernel_rfl) ?_
          refine Rg.pass 6 (by rfl) (fun _ h => h) (by rfl) (some 56) (by rfl) (by kernel_rfl) (by kernel_rfl) (by kernel_rfl) (by kernel_rfl) ?_
          refine Rg.pass 7 (by rfl) (fun _ h => h) (by rfl) (some 57) (by rfl) (by kernel_rfl) (by kernel_rfl) (by kernel_rfl) (by kernel_rfl) ?_
          refine Rg.pass 8 (by rfl) (fun _ h => h) (by rfl) (some 58) (by rfl) (by kernel_rfl) (by kernel_rfl) (by kernel_rfl) (by kernel_rfl) ?_
          refine Rg.pass 9 (by rfl) (fun _ h => h) (by rfl) (some 59) (by rfl) (by kernel_rfl) (by kernel_rfl) (by kernel_rfl) (by kernel_rfl) ?_
          refine Rg.pass 10 (by rfl) (fun _ h => h) (by rfl) (some 60) (by rfl) (by kernel_rfl) (by kernel_rfl) (by kernel_rfl) (by kernel_rfl) ?_
          refine Rg.pass 11 (by rfl) (fun _ h => h) (by rfl) (some 61) (by rfl) (by kernel_rfl) (by kernel_rfl) (by kernel_rfl) (by kernel_rfl) ?_
          refine Rg.pass 12 (by rfl) (fun _ h => h) (by rfl) (some 62) (by rfl) (by kernel_rfl) (by kernel_rfl) (by kernel_rfl) (by kernel_rfl) ?_
          refine Rg.pass 13 (by rfl) (fun _ h => h) (by rfl) (some 63) (by rfl) (by kernel_rfl) (by kernel_rfl) (by kernel_rfl) (by kernel_rfl) ?_
          refine Rg.pass 14 (by rfl) (fun _ h => h) (by rfl) (some 64) (by rfl) (by kernel_rfl) (by kernel_rfl) (by kernel_rfl) (by kernel_rfl) ?_
          refine Rg.ev 15 (by rfl) (fun _ h => h) (Ev.pickT (show Oper.op _ = Op.pick (Operand.tmp 52) (Operand.const (Value.bool true)) (Operand.tmp 64) from rfl) (by rfl) (by rfl)) (by rfl) (some 65) (by rfl) (by kernel_rfl) (by kernel_rfl) (by kernel_rfl) (by kernel_rfl) ?_
          refine Rg.done (by kernel_rfl) ?_ _
          refine Ent.inv (()) ?_ ?_ ?_
          · (try dsimp only); skip
          · (repeat (first | exact trivial | refine ⟨by rfl, ?_⟩ | refine ⟨by simp only [List.length_append, List.length_cons, List.length_nil]; rfl, ?_⟩ | refine ⟨by push_cast; rfl, ?_⟩ | refine ⟨by (show some (Value.bool _) = some (Value.bool _); congr 2; exact (decide_eq_true (.inl h7)).symm), ?_⟩))
          · rfl
      skip
      rintro _ -
      have hcs : cmpK (keysE m) (k + 1) = cmpK (keysE m) k ++ (if k = 0 ∨ (keysE m)[k - 1]? ≠ (keysE m)[k]? then ((keysE m)[k]?).toList else []) := rfl
      refine Cd.cond _ (by rfl) (fun h8 => ?_) (fun h8 => ?_)
      · skip
        rw [if_pos (of_decide_eq_true h8), hke] at hcs
        have hcs2 : (cmpK (keysE m) (k + 1)).length = (cmpK (keysE m) k).length + 1 := by rw [hcs, List.length_append]; rfl
        skip
        refine Cd.region ?_
        refine Ls.ev (some 66) (Ev.move (show Oper.op _ = Op.move (Operand.tmp 11) from rfl) (by rfl)) (by rfl) (by rfl) ?_
        refine Ls.ev (some 67) (Ev.move (show Oper.op _ = Op.move (Operand.tmp 0) from rfl) (by rfl)) (by rfl) (by rfl) ?_
        refine Ls.ev (some 68) (Ev.move (show Oper.op _ = Op.move (Operand.tmp 12) from rfl) (by rfl)) (by rfl) (by rfl) ?_
        refine Ls.ev (some 69) (Ev.indexAt (sz := 4) (show Oper.op _ = Op.indexAddr 22 (Operand.tmp 67) (Operand.tmp 68) from rfl) (by rfl) (by rfl) Try.underlying22 (by kernel_rfl) (by omega)) (by rfl) (by rfl) ?_
        refine Ls.ev (some 70) (Ev.fieldAddrE0 (k := 0) (show Oper.op _ = Op.fieldAddr 42 (Operand.tmp 69) 0 from rfl) (by rfl) (by kernel_rfl)) (by rfl) (by rfl) ?_
        refine Ls.ev (some 71) (Ev.loadElF (show Oper.op _ = Op.load 9 (Operand.tmp 70) from rfl) (by rfl) (ReadsIn.rd 5 (by rfl)) (by kernel_rfl) (by intro _; rfl) (by assumption) (by rfl)) (by rfl) (by rfl) ?_
        refine Ls.does (some 72) (Does.lit (sz := 1) (show Oper.op _ = Op.buildSlice 44 1 #[(0, Operand.tmp 71)] from rfl) (by rfl) Try.underlying44 (by kernel_rfl) (by rfl) (by kernel_rfl)) (by rfl) (by rfl) ?_
        intro g1 _
        skip
        refine Ls.does (some 73) (Does.app (xs := strs (cmpK (keysE m) k)) (news := strs [e.key]) 1 (show Oper.op _ = Op.call { callee := Callee.builtin Builtin.append, args := #[Operand.tmp 66, Operand.tmp 72], argTypes := #[44, 44] } from rfl) (by rfl) (by rfl) (by rfl) (ReadsIn.row 0 (by rfl)) elem_strs (strs_one _) (by omega)) (by rfl) (by rfl) ?_
        intro q3 _
        refine Ls.ev (some 11) (Ev.assign (show Oper.op _ = Op.assign (Operand.tmp 73) from rfl) (by rfl)) (by rfl) (by rfl) ?_
        refine Ls.nil ?_
        refine Cd.region ?_
        refine Ls.ev (some 74) (Ev.addN (b := 1) (show Oper.op _ = Op.binOp BinOp.add 3 (Operand.tmp 47) (Operand.const (Value.int IntKind.i64 1)) 3 from rfl) (by rfl) (by rfl) (by omega)) (by rfl) (by rfl) ?_
        refine Ls.ev (some 47) (Ev.move (show Oper.op _ = Op.move (Operand.tmp 74) from rfl) (by rfl)) (by rfl) (by rfl) ?_
        refine Ls.nil ?_
        refine Ent.pick [1, 2, 3, 4, 5, 6] (by rfl) ?_
        refine Ent.inv ((k + 1, q3)) ?_ ?_ ?_
        · (try dsimp only); exact ⟨by omega, by omega⟩
        · (repeat (first | exact trivial | refine ⟨by rfl, ?_⟩ | refine ⟨by simp only [List.length_append, List.length_cons, List.length_nil]; rfl, ?_⟩ | refine ⟨by push_cast; rfl, ?_⟩ | refine ⟨by (show some (Value.slice _ _ _) = some (Value.slice _ _ _); dsimp only; rw [hcs2]), ?_⟩))
        · (show [_, _, _, _, _, _] = [_, _, _, _, _, _]; dsimp only; rw [hcs2, hcs, strs_append]; rfl)
      · skip
        rw [if_neg (of_decide_eq_false h8), List.append_nil] at hcs
        refine Cd.skip ?_
        refine Cd.region ?_
        refine Ls.ev (some 74) (Ev.addN (b := 1) (show Oper.op _ = Op.binOp BinOp.add 3 (Operand.tmp 47) (Operand.const (Value.int IntKind.i64 1)) 3 from rfl) (by rfl) (by rfl) (by omega)) (by rfl) (by rfl) ?_
        refine Ls.ev (some 47) (Ev.move (show Oper.op _ = Op.move (Operand.tmp 74) from rfl) (by rfl)) (by rfl) (by rfl) ?_
        refine Ls.nil ?_
        refine Ent.inv ((k + 1, kA, kc)) ?_ ?_ ?_
        · (try dsimp only); exact ⟨by omega, by omega⟩
        · (repeat (first | exact trivial | refine ⟨by rfl, ?_⟩ | refine ⟨by simp only [List.length_append, List.length_cons, List.length_nil]; rfl, ?_⟩ | refine ⟨by push_cast; rfl, ?_⟩ | refine ⟨by (show some (Value.slice _ _ _) = some (Value.slice _ _ _); dsimp only; rw [hcs]), ?_⟩))
        · (show [_, _, _, _, _, _] = [_, _, _, _, _, _]; dsimp only; rw [hcs])
    · skip
      have hkm2 : k = m.length := by have := of_decide_eq_false h1; omega
      subst hkm2
      have hkn : 0 < (cmpK (keysE m) m.length).length := by
        obtain ⟨e0, he0⟩ := get_of_lt hpos
        exact List.length_pos_of_mem (cmpK_all (ks := keysE m) m.length 0 hpos (by unfold keysE; rw [List.getElem?_map, he0]; rfl))
      have hc84 := cmp_len hg
      have hcs : ∀ s ∈ (cmpK (keysE m) m.length), s.size ≤ maxLen := fun s hs => hg.cmp_le hs
      have hfl := filL_len he
      refine Cd.exit ?_
      refine Cd.seq ?_
      refine Cd.seq ?_
      refine Cd.region ?_
      refine Ls.ev (some 13) (Ev.assign (show Oper.op _ = Op.assign (Operand.const (Value.int IntKind.i64 (-1))) from rfl) (by rfl)) (by rfl) (by rfl) ?_
      refine Ls.nil ?_
      refine Cd.block ?_
      refine Ent.see 0 (by rfl) (Ent.rdSome 0 (by rfl) hkn (fun kd hkd => ?_))
      subst hkd
      skip
      refine Cd.loop (ι := Nat × Nat) (fun j => [(0, .slice (some ad) m.length p.2), (1, .string key), (2, .int .i64 seq), (9, .pointer (some ⟨t.g, 0, none⟩)), (11, .slice (some kd) (cmpK (keysE m) m.length).length kc), (13, .int .i64 ((j.1 : Int) - 1))]) (fun j => [rd (some kd) (cmpK (keysE m) m.length).length 1 (strs (cmpK (keysE m) m.length)), blk t.g 75 (t.vals m (j.2 : Int)), rd t.xA (bksE m).length 4 ((bksE m).flatMap Bk.enc), rdB t.fA (filL m), rdB t.bA (tabL m), rdE (some ad) m]) (fun j => j.1 ≤ (cmpK (keysE m) m.length).length + 1 ∧ j.2 ≤ 28 * j.1) (fun j => (cmpK (keysE m) m.length).length + 1 - j.1) ((0, 0)) (⟨Nat.zero_le _, Nat.zero_le _⟩) ?_ rfl ?_
      · (repeat (first | exact trivial | refine ⟨by rfl, ?_⟩))
      rintro ⟨j, lk⟩ ⟨hj, hlk⟩
      dsimp only at hj hlk ⊢
      refine Cd.seq ?_
      refine Cd.seq ?_
      refine Cd.region ?_
      refine Ls.ev (some 75) (Ev.move (show Oper.op _ = Op.move (Operand.tmp 13) from rfl) (by rfl)) (by rfl) (by rfl) ?_
      refine Ls.ev (some 76) (Ev.move (show Oper.op _ = Op.move (Operand.tmp 11) from rfl) (by rfl)) (by rfl) (by rfl) ?_
      refine Ls.ev (some 77) (Ev.len (show Oper.op _ = Op.call { callee := Callee.builtin Builtin.len, args := #[Operand.tmp 76], argTypes := #[44] } from rfl) (by rfl) Try.underlying44) (by rfl) (by rfl) ?_
      refine Ls.ev (some 78) (Ev.lss (show Oper.op _ = Op.binOp BinOp.lss 3 (Operand.tmp 75) (Operand.tmp 77) 3 from rfl) (by rfl) (by rfl)) (by rfl) (by rfl) ?_
      refine Ls.nil ?_
      refine Cd.cond _ (by rfl) (fun h2 => ?_) (fun h2 => ?_)
      · skip
        have hj2 : j < (cmpK (keysE m) m.length).length + 1 := by have := of_decide_eq_true h2; omega
        refine Cd.skip ?_
        refine Cd.seq ?_
        refine Cd.block ?_
        refine Cd.seq ?_
        refine Cd.region ?_
        refine Ls.ev (some 81) (Ev.move (show Oper.op _ = Op.move (Operand.tmp 1) from rfl) (by rfl)) (by rfl) (by rfl) ?_
        refine Ls.ev (some 14) (Ev.assign (show Oper.op _ = Op.assign (Operand.tmp 81) from rfl) (by rfl)) (by rfl) (by rfl) ?_
        refine Ls.nil ?_
        refine Cd.seq ?_
        refine Cd.seq ?_
        refine Cd.region ?_
        refine Ls.ev (some 82) (Ev.move (show Oper.op _ = Op.move (Operand.tmp 13) from rfl) (by rfl)) (by rfl) (by rfl) ?_
        refine Ls.ev (some 83) (Ev.geq (show Oper.op _ = Op.binOp BinOp.geq 3 (Operand.tmp 82) (Operand.const (Value.int IntKind.i64 0)) 3 from rfl) (by rfl) (by rfl)) (by rfl) (by rfl) ?_
        refine Ls.nil ?_
        refine Cd.cut (ι := ByteArray) (fun kk => [(0, .slice (some ad) m.length p.2), (1, .string key), (2, .int .i64 seq), (9, .pointer (some ⟨t.g, 0, none⟩)), (11, .slice (some kd) (cmpK (keysE m) m.length).length kc), (13, .int .i64 ((j : Int) - 1)), (14, .string kk)]) (fun _ => [rd (some kd) (cmpK (keysE m) m.length).length 1 (strs (cmpK (keysE m) m.length)), blk t.g 75 (t.vals m (lk : Int)), rd t.xA (bksE m).length 4 ((bksE m).flatMap Bk.enc), rdB t.fA (filL m), rdB t.bA (tabL m), rdE (some ad) m]) (fun kk => kk.size ≤ maxLen) ?_ ?_
        · skip
          refine Cd.cond _ (by rfl) (fun h3 => ?_) (fun h3 => ?_)
          · skip
            have hj1 : 1 ≤ j := by have := of_decide_eq_true h3; omega
            obtain ⟨v, hv⟩ := get_of_lt (show ((j : Int) - 1).toNat < (cmpK (keysE m) m.length).length by omega)
            refine Cd.region ?_
            refine Ls.ev (some 84) (Ev.move (show Oper.op _ = Op.move (Operand.tmp 11) from rfl) (by rfl)) (by rfl) (by rfl) ?_
            refine Ls.ev (some 85) (Ev.move (show Oper.op _ = Op.move (Operand.tmp 13) from rfl) (by rfl)) (by rfl) (by rfl) ?_
            refine Ls.ev (some 86) (Ev.indexAddr (sz := 1) (show Oper.op _ = Op.indexAddr 44 (Operand.tmp 84) (Operand.tmp 85) from rfl) (by rfl) (by rfl) Try.underlying44 (by kernel_rfl) (by omega)) (by rfl) (by rfl) ?_
            refine Ls.ev (some 87) (Ev.loadStr (show Oper.op _ = Op.load 9 (Operand.tmp 86) from rfl) (by rfl) (ReadsIn.rd 0 (by rfl)) (by kernel_rfl) (by assumption)) (by rfl) (by rfl) ?_
            refine Ls.ev (some 14) (Ev.assign (show Oper.op _ = Op.assign (Operand.tmp 87) from rfl) (by rfl)) (by rfl) (by rfl) ?_
            refine Ls.nil ?_
            refine Ent.inv (v) ?_ ?_ ?_
            · (try dsimp only); exact hcs v (List.mem_of_getElem? hv)
            · (repeat (first | exact trivial | refine ⟨by rfl, ?_⟩ | refine ⟨by simp only [List.length_append, List.length_cons, List.length_nil]; rfl, ?_⟩ | refine ⟨by push_cast; rfl, ?_⟩))
            · rfl
          · skip
            refine Cd.skip ?_
            refine Ent.inv (key) ?_ ?_ ?_
            · (try dsimp only); exact hk
            · (repeat (first | exact trivial | refine ⟨by rfl, ?_⟩ | refine ⟨by simp only [List.length_append, List.length_cons, List.length_nil]; rfl, ?_⟩ | refine ⟨by push_cast; rfl, ?_⟩))
            · rfl
        skip
        rintro kk hkk
        skip
        refine Cd.seq ?_
        refine Cd.region ?_
        refine Ls.ev (some 15) (Ev.assign (show Oper.op _ = Op.assign (Operand.const (Value.int IntKind.i64 0)) from rfl) (by rfl)) (by rfl) (by rfl) ?_
        refine Ls.nil ?_
        refine Cd.seq ?_
        refine Cd.seq ?_
        refine Cd.region ?_
        refine Ls.ev (some 16) (Ev.assign (show Oper.op _ = Op.assign (Operand.const (Value.int IntKind.i64 0)) from rfl) (by rfl)) (by rfl) (by rfl) ?_
        refine Ls.nil ?_
        refine Cd.block ?_
        refine Cd.loop (ι := Nat) (fun k => [(0, .slice (some ad) m.length p.2), (1, .string key), (2, .int .i64 seq), (9, .pointer (some ⟨t.g, 0, none⟩)), (11, .slice (some kd) (cmpK (keysE m) m.length).length kc), (13, .int .i64 ((j : Int) - 1)), (14, .string kk), (15, .int .i64 ((List.range k).countP (within m kk) : Nat)), (16, .int .i64 (3 * k : Nat))]) (fun _ => [rd (some kd) (cmpK (keysE m) m.length).length 1 (strs (cmpK (keysE m) m.length)), blk t.g 75 (t.vals m (lk : Int)), rd t.xA (bksE m).length 4 ((bksE m).flatMap Bk.enc), rdB t.fA (filL m), rdB t.bA (tabL m), rdE (some ad) m]) (fun k => k ≤ nbE m) (fun k => nbE m - k) (0) (Nat.zero_le _) ?_ rfl ?_
        · (repeat (first | exact trivial | refine ⟨by rfl, ?_⟩))
        intro k hkb
        refine Cd.seq ?_
        refine Cd.seq ?_
        refine Cd.region ?_
        refine Ls.ev (some 88) (Ev.move (show Oper.op _ = Op.move (Operand.tmp 16) from rfl) (by rfl)) (by rfl) (by rfl) ?_
        refine Ls.ev (some 89) (Ev.move (show Oper.op _ = Op.move (Operand.tmp 0) from rfl) (by rfl)) (by rfl) (by rfl) ?_
        refine Ls.ev (some 90) (Ev.len (show Oper.op _ = Op.call { callee := Callee.builtin Builtin.len, args := #[Operand.tmp 89], argTypes := #[22] } from rfl) (by rfl) Try.underlying22) (by rfl) (by rfl) ?_
        refine Ls.ev (some 91) (Ev.lss (show Oper.op _ = Op.binOp BinOp.lss 3 (Operand.tmp 88) (Operand.tmp 90) 3 from rfl) (by rfl) (by rfl)) (by rfl) (by rfl) ?_
        refine Ls.nil ?_
        refine Cd.cond _ (by rfl) (fun h4 => ?_) (fun h4 => ?_)
        · skip
          have hlt : 3 * k < m.length := by have := of_decide_eq_true h4; omega
          have hkb2 : k < nbE m := by unfold nbE; omega
          have hbp := blk_pos (l := m) hkb2
          have hbl := blkE_len m k
          have hbn : blkN m.length k = min 3 (m.length - 3 * k) := rfl
          obtain ⟨e0, he0⟩ := get_of_lt hbp
          obtain ⟨eL, heL⟩ := get_of_lt (show (blkE m k).length - 1 < (blkE m k).length by omega)
          have h0 : m[3 * k]? = some e0 := (blkE_get he0).1
          have hL : m[3 * k + ((blkE m k).length - 1)]? = some eL := (blkE_get heL).1
          have hcp := range_countP_le (within m kk) k
          have hw : within m kk k = ((Op.bytesLess e0.key.toList kk.toList || (e0.key.toList == kk.toList)) && (Op.bytesLess kk.toList eL.key.toList || (kk.toList == eL.key.toList))) := by
            unfold within
            rw [fstK_of he0, lstK_of heL, ← gtr_eq, ← gtr_eq, Bool.not_not, Bool.not_not, Bool.and_comm]
          refine Cd.skip ?_
          refine Cd.seq ?_
          refine Cd.block ?_
          refine Cd.seq ?_
          refine Cd.cut (ι := Unit) (fun _ => [(0, .slice (some ad) m.length p.2), (1, .string key), (2, .int .i64 seq), (9, .pointer (some ⟨t.g, 0, none⟩)), (11, .slice (some kd) (cmpK (keysE m) m.length).length kc), (13, .int .i64 ((j : Int) - 1)), (14, .string kk), (15, .int .i64 ((List.range k).countP (within m kk) : Nat)), (16, .int .i64 (3 * k : Nat)), (114, .bool (within m kk k))]) (fun _ => [rd (some kd) (cmpK (keysE m) m.length).length 1 (strs (cmpK (keysE m) m.length)), blk t.g 75 (t.vals m (lk : Int)), rd t.xA (bksE m).length 4 ((bksE m).flatMap Bk.enc), rdB t.fA (filL m), rdB t.bA (tabL m), rdE (some ad) m]) (fun _ => True) ?_ ?_
          · skip
            skip
            refine Cd.region ?_
            refine Ls.ev (some 94) (Ev.move (show Oper.op _ = Op.move (Operand.tmp 0) from rfl) (by rfl)) (by rfl) (by rfl) ?_
            refine Ls.ev (some 95) (Ev.move (show Oper.op _ = Op.move (Operand.tmp 16) from rfl) (by rfl)) (by rfl) (by rfl) ?_
            refine Ls.ev (some 96) (Ev.indexAt (sz := 4) (show Oper.op _ = Op.indexAddr 22 (Operand.tmp 94) (Operand.tmp 95) from rfl) (by rfl) (by rfl) Try.underlying22 (by kernel_rfl) (by omega)) (by rfl) (by rfl) ?_
            refine Ls.ev (some 97) (Ev.fieldAddrE0 (k := 0) (show Oper.op _ = Op.fieldAddr 42 (Operand.tmp 96) 0 from rfl) (by rfl) (by kernel_rfl)) (by rfl) (by rfl) ?_
            refine Ls.ev (some 98) (Ev.loadElF (show Oper.op _ = Op.load 9 (Operand.tmp 97) from rfl) (by rfl) (ReadsIn.rd 5 (by rfl)) (by kernel_rfl) (by intro _; rfl) (by assumption) (by rfl)) (by rfl) (by rfl) ?_
            refine Ls.ev (some 99) (Ev.move (show Oper.op _ = Op.move (Operand.tmp 14) from rfl) (by rfl)) (by rfl) (by rfl) ?_
            refine Ls.ev (some 100) (Ev.leqS (show Oper.op _ = Op.binOp BinOp.leq 9 (Operand.tmp 98) (Operand.tmp 99) 9 from rfl) (by rfl) (by rfl)) (by rfl) (by rfl) ?_
            refine Ls.ev (some 101) (Ev.move (show Oper.op _ = Op.move (Operand.tmp 100) from rfl) (by rfl)) (by rfl) (by rfl) ?_
            refine Ent.split 101 (by rfl) (fun h5 => ?_) (fun h5 => ?_)
            · skip
              refine Ls.pass (some 102) (by rfl) (by rfl) ?_
              refine Ls.pass (some 103) (by rfl) (by rfl) ?_
              refine Ls.pass (some 104) (by rfl) (by rfl) ?_
              refine Ls.pass (some 105) (by rfl) (by rfl) ?_
              refine Ls.pass (some 106) (by rfl) (by rfl) ?_
              refine Ls.pass (some 107) (by rfl) (by rfl) ?_
              refine Ls.pass (some 108) (by rfl) (by rfl) ?_
              refine Ls.pass (some 109) (by rfl) (by rfl) ?_
              refine Ls.pass (some 110) (by rfl) (by rfl) ?_
              refine Ls.pass (some 111) (by rfl) (by rfl) ?_
              refine Ls.pass (some 112) (by rfl) (by rfl) ?_
              refine Ls.pass (some 113) (by rfl) (by rfl) ?_
              refine Ls.ev (some 114) (Ev.pickF (show Oper.op _ = Op.pick (Operand.tmp 101) (Operand.tmp 113) (Operand.const (Value.bool false)) from rfl) (by rfl) (by rfl)) (by rfl) (by rfl) ?_
              refine Ls.nil ?_
              refine Ent.inv (()) ?_ ?_ ?_
              · (try dsimp only); skip
              · (repeat (first | exact trivial | refine ⟨by rfl, ?_⟩ | refine ⟨by simp only [List.length_append, List.length_cons, List.length_nil]; rfl, ?_⟩ | refine ⟨by push_cast; rfl, ?_⟩ | refine ⟨by (show some (Value.bool _) = some (Value.bool _); rw [hw, h5]; rfl), ?_⟩))
              · rfl
            · skip
              refine Ls.ev (some 102) (Ev.move (show Oper.op _ = Op.move (Operand.tmp 14) from rfl) (by rfl)) (by rfl) (by rfl) ?_
              refine Ls.ev (some 103) (Ev.move (show Oper.op _ = Op.move (Operand.tmp 0) from rfl) (by rfl)) (by rfl) (by rfl) ?_
              refine Ls.ev (some 104) (Ev.move (show Oper.op _ = Op.move (Operand.tmp 16) from rfl) (by rfl)) (by rfl) (by rfl) ?_
              refine Ls.ev (some 105) (Ev.addN (b := 2) (show Oper.op _ = Op.binOp BinOp.add 3 (Operand.tmp 104) (Operand.const (Value.int IntKind.i64 2)) 3 from rfl) (by rfl) (by rfl) (by omega)) (by rfl) (by rfl) ?_
              refine Ls.ev (some 106) (Ev.move (show Oper.op _ = Op.move (Operand.tmp 0) from rfl) (by rfl)) (by rfl) (by rfl) ?_
              refine Ls.ev (some 107) (Ev.len (show Oper.op _ = Op.call { callee := Callee.builtin Builtin.len, args := #[Operand.tmp 106], argTypes := #[22] } from rfl) (by rfl) Try.underlying22) (by rfl) (by rfl) ?_
              refine Ls.ev (some 108) (Ev.subN (b := 1) (show Oper.op _ = Op.binOp BinOp.sub 3 (Operand.tmp 107) (Operand.const (Value.int IntKind.i64 1)) 3 from rfl) (by rfl) (by rfl) (by omega)) (by rfl) (by rfl) ?_
              refine Ls.ev (some 109) (Ev.minN (a := 3 * k + 2) (b := m.length - 1) (m := 3 * k + ((blkE m k).length - 1)) (show Oper.op _ = Op.call { callee := Callee.builtin Builtin.min, args := #[Operand.tmp 105, Operand.tmp 108], argTypes := #[3, 3] } from rfl) (by rfl) (by rfl) (by omega)) (by rfl) (by rfl) ?_
              refine Ls.ev (some 110) (Ev.indexAt (sz := 4) (show Oper.op _ = Op.indexAddr 22 (Operand.tmp 103) (Operand.tmp 109) from rfl) (by rfl) (by rfl) Try.underlying22 (by kernel_rfl) (by omega)) (by rfl) (by rfl) ?_
              refine Ls.ev (some 111) (Ev.fieldAddrE0 (k := 0) (show Oper.op _ = Op.fieldAddr 42 (Operand.tmp 110) 0 from rfl) (by rfl) (by kernel_rfl)) (by rfl) (by rfl) ?_
              refine Ls.ev (some 112) (Ev.loadElF (show Oper.op _ = Op.load 9 (Operand.tmp 111) from rfl) (by rfl) (ReadsIn.rd 5 (by rfl)) (by kernel_rfl) (by intro _; rfl) (by assumption) (by rfl)) (by rfl) (by rfl) ?_
              refine Ls.ev (some 113) (Ev.leqS (show Oper.op _ = Op.binOp BinOp.leq 9 (Operand.tmp 102) (Operand.tmp 112) 9 from rfl) (by rfl) (by rfl)) (by rfl) (by rfl) ?_
              refine Ls.ev (some 114) (Ev.pickT (show Oper.op _ = Op.pick (Operand.tmp 101) (Operand.tmp 113) (Operand.const (Value.bool false)) from rfl) (by rfl) (by rfl)) (by rfl) (by rfl) ?_
              refine Ls.nil ?_
              refine Ent.inv (()) ?_ ?_ ?_
              · (try dsimp only); skip
              · (repeat (first | exact trivial | refine ⟨by rfl, ?_⟩ | refine ⟨by simp only [List.length_append, List.length_cons, List.length_nil]; rfl, ?_⟩ | refine ⟨by push_cast; rfl, ?_⟩ | refine ⟨by (show some (Value.bool _) = some (Value.bool _); rw [hw, h5]; rfl), ?_⟩))
              · rfl
            skip
          skip
          rintro _ -
          refine Cd.cond _ (by rfl) (fun h6 => ?_) (fun h6 => ?_)
          · skip
            refine Cd.region ?_
            refine Ls.ev (some 115) (Ev.move (show Oper.op _ = Op.move (Operand.tmp 15) from rfl) (by rfl)) (by rfl) (by rfl) ?_
            refine Ls.ev (some 116) (Ev.addN (b := 1) (show Oper.op _ = Op.binOp BinOp.add 3 (Operand.tmp 115) (Operand.const (Value.int IntKind.i64 1)) 3 from rfl) (by rfl) (by rfl) (by omega)) (by rfl) (by rfl) ?_
            refine Ls.ev (some 15) (Ev.assign (show Oper.op _ = Op.assign (Operand.tmp 116) from rfl) (by rfl)) (by rfl) (by rfl) ?_
            refine Ls.nil ?_
            refine Cd.region ?_
            refine Ls.ev (some 92) (Ev.move (show Oper.op _ = Op.move (Operand.tmp 16) from rfl) (by rfl)) (by rfl) (by rfl) ?_
            refine Ls.ev (some 93) (Ev.addN (b := 3) (show Oper.op _ = Op.binOp BinOp.add 3 (Operand.tmp 92) (Operand.const (Value.int IntKind.i64 3)) 3 from rfl) (by rfl) (by rfl) (by omega)) (by rfl) (by rfl) ?_
            refine Ls.ev (some 16) (Ev.assign (show Oper.op _ = Op.assign (Operand.tmp 93) from rfl) (by rfl)) (by rfl) (by rfl) ?_
            refine Ls.nil ?_
            refine Ent.inv (k + 1) ?_ ?_ ?_
            · (try dsimp only); exact ⟨by omega, by omega⟩
            · (repeat (first | exact trivial | refine ⟨by rfl, ?_⟩ | refine ⟨by simp only [List.length_append, List.length_cons, List.length_nil]; rfl, ?_⟩ | refine ⟨by push_cast; rfl, ?_⟩ | refine ⟨by (show some (Value.int _ _) = some (Value.int _ _); rw [range_countP_succ, if_pos h6]; try rfl), ?_⟩))
            · rfl
          · skip
            refine Cd.skip ?_
            refine Cd.region ?_
            refine Ls.ev (some 92) (Ev.move (show Oper.op _ = Op.move (Operand.tmp 16) from rfl) (by rfl)) (by rfl) (by rfl) ?_
            refine Ls.ev (some 93) (Ev.addN (b := 3) (show Oper.op _ = Op.binOp BinOp.add 3 (Operand.tmp 92) (Operand.const (Value.int IntKind.i64 3)) 3 from rfl) (by rfl) (by rfl) (by omega)) (by rfl) (by rfl) ?_
            refine Ls.ev (some 16) (Ev.assign (show Oper.op _ = Op.assign (Operand.tmp 93) from rfl) (by rfl)) (by rfl) (by rfl) ?_
            refine Ls.nil ?_
            refine Ent.inv (k + 1) ?_ ?_ ?_
            · (try dsimp only); exact ⟨by omega, by omega⟩
            · (repeat (first | exact trivial | refine ⟨by rfl, ?_⟩ | refine ⟨by simp only [List.length_append, List.length_cons, List.length_nil]; rfl, ?_⟩ | refine ⟨by push_cast; rfl, ?_⟩ | refine ⟨by (show some (Value.int _ _) = some (Value.int _ _); rw [range_countP_succ, if_neg (by rw [h6]; decide)]; try rfl), ?_⟩))
            · rfl
        · skip
          have hkb2 : k = nbE m := by have := of_decide_eq_false h4; unfold nbE at hkb ⊢; omega
          subst hkb2
          have hcp := range_countP_le (within m kk) (nbE m)
          have hnb := hg.nb_le
          refine Cd.exit ?_
          refine Cd.seq ?_
          refine Cd.seq ?_
          refine Cd.region ?_
          refine Ls.ev (some 117) (Ev.move (show Oper.op _ = Op.move (Operand.tmp 11) from rfl) (by rfl)) (by rfl) (by rfl) ?_
          refine Ls.does (some 118) (Does.readN (show Oper.op _ = Op.call { callee := Callee.value (Operand.func 22), args := #[Operand.tmp 117, Operand.const (Value.int IntKind.i64 10)], argTypes := #[44, 3] } from rfl) Try.func22 (by kernel_rfl) (by kernel_rfl) (refBBuild_sl (some kd) kc (cmpK (keysE m) m.length) 10 (by omega) hcs) (by rfl) (by rfl) ⟨ReadsIn.rd 0 (by rfl), trivial⟩ (fun _ => by rfl)) (by rfl) (by rfl) ?_
          intro f _
          refine Ls.ev (some 119) (Ev.move (show Oper.op _ = Op.move (Operand.tmp 14) from rfl) (by rfl)) (by rfl) (by rfl) ?_
          refine Ls.does (some 120) (Does.read (show Oper.op _ = Op.call { callee := Callee.value (Operand.func 21), args := #[Operand.tmp 118, Operand.tmp 119], argTypes := #[25, 9] } from rfl) Try.func21 (by kernel_rfl) (by kernel_rfl) (refMay_sl f.1 f.2 (filL m) kk (by unfold maxLen; omega) hkk) (by rfl) (by rfl) ⟨ReadsIn.row 0 (by rfl), trivial⟩) (by rfl) (by rfl) ?_
          rintro _ -
          refine Ls.ev (some 121) (Ev.not (show Oper.op _ = Op.unOp UnOp.not 4 (Operand.tmp 120) from rfl) (by rfl)) (by rfl) (by rfl) ?_
          refine Ls.nil ?_
          refine Ent.pick [1, 2, 3, 4, 5, 6] (by rfl) ?_
          refine Cd.cut (ι := Unit) (fun _ => [(0, .slice (some ad) m.length p.2), (1, .string key), (2, .int .i64 seq), (9, .pointer (some ⟨t.g, 0, none⟩)), (11, .slice (some kd) (cmpK (keysE m) m.length).length kc), (13, .int .i64 ((j : Int) - 1)), (14, .string kk), (15, .int .i64 ((if mayL (filL m) kk.data.toList = true then (List.range (nbE m)).countP (within m kk) else 0) : Nat))]) (fun _ => [rd (some kd) (cmpK (keysE m) m.length).length 1 (strs (cmpK (keysE m) m.length)), blk t.g 75 (t.vals m (lk : Int)), rd t.xA (bksE m).length 4 ((bksE m).flatMap Bk.enc), rdB t.fA (filL m), rdB t.bA (tabL m), rdE (some ad) m]) (fun _ => True) ?_ ?_
          · skip
            refine Cd.cond _ (by rfl) (fun h7 => ?_) (fun h7 => ?_)
            · skip
              have h8 : ¬ mayL (filL m) kk.data.toList = true := by simpa using h7
              refine Cd.region ?_
              refine Ls.ev (some 15) (Ev.assign (show Oper.op _ = Op.assign (Operand.const (Value.int IntKind.i64 0)) from rfl) (by rfl)) (by rfl) (by rfl) ?_
              refine Ls.nil ?_
              refine Ent.inv (()) ?_ ?_ ?_
              · (try dsimp only); skip
              · (repeat (first | exact trivial | refine ⟨by rfl, ?_⟩ | refine ⟨by simp only [List.length_append, List.length_cons, List.length_nil]; rfl, ?_⟩ | refine ⟨by push_cast; rfl, ?_⟩ | refine ⟨by (show some (Value.int _ _) = some (Value.int _ _); rw [if_neg h8]; rfl), ?_⟩))
              · rfl
            · skip
              have h8 : mayL (filL m) kk.data.toList = true := by simpa using h7
              refine Cd.skip ?_
              refine Ent.inv (()) ?_ ?_ ?_
              · (try dsimp only); skip
              · (repeat (first | exact trivial | refine ⟨by rfl, ?_⟩ | refine ⟨by simp only [List.length_append, List.length_cons, List.length_nil]; rfl, ?_⟩ | refine ⟨by push_cast; rfl, ?_⟩ | refine ⟨by (show some (Value.int _ _) = some (Value.int _ _); rw [if_pos h8]), ?_⟩))
              · rfl
          skip
          rintro _ -
          have hget := (getR_tab he kk seq).2
          have hln := lookN_le he kk seq
          have hmy : (if mayL (filL m) kk.data.toList = true then (List.range (nbE m)).countP (within m kk) else 0) ≤ 28 := by split <;> omega
          revert hget hmy
          generalize (if mayL (filL m) kk.data.toList = true then (List.range (nbE m)).countP (within m kk) else 0) = may
          intro hget hmy
          refine Cd.seq ?_
          refine Cd.region ?_
          refine Ls.ev (some 122) (Ev.move (show Oper.op _ = Op.move (Operand.tmp 9) from rfl) (by rfl)) (by rfl) (by rfl) ?_
          refine Ls.does (some 123) (Does.read (show Oper.op _ = Op.call { callee := Callee.value (Operand.func 23), args := #[Operand.tmp 122], argTypes := #[32] } from rfl) Try.func23 (by kernel_rfl) (by kernel_rfl) (blocks_sl t.g t.bA (tabL m).length t.bc t.xA (bksE m).length t.xc t.fA (filL m).length t.fc m.length lk) (by rfl) (by rfl) ⟨blkIn 1 (by rfl), trivial⟩) (by rfl) (by rfl) ?_
          rintro _ -
          refine Ls.ev (some 17) (Ev.assign (show Oper.op _ = Op.assign (Operand.tmp 123) from rfl) (by rfl)) (by rfl) (by rfl) ?_
          refine Ls.nil ?_
          refine Cd.seq ?_
          refine Cd.region ?_
          refine Ls.ev (some 124) (Ev.move (show Oper.op _ = Op.move (Operand.tmp 9) from rfl) (by rfl)) (by rfl) (by rfl) ?_
          refine Ls.ev (some 125) (Ev.move (show Oper.op _ = Op.move (Operand.tmp 14) from rfl) (by rfl)) (by rfl) (by rfl) ?_
          refine Ls.ev (some 126) (Ev.move (show Oper.op _ = Op.move (Operand.tmp 2) from rfl) (by rfl)) (by rfl) (by rfl) ?_
          refine Ls.does (some 127) (Does.call [1, 2, 4, 3, 0, 2, 3, 4, 5] (show Oper.op _ = Op.call { callee := Callee.value (Operand.func 24), args := #[Operand.tmp 124, Operand.tmp 125, Operand.tmp 126], argTypes := #[32, 9, 3] } from rfl) Try.func24 (by kernel_rfl) (by kernel_rfl) (get_tab he t lk kk seq htc hkk (by omega)) (by rfl) (by rfl) (by rfl)) (by rfl) (by rfl) ?_
          rintro _ -
          refine Ls.nil ?_
          refine Cd.seq ?_
          refine Cd.region ?_
          refine Ls.ev (some 128) (Ev.move (show Oper.op _ = Op.move (Operand.tmp 9) from rfl) (by rfl)) (by rfl) (by rfl) ?_
          refine Ls.does (some 129) (Does.read (show Oper.op _ = Op.call { callee := Callee.value (Operand.func 23), args := #[Operand.tmp 128], argTypes := #[32] } from rfl) Try.func23 (by kernel_rfl) (by kernel_rfl) (blocks_sl t.g t.bA (tabL m).length t.bc t.xA (bksE m).length t.xc t.fA (filL m).length t.fc m.length (lk + lookN m kk seq)) (by rfl) (by rfl) ⟨blkIn 0 (by rfl), trivial⟩) (by rfl) (by rfl) ?_
          rintro _ -
          refine Ls.ev (some 130) (Ev.move (show Oper.op _ = Op.move (Operand.tmp 17) from rfl) (by rfl)) (by rfl) (by rfl) ?_
          refine Ls.ev (some 131) (Ev.lss (show Oper.op _ = Op.binOp BinOp.lss 3 (Operand.tmp 129) (Operand.tmp 130) 3 from rfl) (by rfl) (by rfl)) (by rfl) (by rfl) ?_
          refine Ls.ev (some 132) (Ev.move (show Oper.op _ = Op.move (Operand.tmp 131) from rfl) (by rfl)) (by rfl) (by rfl) ?_
          refine Ent.known 132 false (by rfl) (by exact (decide_eq_false (by omega))) ?_
          refine Ls.ev (some 133) (Ev.move (show Oper.op _ = Op.move (Operand.tmp 9) from rfl) (by rfl)) (by rfl) (by rfl) ?_
          skip
          refine Ls.does (some 134) (Does.read (show Oper.op _ = Op.call { callee := Callee.value (Operand.func 23), args := #[Operand.tmp 133], argTypes := #[32] } from rfl) Try.func23 (by kernel_rfl) (by kernel_rfl) (blocks_sl t.g t.bA (tabL m).length t.bc t.xA (bksE m).length t.xc t.fA (filL m).length t.fc m.length (lk + lookN m kk seq)) (by rfl) (by rfl) ⟨blkIn 0 (by rfl), trivial⟩) (by rfl) (by rfl) ?_
          rintro _ -
          refine Ls.ev (some 135) (Ev.move (show Oper.op _ = Op.move (Operand.tmp 17) from rfl) (by rfl)) (by rfl) (by rfl) ?_
          refine Ls.ev (some 136) (Ev.move (show Oper.op _ = Op.move (Operand.tmp 15) from rfl) (by rfl)) (by rfl) (by rfl) ?_
          refine Ls.ev (some 137) (Ev.addN (show Oper.op _ = Op.binOp BinOp.add 3 (Operand.tmp 135) (Operand.tmp 136) 3 from rfl) (by rfl) (by rfl) (by omega)) (by rfl) (by rfl) ?_
          refine Ls.ev (some 138) (Ev.gtr (show Oper.op _ = Op.binOp BinOp.gtr 3 (Operand.tmp 134) (Operand.tmp 137) 3 from rfl) (by rfl) (by rfl)) (by rfl) (by rfl) ?_
          refine Ls.ev (some 139) (Ev.pickF (show Oper.op _ = Op.pick (Operand.tmp 132) (Operand.const (Value.bool true)) (Operand.tmp 138) from rfl) (by rfl) (by rfl)) (by rfl) (by rfl) ?_
          refine Ls.nil ?_
          refine Cd.cond_false (by rfl) (decide_eq_false (by omega)) ?_
          skip
          refine Cd.skip ?_
          refine Cd.region ?_
          refine Ls.ev (some 79) (Ev.move (show Oper.op _ = Op.move (Operand.tmp 13) from rfl) (by rfl)) (by rfl) (by rfl) ?_
          refine Ls.ev (some 80) (Ev.addI (show Oper.op _ = Op.binOp BinOp.add 3 (Operand.tmp 79) (Operand.const (Value.int IntKind.i64 1)) 3 from rfl) (by rfl) (by rfl) (by omega)) (by rfl) (by rfl) ?_
          refine Ls.ev (some 13) (Ev.assign (show Oper.op _ = Op.assign (Operand.tmp 80) from rfl) (by rfl)) (by rfl) (by rfl) ?_
          refine Ls.nil ?_
          refine Ent.pick [1, 0, 2, 3, 4, 5] (by rfl) ?_
          refine Ent.inv ((j + 1, lk + lookN m kk seq)) ?_ ?_ ?_
          · (try dsimp only); exact ⟨⟨by omega, by omega⟩, by omega⟩
          · (repeat (first | exact trivial | refine ⟨by rfl, ?_⟩ | refine ⟨by simp only [List.length_append, List.length_cons, List.length_nil]; rfl, ?_⟩ | refine ⟨by push_cast; rfl, ?_⟩ | refine ⟨by (show some (Value.int _ _) = some (Value.int _ _); congr 2; push_cast; omega), ?_⟩))
          · (dsimp only; rw [show ((lk + lookN m kk seq : Nat) : Int) = (lk : Int) + (lookN m kk seq : Nat) from by push_cast; rfl]; rfl)
      · skip
        refine Cd.exit ?_
        refine Cd.seq ?_
        refine Cd.region ?_
        refine Ls.ev (some 6) (Ev.assign (show Oper.op _ = Op.assign (Operand.const (Value.bool true)) from rfl) (by rfl)) (by rfl) (by rfl) ?_
        refine Ls.nil ?_
        refine Cd.ret ?_
        refine Ent.ret (()) (trivial) (Res.tmp (by rfl) (by rfl)) ?_ [] (by rfl) ?_
        · rfl
        · rfl
set_option maxRecDepth 100000 in
theorem blocks_vals (W : World) (args : Array Value) (hv : Vals Try.prog W [22, 9, 3] args.toList) :
    Calls Try.prog 5 args W fun e W' => e = .returned (.bool true) ∧ Below W.heap.size W W' := by
  obtain ⟨v0, r0, e0, h0, v1, r1, rfl, h1, v2, r2, rfl, h2, rfl⟩ := hv
  obtain rfl : args = #[v0, v1, v2] := by cases args; simp_all
  obtain ⟨A, c, l, rfl, hr, _, hc, hn⟩ := val_ents h0
  obtain ⟨key, rfl, hk, _⟩ := val_string Try.underlying9 h1
  obtain ⟨seq, rfl, _⟩ := val_int Try.underlying3 h2
  exact Fn.law (blocks_fn W A c l key seq hr (by omega) hk)

set_option maxRecDepth 100000 in
theorem blocks_lifted (os : Os) (started : os.Started) (H : Type) (enc : TypeId × Value → H) :
    ReturnsInHanded {} Try.checked os 5 .any (Rows.sstBlocksSpec.pre6 enc Try.prog Try.f5 Rows.sstBlocksRow.domain false) (Rows.sstBlocksSpec.post enc Try.prog Try.f5 false true false false) :=
  lift_law (C := Try.checked) #[22, 9, 3] (by kernel_rfl) (by kernel_rfl) started (by kernel_rfl) Try.func5
    (ChangeSpec.witness6 (enc := enc) (C := Try.checked) false ⟨#[], #[.slice none 0 0, .string ⟨#[]⟩, .int .i64 0], []⟩ 8 (by kernel_rfl) (by kernel_rfl) (by kernel_rfl) (by kernel_rfl))
    Try.params5 (by kernel_rfl) rfl rfl Try.underlying4 (fun ds hl => match ds, hl with | [_, _, _], _ => rfl) (fun W args hv => blocks_vals W args hv)

theorem blocks_holds : Rows.SstBlocksSaid :=
  OpenClaim.holds_of_wide 5 Try.f5 rfl rfl rfl rfl rfl rfl rfl ⟨rfl, rfl, rfl, rfl, rfl⟩ rfl rfl rfl rfl rfl (by kernel_rfl) Try.func5 (by kernel_rfl)
    (of_decide_eq_true (by kernel_rfl)) (by unfold Func.isWrapper; rw [if_neg (of_decide_eq_false (by kernel_rfl))]; exact ⟨rfl, rfl⟩)
    (fun os started H enc _ => blocks_lifted os started H enc)
end Go.Proofs.Ytnhcfhamcakfkaa
