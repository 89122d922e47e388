/-
  Texts joined: SstI.
-/
import Derived.Test.YtnhcfhamcakfkaaMSstL1f
/- the document's Build, over pieces -/
namespace Go.Proofs.Ytnhcfhamcakfkaa
open Go.RowKit
theorem min_blk {n k : Nat} (h : 3 * k < n) : 3 * k + blkN n k = min n (3 * k + 3) := by
  show 3 * k + Nat.min 3 (n - 3 * k) = _
  have : Nat.min 3 (n - 3 * k) = min 3 (n - 3 * k) := rfl
  omega
set_option maxHeartbeats 1000000 in
theorem refBuild_sl (A : Option Addr) (c : Nat) (l : List Ety) (h : errL l = 0) : Fn Try.prog 12 #[.slice A l.length c] [rdE A l] (Option Addr × Nat) (fun p => .slice p.1 (tabL l).length p.2) (fun p => [rowB p.1 p.2 (tabL l)]) (fun _ => True) := by
  have hg := good_of h
  have hle := hg.le
  have hpos := hg.pos
  have hnb := hg.nb_le
  refine Fn.enter Try.func12 rfl Try.ntmps12 (by rfl) ?_
  intro w0
  skip
  refine Cd.seq ?_
  refine Cd.region ?_
  refine Ls.ev (some 2) (Ev.assign (show Oper.op _ = Op.assign (Operand.const (Value.slice none 0 0)) from rfl) (by rfl)) (by rfl) (by rfl) ?_
  refine Ls.nil ?_
  refine Cd.seq ?_
  refine Cd.region ?_
  refine Ls.ev (some 3) (Ev.assign (show Oper.op _ = Op.assign (Operand.const (Value.slice none 0 0)) from rfl) (by rfl)) (by rfl) (by rfl) ?_
  refine Ls.ev (some 4) (Ev.assign (show Oper.op _ = Op.assign (Operand.const (Value.slice none 0 0)) from rfl) (by rfl)) (by rfl) (by rfl) ?_
  refine Ls.nil ?_
  refine Cd.seq ?_
  refine Cd.region ?_
  refine Ls.ev (some 5) (Ev.assign (show Oper.op _ = Op.assign (Operand.const (Value.slice none 0 0)) from rfl) (by rfl)) (by rfl) (by rfl) ?_
  refine Ls.nil ?_
  refine Cd.seq ?_
  refine Cd.region ?_
  refine Ls.ev (some 6) (Ev.assign (show Oper.op _ = Op.assign (Operand.const (Value.int IntKind.i64 0)) from rfl) (by rfl)) (by rfl) (by rfl) ?_
  refine Ls.nil ?_
  refine Cd.seq ?_
  refine Cd.seq ?_
  refine Cd.region ?_
  refine Ls.ev (some 7) (Ev.assign (show Oper.op _ = Op.assign (Operand.const (Value.int IntKind.i64 0)) from rfl) (by rfl)) (by rfl) (by rfl) ?_
  refine Ls.nil ?_
  refine Cd.block ?_
  refine Ent.rdSome 0 (by rfl) (by omega) (fun ad had => ?_)
  subst had
  refine Ent.nil 9 1 (Ent.nil 5 1 (Ent.nil 5 1 ?_))
  refine Cd.loop (ι := Nat × BuL) (fun j => [(0, .slice (some ad) l.length c), (3, .slice j.2.oA (outK l j.1).length j.2.oc), (4, .slice j.2.xA (idxK l j.1).length j.2.xc), (5, .slice j.2.kA (cmpK (keysE l) (min (3 * j.1) l.length)).length j.2.kc), (6, .int .i64 j.1), (7, .int .i64 (3 * j.1 : Nat))]) (fun j => [rowB j.2.oA j.2.oc (outK l j.1), rowB j.2.xA j.2.xc (idxK l j.1), row j.2.kA (cmpK (keysE l) (min (3 * j.1) l.length)).length j.2.kc 9 1 (strs (cmpK (keysE l) (min (3 * j.1) l.length))), rdE (some ad) l]) (fun j => j.1 ≤ nbE l) (fun j => nbE l - j.1) ((0, ⟨none, 0, none, 0, none, 0⟩)) (Nat.zero_le _) ?_ rfl ?_
  · (repeat (first | exact trivial | refine ⟨by rfl, ?_⟩))
  rintro ⟨k, oA, oc, xA, xc, kA, kc⟩ hk
  dsimp only at hk ⊢
  refine Cd.seq ?_
  refine Cd.seq ?_
  refine Cd.region ?_
  refine Ls.ev (some 14) (Ev.move (show Oper.op _ = Op.move (Operand.tmp 7) from rfl) (by rfl)) (by rfl) (by rfl) ?_
  refine Ls.ev (some 15) (Ev.move (show Oper.op _ = Op.move (Operand.tmp 0) from rfl) (by rfl)) (by rfl) (by rfl) ?_
  refine Ls.ev (some 16) (Ev.len (show Oper.op _ = Op.call { callee := Callee.builtin Builtin.len, args := #[Operand.tmp 15], argTypes := #[22] } from rfl) (by rfl) Try.underlying22) (by rfl) (by rfl) ?_
  refine Ls.ev (some 17) (Ev.lss (show Oper.op _ = Op.binOp BinOp.lss 3 (Operand.tmp 14) (Operand.tmp 16) 3 from rfl) (by rfl) (by rfl)) (by rfl) (by rfl) ?_
  refine Ls.nil ?_
  refine Cd.cond _ (by rfl) (fun h1 => ?_) (fun h1 => ?_)
  · skip
    have hlt : 3 * k < l.length := by have := of_decide_eq_true h1; omega
    have hk28 : k < 28 := by omega
    have hm3 := min_blk hlt
    refine Cd.skip ?_
    refine Cd.seq ?_
    refine Cd.block ?_
    refine Cd.seq ?_
    refine Cd.region ?_
    refine Ls.ev (some 20) (Ev.move (show Oper.op _ = Op.move (Operand.tmp 0) from rfl) (by rfl)) (by rfl) (by rfl) ?_
    refine Ls.ev (some 21) (Ev.len (show Oper.op _ = Op.call { callee := Callee.builtin Builtin.len, args := #[Operand.tmp 20], argTypes := #[22] } from rfl) (by rfl) Try.underlying22) (by rfl) (by rfl) ?_
    refine Ls.ev (some 22) (Ev.move (show Oper.op _ = Op.move (Operand.tmp 7) from rfl) (by rfl)) (by rfl) (by rfl) ?_
    refine Ls.ev (some 23) (Ev.addN (b := 3) (show Oper.op _ = Op.binOp BinOp.add 3 (Operand.tmp 22) (Operand.const (Value.int IntKind.i64 3)) 3 from rfl) (by rfl) (by rfl) (by omega)) (by rfl) (by rfl) ?_
    refine Ls.ev (some 24) (Ev.minN (a := l.length) (b := 3 * k + 3) (m := 3 * k + blkN l.length k) (show Oper.op _ = Op.call { callee := Callee.builtin Builtin.min, args := #[Operand.tmp 21, Operand.tmp 23], argTypes := #[3, 3] } from rfl) (by rfl) (by rfl) hm3.symm) (by rfl) (by rfl) ?_
    refine Ls.ev (some 8) (Ev.assign (show Oper.op _ = Op.assign (Operand.tmp 24) from rfl) (by rfl)) (by rfl) (by rfl) ?_
    refine Ls.nil ?_
    refine Cd.seq ?_
    refine Cd.region ?_
    refine Ls.ev (some 9) (Ev.assign (show Oper.op _ = Op.assign (Operand.const (Value.slice none 0 0)) from rfl) (by rfl)) (by rfl) (by rfl) ?_
    refine Ls.nil ?_
    refine Cd.seq ?_
    refine Cd.seq ?_
    refine Cd.region ?_
    refine Ls.ev (some 25) (Ev.move (show Oper.op _ = Op.move (Operand.tmp 7) from rfl) (by rfl)) (by rfl) (by rfl) ?_
    refine Ls.ev (some 10) (Ev.assign (show Oper.op _ = Op.assign (Operand.tmp 25) from rfl) (by rfl)) (by rfl) (by rfl) ?_
    refine Ls.nil ?_
    refine Cd.block ?_
    have hbl : (blkE l k).length = blkN l.length k := blkE_len l k
    have hbn : 0 < blkN l.length k ∧ blkN l.length k ≤ 3 ∧ 3 * k + blkN l.length k ≤ l.length := by omega
    have hmk : min (3 * k) l.length = 3 * k := by omega
    rw [hmk]
    have hbs : (blkE l k).length ≤ 3 := blkE_le k
    have hkl : (keysE l).length = l.length := by unfold keysE; rw [List.length_map]
    refine Ent.nil 5 1 (Ent.pick [0, 3, 1, 2, 4] (by rfl) ?_)
    refine Cd.loop (ι := Nat × (Option Addr × Nat) × (Option Addr × Nat)) (fun j => [(0, .slice (some ad) l.length c), (3, .slice oA (outK l k).length oc), (4, .slice xA (idxK l k).length xc), (5, .slice j.2.2.1 (cmpK (keysE l) (3 * k + j.1)).length j.2.2.2), (6, .int .i64 k), (7, .int .i64 (3 * k : Nat)), (8, .int .i64 (3 * k + blkN l.length k : Nat)), (9, .slice j.2.1.1 (bodyE ((blkE l k).take j.1)).length j.2.1.2), (10, .int .i64 (3 * k + j.1 : Nat))]) (fun j => [rowB j.2.1.1 j.2.1.2 (bodyE ((blkE l k).take j.1)), row j.2.2.1 (cmpK (keysE l) (3 * k + j.1)).length j.2.2.2 9 1 (strs (cmpK (keysE l) (3 * k + j.1))), rowB oA oc (outK l k), rowB xA xc (idxK l k), rdE (some ad) l]) (fun j => j.1 ≤ (blkE l k).length) (fun j => (blkE l k).length - j.1) ((0, (none, 0), (kA, kc))) (Nat.zero_le _) ?_ rfl ?_
    · (repeat (first | exact trivial | refine ⟨by rfl, ?_⟩))
    rintro ⟨j, ⟨bA, bc⟩, ⟨mA, mc⟩⟩ hj
    dsimp only at hj ⊢
    refine Cd.seq ?_
    refine Cd.seq ?_
    refine Cd.region ?_
    refine Ls.ev (some 26) (Ev.move (show Oper.op _ = Op.move (Operand.tmp 10) from rfl) (by rfl)) (by rfl) (by rfl) ?_
    refine Ls.ev (some 27) (Ev.move (show Oper.op _ = Op.move (Operand.tmp 8) from rfl) (by rfl)) (by rfl) (by rfl) ?_
    refine Ls.ev (some 28) (Ev.lss (show Oper.op _ = Op.binOp BinOp.lss 3 (Operand.tmp 26) (Operand.tmp 27) 3 from rfl) (by rfl) (by rfl)) (by rfl) (by rfl) ?_
    refine Ls.nil ?_
    refine Cd.cond _ (by rfl) (fun h5 => ?_) (fun h5 => ?_)
    · skip
      have hjl : j < (blkE l k).length := by have := of_decide_eq_true h5; omega
      obtain ⟨e, he⟩ := get_of_lt hjl
      have hee := hg.blk_ok k e (List.mem_of_getElem? he)
      have hel := (blkE_get he).1
      have hb1 := body_succ he
      have hb2 := bodyE_len (l := (blkE l k).take (j + 1)) (fun x hx => hg.blk_ok k x (List.mem_of_mem_take hx))
      rw [List.length_take] at hb2
      have hb3 : (bodyE ((blkE l k).take (j + 1))).length = (bodyE ((blkE l k).take j)).length + (putL e).length := by rw [hb1, List.length_append]
      have hcl := cmpK_le (keysE l) (3 * k + j)
      have hke : (keysE l)[3 * k + j]? = some e.key := by unfold keysE; rw [List.getElem?_map, hel]; rfl
      refine Cd.skip ?_
      refine Cd.seq ?_
      refine Cd.block ?_
      refine Cd.seq ?_
      refine Cd.region ?_
      refine Ls.ev (some 31) (Ev.move (show Oper.op _ = Op.move (Operand.tmp 9) from rfl) (by rfl)) (by rfl) (by rfl) ?_
      refine Ls.ev (some 32) (Ev.move (show Oper.op _ = Op.move (Operand.tmp 0) from rfl) (by rfl)) (by rfl) (by rfl) ?_
      refine Ls.ev (some 33) (Ev.move (show Oper.op _ = Op.move (Operand.tmp 10) from rfl) (by rfl)) (by rfl) (by rfl) ?_
      refine Ls.ev (some 34) (Ev.indexAt (sz := 4) (show Oper.op _ = Op.indexAddr 22 (Operand.tmp 32) (Operand.tmp 33) from rfl) (by rfl) (by rfl) Try.underlying22 (by kernel_rfl) (by omega)) (by rfl) (by rfl) ?_
      refine Ls.ev (some 35) (Ev.loadEl (show Oper.op _ = Op.load 42 (Operand.tmp 34) from rfl) (by rfl) (ReadsIn.rd 4 (by rfl)) (by kernel_rfl) (by intro _; rfl) (by assumption)) (by rfl) (by rfl) ?_
      refine Ls.does (some 36) (Does.readN (show Oper.op _ = Op.call { callee := Callee.value (Operand.func 39), args := #[Operand.tmp 35], argTypes := #[42] } from rfl) Try.func39 (by kernel_rfl) (by kernel_rfl) (refEntry_sl e hee) (by rfl) (by rfl) trivial (fun _ => by rfl)) (by rfl) (by rfl) ?_
      intro q _
      refine Ls.does (some 37) (Does.appB (l := bodyE ((blkE l k).take j)) (m := putL e) 1 (show Oper.op _ = Op.call { callee := Callee.builtin Builtin.append, args := #[Operand.tmp 31, Operand.tmp 36], argTypes := #[25, 25] } from rfl) (by rfl) (by rfl) (by rfl) (ReadsIn.row 0 (by rfl)) (by omega)) (by rfl) (by rfl) ?_
      intro q2 _
      rw [← hb1]
      refine Ls.ev (some 9) (Ev.assign (show Oper.op _ = Op.assign (Operand.tmp 37) from rfl) (by rfl)) (by rfl) (by rfl) ?_
      refine Ls.nil ?_
      refine Cd.seq ?_
      refine Ent.pick [1, 2, 3, 4, 5] (by rfl) ?_
      refine Cd.cut (ι := Unit) (fun _ => [(0, .slice (some ad) l.length c), (3, .slice oA (outK l k).length oc), (4, .slice xA (idxK l k).length xc), (5, .slice mA (cmpK (keysE l) (3 * k + j)).length mc), (6, .int .i64 k), (7, .int .i64 (3 * k : Nat)), (8, .int .i64 (3 * k + blkN l.length k : Nat)), (9, .slice q2.1 (bodyE ((blkE l k).take (j + 1))).length q2.2), (10, .int .i64 (3 * k + j : Nat)), (53, .bool (decide (3 * k + j = 0 ∨ (keysE l)[3 * k + j - 1]? ≠ (keysE l)[3 * k + j]?)))]) (fun _ => [rowB q2.1 q2.2 (bodyE ((blkE l k).take (j + 1))), row mA (cmpK (keysE l) (3 * k + j)).length mc 9 1 (strs (cmpK (keysE l) (3 * k + j))), rowB oA oc (outK l k), rowB xA xc (idxK l k), rdE (some ad) l]) (fun _ => True) ?_ ?_
      · skip
        refine Cd.draw [] (by kernel_rfl) ?_
        refine Rg.ev 0 (by rfl) (fun _ h => h) (Ev.move (show Oper.op _ = Op.move (Operand.tmp 10) from rfl) (by rfl)) (by rfl) (some 38) (by rfl) (by kernel_rfl) (by kernel_rfl) (by kernel_rfl) (by kernel_rfl) ?_
        refine Rg.ev 1 (by rfl) (fun _ h => h) (Ev.eql (show Oper.op _ = Op.binOp BinOp.eql 3 (Operand.tmp 38) (Operand.const (Value.int IntKind.i64 0)) 3 from rfl) (by rfl) (by rfl)) (by rfl) (some 39) (by rfl) (by kernel_rfl) (by kernel_rfl) (by kernel_rfl) (by kernel_rfl) ?_
        refine Rg.ev 2 (by rfl) (fun _ h => h) (Ev.move (show Oper.op _ = Op.move (Operand.tmp 39) from rfl) (by rfl)) (by rfl) (some 40) (by rfl) (by kernel_rfl) (by kernel_rfl) (by kernel_rfl) (by kernel_rfl) ?_
        refine Ent.split 40 (by rfl) (fun h6 => ?_) (fun h6 => ?_)
        · skip
          have h7 : 3 * k + j ≠ 0 := by have := of_decide_eq_false h6; omega
          obtain ⟨p, hp⟩ := get_of_lt (show 3 * k + j - 1 < l.length by omega)
          have hkp : (keysE l)[3 * k + j - 1]? = some p.key := by unfold keysE; rw [List.getElem?_map, hp]; rfl
          skip
          refine Rg.ev 3 (by rfl) (fun _ h => h) (Ev.move (show Oper.op _ = Op.move (Operand.tmp 0) from rfl) (by rfl)) (by rfl) (some 41) (by rfl) (by kernel_rfl) (by kernel_rfl) (by kernel_rfl) (by kernel_rfl) ?_
          refine Rg.ev 4 (by rfl) (fun _ h => h) (Ev.move (show Oper.op _ = Op.move (Operand.tmp 10) from rfl) (by rfl)) (by rfl) (some 42) (by rfl) (by kernel_rfl) (by kernel_rfl) (by kernel_rfl) (by kernel_rfl) ?_
          refine Rg.ev 5 (by rfl) (fun _ h => h) (Ev.subN (b := 1) (show Oper.op _ = Op.binOp BinOp.sub 3 (Operand.tmp 42) (Operand.const (Value.int IntKind.i64 1)) 3 from rfl) (by rfl) (by rfl) (by omega)) (by rfl) (some 43) (by rfl) (by kernel_rfl) (by kernel_rfl) (by kernel_rfl) (by kernel_rfl) ?_
          refine Rg.ev 6 (by rfl) (fun _ h => h) (Ev.indexAt (sz := 4) (show Oper.op _ = Op.indexAddr 22 (Operand.tmp 41) (Operand.tmp 43) from rfl) (by rfl) (by rfl) Try.underlying22 (by kernel_rfl) (by omega)) (by rfl) (some 44) (by rfl) (by kernel_rfl) (by kernel_rfl) (by kernel_rfl) (by kernel_rfl) ?_
          refine Rg.ev 7 (by rfl) (fun _ h => h) (Ev.fieldAddrE0 (k := 0) (show Oper.op _ = Op.fieldAddr 42 (Operand.tmp 44) 0 from rfl) (by rfl) (by kernel_rfl)) (by rfl) (some 45) (by rfl) (by kernel_rfl) (by kernel_rfl) (by kernel_rfl) (by kernel_rfl) ?_
          refine Rg.ev 8 (by rfl) (fun _ h => h) (Ev.loadElF (show Oper.op _ = Op.load 9 (Operand.tmp 45) from rfl) (by rfl) (ReadsIn.rd 4 (by rfl)) (by kernel_rfl) (by intro _; rfl) (by assumption) (by rfl)) (by rfl) (some 46) (by rfl) (by kernel_rfl) (by kernel_rfl) (by kernel_rfl) (by kernel_rfl) ?_
          refine Rg.ev 9 (by rfl) (fun _ h => h) (Ev.move (show Oper.op _ = Op.move (Operand.tmp 0) from rfl) (by rfl)) (by rfl) (some 47) (by rfl) (by kernel_rfl) (by kernel_rfl) (by kernel_rfl) (by kernel_rfl) ?_
          refine Rg.ev 10 (by rfl) (fun _ h => h) (Ev.move (show Oper.op _ = Op.move (Operand.tmp 10) from rfl) (by rfl)) (by rfl) (some 48) (by rfl) (by kernel_rfl) (by kernel_rfl) (by kernel_rfl) (by kernel_rfl) ?_
          refine Rg.ev 11 (by rfl) (fun _ h => h) (Ev.indexAt (sz := 4) (show Oper.op _ = Op.indexAddr 22 (Operand.tmp 47) (Operand.tmp 48) from rfl) (by rfl) (by rfl) Try.underlying22 (by kernel_rfl) (by omega)) (by rfl) (some 49) (by rfl) (by kernel_rfl) (by kernel_rfl) (by kernel_rfl) (by kernel_rfl) ?_
          refine Rg.ev 12 (by rfl) (fun _ h => h) (Ev.fieldAddrE0 (k := 0) (show Oper.op _ = Op.fieldAddr 42 (Operand.tmp 49) 0 from rfl) (by rfl) (by kernel_rfl)) (by rfl) (some 50) (by rfl) (by kernel_rfl) (by kernel_rfl) (by kernel_rfl) (by kernel_rfl) ?_
          refine Rg.ev 13 (by rfl) (fun _ h => h) (Ev.loadElF (show Oper.op _ = Op.load 9 (Operand.tmp 50) from rfl) (by rfl) (ReadsIn.rd 4 (by rfl)) (by kernel_rfl) (by intro _; rfl) (by assumption) (by rfl)) (by rfl) (some 51) (by rfl) (by kernel_rfl) (by kernel_rfl) (by kernel_rfl) (by kernel_rfl) ?_
          refine Rg.ev 14 (by rfl) (fun _ h => h) (Ev.neqS (show Oper.op _ = Op.binOp BinOp.neq 9 (Operand.tmp 46) (Operand.tmp 51) 9 from rfl) (by rfl) (by rfl)) (by rfl) (some 52) (by rfl) (by kernel_rfl) (by kernel_rfl) (by kernel_rfl) (by kernel_rfl) ?_
          refine Rg.ev 15 (by rfl) (fun _ h => h) (Ev.pickF (show Oper.op _ = Op.pick (Operand.tmp 40) (Operand.const (Value.bool true)) (Operand.tmp 52) from rfl) (by rfl) (by rfl)) (by rfl) (some 53) (by rfl) (by kernel_rfl) (by kernel_rfl) (by kernel_rfl) (by kernel_rfl) ?_
          refine Rg.done (by kernel_rfl) ?_ _
          skip
          refine Ent.inv (()) ?_ ?_ ?_
          · (try dsimp only); skip
          · (repeat (first | exact trivial | refine ⟨by rfl, ?_⟩ | refine ⟨by simp only [List.length_append, List.length_cons, List.length_nil]; rfl, ?_⟩ | refine ⟨by push_cast; rfl, ?_⟩ | refine ⟨by (show some (Value.bool _) = some (Value.bool _); rw [hkp, hke]; congr 2; simp only [decide_eq_decide]; exact ⟨fun h => .inr (fun e => h (Option.some.inj e)), fun h => h.elim (fun h => absurd h h7) (fun h e => h (by rw [e]))⟩), ?_⟩))
          · rfl
        · skip
          have h7 : 3 * k + j = 0 := by have := of_decide_eq_true h6; omega
          refine Rg.pass 3 (by rfl) (fun _ h => h) (by rfl) (some 41) (by rfl) (by kernel_rfl) (by kernel_rfl) (by kernel_rfl) (by kernel_rfl) ?_
          refine Rg.pass 4 (by rfl) (fun _ h => h) (by rfl) (some 42) (by rfl) (by kernel_rfl) (by kernel_rfl) (by kernel_rfl) (by kernel_rfl) ?_
          refine Rg.pass 5 (by rfl) (fun _ h => h) (by rfl) (some 43) (by rfl) (by kernel_rfl) (by kernel_rfl) (by kernel_rfl) (by kernel_rfl) ?_
          refine Rg.pass 6 (by rfl) (fun _ h => h) (by rfl) (some 44) (by rfl) (by kernel_rfl) (by kernel_rfl) (by kernel_rfl) (by kernel_rfl) ?_
          refine Rg.pass 7 (by rfl) (fun _ h => h) (by rfl) (some 45) (by rfl) (by kernel_rfl) (by kernel_rfl) (by kernel_rfl) (by kernel_rfl) ?_
          refine Rg.pass 8 (by rfl) (fun _ h => h) (by rfl) (some 46) (by rfl) (by kernel_rfl) (by kernel_rfl) (by kernel_rfl) (by kernel_rfl) ?_
          refine Rg.pass 9 (by rfl) (fun _ h => h) (by rfl) (some 47) (by rfl) (by kernel_rfl) (by kernel_rfl) (by kernel_rfl) (by kernel_rfl) ?_
          refine Rg.pass 10 (by rfl) (fun _ h => h) (by rfl) (some 48) (by rfl) (by kernel_rfl) (by kernel_rfl) (by kernel_rfl) (by kernel_rfl) ?_
          refine Rg.pass 11 (by rfl) (fun _ h => h) (by rfl) (some 49) (by rfl) (by kernel_rfl) (by kernel_rfl) (by kernel_rfl) (by kernel_rfl) ?_
          refine Rg.pass 12 (by rfl) (fun _ h => h) (by rfl) (some 50) (by rfl) (by kernel_rfl) (by kernel_rfl) (by kernel_rfl) (by kernel_rfl) ?_
          refine Rg.pass 13 (by rfl) (fun _ h => h) (by rfl) (some 51) (by rfl) (by kernel_rfl) (by kernel_rfl) (by kernel_rfl) (by kernel_rfl) ?_
          refine Rg.pass 14 (by rfl) (fun _ h => h) (by rfl) (some 52) (by rfl) (by kernel_rfl) (by kernel_rfl) (by kernel_rfl) (by kernel_rfl) ?_
          refine Rg.ev 15 (by rfl) (fun _ h => h) (Ev.pickT (show Oper.op _ = Op.pick (Operand.tmp 40) (Operand.const (Value.bool true)) (Operand.tmp 52) from rfl) (by rfl) (by rfl)) (by rfl) (some 53) (by rfl) (by kernel_rfl) (by kernel_rfl) (by kernel_rfl) (by kernel_rfl) ?_
          refine Rg.done (by kernel_rfl) ?_ _
          refine Ent.inv (()) ?_ ?_ ?_
          · (try dsimp only); skip
          · (repeat (first | exact trivial | refine ⟨by rfl, ?_⟩ | refine ⟨by simp only [List.length_append, List.length_cons, List.length_nil]; rfl, ?_⟩ | refine ⟨by push_cast; rfl, ?_⟩ | refine ⟨by (show some (Value.bool _) = some (Value.bool _); congr 2; exact (decide_eq_true (.inl h7)).symm), ?_⟩))
          · rfl
      skip
      rintro _ -
      have hcs : cmpK (keysE l) (3 * k + (j + 1)) = cmpK (keysE l) (3 * k + j) ++ (if 3 * k + j = 0 ∨ (keysE l)[3 * k + j - 1]? ≠ (keysE l)[3 * k + j]? then ((keysE l)[3 * k + j]?).toList else []) := rfl
      refine Cd.cond _ (by rfl) (fun h8 => ?_) (fun h8 => ?_)
      · skip
        rw [if_pos (of_decide_eq_true h8), hke] at hcs
        have hcs2 : (cmpK (keysE l) (3 * k + (j + 1))).length = (cmpK (keysE l) (3 * k + j)).length + 1 := by rw [hcs, List.length_append]; rfl
        skip
        refine Cd.region ?_
        refine Ls.ev (some 54) (Ev.move (show Oper.op _ = Op.move (Operand.tmp 5) from rfl) (by rfl)) (by rfl) (by rfl) ?_
        refine Ls.ev (some 55) (Ev.move (show Oper.op _ = Op.move (Operand.tmp 0) from rfl) (by rfl)) (by rfl) (by rfl) ?_
        refine Ls.ev (some 56) (Ev.move (show Oper.op _ = Op.move (Operand.tmp 10) from rfl) (by rfl)) (by rfl) (by rfl) ?_
        refine Ls.ev (some 57) (Ev.indexAt (sz := 4) (show Oper.op _ = Op.indexAddr 22 (Operand.tmp 55) (Operand.tmp 56) from rfl) (by rfl) (by rfl) Try.underlying22 (by kernel_rfl) (by omega)) (by rfl) (by rfl) ?_
        refine Ls.ev (some 58) (Ev.fieldAddrE0 (k := 0) (show Oper.op _ = Op.fieldAddr 42 (Operand.tmp 57) 0 from rfl) (by rfl) (by kernel_rfl)) (by rfl) (by rfl) ?_
        refine Ls.ev (some 59) (Ev.loadElF (show Oper.op _ = Op.load 9 (Operand.tmp 58) from rfl) (by rfl) (ReadsIn.rd 4 (by rfl)) (by kernel_rfl) (by intro _; rfl) (by assumption) (by rfl)) (by rfl) (by rfl) ?_
        refine Ls.does (some 60) (Does.lit (sz := 1) (show Oper.op _ = Op.buildSlice 44 1 #[(0, Operand.tmp 59)] from rfl) (by rfl) Try.underlying44 (by kernel_rfl) (by rfl) (by kernel_rfl)) (by rfl) (by rfl) ?_
        intro g1 _
        skip
        refine Ls.does (some 61) (Does.app (xs := strs (cmpK (keysE l) (3 * k + j))) (news := strs [e.key]) 2 (show Oper.op _ = Op.call { callee := Callee.builtin Builtin.append, args := #[Operand.tmp 54, Operand.tmp 60], argTypes := #[44, 44] } from rfl) (by rfl) (by rfl) (by rfl) (ReadsIn.row 0 (by rfl)) elem_strs (strs_one _) (by omega)) (by rfl) (by rfl) ?_
        intro q3 _
        refine Ls.ev (some 5) (Ev.assign (show Oper.op _ = Op.assign (Operand.tmp 61) from rfl) (by rfl)) (by rfl) (by rfl) ?_
        refine Ls.nil ?_
        refine Cd.region ?_
        refine Ls.ev (some 29) (Ev.move (show Oper.op _ = Op.move (Operand.tmp 10) from rfl) (by rfl)) (by rfl) (by rfl) ?_
        refine Ls.ev (some 30) (Ev.addN (b := 1) (show Oper.op _ = Op.binOp BinOp.add 3 (Operand.tmp 29) (Operand.const (Value.int IntKind.i64 1)) 3 from rfl) (by rfl) (by rfl) (by omega)) (by rfl) (by rfl) ?_
        refine Ls.ev (some 10) (Ev.assign (show Oper.op _ = Op.assign (Operand.tmp 30) from rfl) (by rfl)) (by rfl) (by rfl) ?_
        refine Ls.nil ?_
        refine Ent.pick [1, 2, 3, 4, 5] (by rfl) ?_
        refine Ent.inv ((j + 1, q2, q3)) ?_ ?_ ?_
        · (try dsimp only); exact ⟨by omega, by omega⟩
        · (repeat (first | exact trivial | refine ⟨by rfl, ?_⟩ | refine ⟨by simp only [List.length_append, List.length_cons, List.length_nil]; rfl, ?_⟩ | refine ⟨by push_cast; rfl, ?_⟩ | refine ⟨by (show some (Value.slice _ _ _) = some (Value.slice _ _ _); dsimp only; rw [hcs2]), ?_⟩))
        · (show [_, _, _, _, _] = [_, _, _, _, _]; dsimp only; rw [hcs2, hcs, strs_append]; rfl)
      · skip
        rw [if_neg (of_decide_eq_false h8), List.append_nil] at hcs
        refine Cd.skip ?_
        refine Cd.region ?_
        refine Ls.ev (some 29) (Ev.move (show Oper.op _ = Op.move (Operand.tmp 10) from rfl) (by rfl)) (by rfl) (by rfl) ?_
        refine Ls.ev (some 30) (Ev.addN (b := 1) (show Oper.op _ = Op.binOp BinOp.add 3 (Operand.tmp 29) (Operand.const (Value.int IntKind.i64 1)) 3 from rfl) (by rfl) (by rfl) (by omega)) (by rfl) (by rfl) ?_
        refine Ls.ev (some 10) (Ev.assign (show Oper.op _ = Op.assign (Operand.tmp 30) from rfl) (by rfl)) (by rfl) (by rfl) ?_
        refine Ls.nil ?_
        refine Ent.inv ((j + 1, q2, (mA, mc))) ?_ ?_ ?_
        · (try dsimp only); exact ⟨by omega, by omega⟩
        · (repeat (first | exact trivial | refine ⟨by rfl, ?_⟩ | refine ⟨by simp only [List.length_append, List.length_cons, List.length_nil]; rfl, ?_⟩ | refine ⟨by push_cast; rfl, ?_⟩ | refine ⟨by (show some (Value.slice _ _ _) = some (Value.slice _ _ _); dsimp only; rw [hcs]), ?_⟩))
        · (show [_, _, _, _, _] = [_, _, _, _, _]; dsimp only; rw [hcs])
    · skip
      have hjl : j = (blkE l k).length := by have := of_decide_eq_false h5; omega
      subst hjl
      rw [List.take_length]
      have hbody := hg.body_le k
      have hseal := hg.seal_le k
      have hout := hg.out_le k
      have hidx := hg.idx_le k (by omega)
      have hidx1 := hg.idx1_le (k := k) (by omega)
      obtain ⟨e0, he0⟩ := get_of_lt (show 0 < (blkE l k).length by omega)
      obtain ⟨eL, heL⟩ := get_of_lt (show (blkE l k).length - 1 < (blkE l k).length by omega)
      have hf := hg.fst_le k
      have hl := hg.lst_le k
      rw [fstK_of he0] at hf
      rw [lstK_of heL] at hl
      have hl0 : l[3 * k]? = some e0 := (blkE_get he0).1
      have hlL : l[3 * k + blkN l.length k - 1]? = some eL := by rw [← hbl, show 3 * k + (blkE l k).length - 1 = 3 * k + ((blkE l k).length - 1) by omega]; exact (blkE_get heL).1
      have hix : idxE l k = textL e0.key ++ textL eL.key ++ uintL (outK l k).length ++ uintL (sealL (bodyE (blkE l k))).length := by unfold idxE; rw [fstK_of he0, lstK_of heL]
      have hixl : (idxE l k).length = (textL e0.key).length + (textL eL.key).length + (uintL (outK l k).length).length + (uintL (sealL (bodyE (blkE l k))).length).length := by rw [hix]; simp only [List.length_append]
      skip
      refine Cd.exit ?_
      refine Cd.seq ?_
      refine Cd.region ?_
      refine Ls.ev (some 62) (Ev.move (show Oper.op _ = Op.move (Operand.tmp 9) from rfl) (by rfl)) (by rfl) (by rfl) ?_
      refine Ls.does (some 63) (Does.readN (show Oper.op _ = Op.call { callee := Callee.value (Operand.func 40), args := #[Operand.tmp 62], argTypes := #[25] } from rfl) Try.func40 (by kernel_rfl) (by kernel_rfl) (refSeal_sl bA bc (bodyE (blkE l k)) (by omega)) (by rfl) (by rfl) ⟨ReadsIn.row 0 (by rfl), trivial⟩ (fun _ => by rfl)) (by rfl) (by rfl) ?_
      intro q _
      refine Ls.ev (some 11) (Ev.assign (show Oper.op _ = Op.assign (Operand.tmp 63) from rfl) (by rfl)) (by rfl) (by rfl) ?_
      refine Ls.nil ?_
      refine Cd.seq ?_
      refine Cd.region ?_
      refine Ls.ev (some 64) (Ev.move (show Oper.op _ = Op.move (Operand.tmp 4) from rfl) (by rfl)) (by rfl) (by rfl) ?_
      refine Ls.ev (some 65) (Ev.move (show Oper.op _ = Op.move (Operand.tmp 0) from rfl) (by rfl)) (by rfl) (by rfl) ?_
      refine Ls.ev (some 66) (Ev.move (show Oper.op _ = Op.move (Operand.tmp 7) from rfl) (by rfl)) (by rfl) (by rfl) ?_
      refine Ls.ev (some 67) (Ev.indexAt (sz := 4) (show Oper.op _ = Op.indexAddr 22 (Operand.tmp 65) (Operand.tmp 66) from rfl) (by rfl) (by rfl) Try.underlying22 (by kernel_rfl) (by omega)) (by rfl) (by rfl) ?_
      refine Ls.ev (some 68) (Ev.fieldAddrE0 (k := 0) (show Oper.op _ = Op.fieldAddr 42 (Operand.tmp 67) 0 from rfl) (by rfl) (by kernel_rfl)) (by rfl) (by rfl) ?_
      refine Ls.ev (some 69) (Ev.loadElF (show Oper.op _ = Op.load 9 (Operand.tmp 68) from rfl) (by rfl) (ReadsIn.rd 5 (by rfl)) (by kernel_rfl) (by intro _; rfl) (by assumption) (by rfl)) (by rfl) (by rfl) ?_
      refine Ls.does (some 70) (Does.readN (show Oper.op _ = Op.call { callee := Callee.value (Operand.func 41), args := #[Operand.tmp 69], argTypes := #[9] } from rfl) Try.func41 (by kernel_rfl) (by kernel_rfl) (refText_sl e0.key (by omega)) (by rfl) (by rfl) trivial (fun _ => by rfl)) (by rfl) (by rfl) ?_
      intro q1 _
      refine Ls.does (some 71) (Does.appB (l := idxK l k) (m := textL e0.key) 5 (show Oper.op _ = Op.call { callee := Callee.builtin Builtin.append, args := #[Operand.tmp 64, Operand.tmp 70], argTypes := #[25, 25] } from rfl) (by rfl) (by rfl) (by rfl) (ReadsIn.row 0 (by rfl)) (by omega)) (by rfl) (by rfl) ?_
      intro r1 _
      refine Ent.pick [1, 5, 4, 3, 6] (by rfl) ?_
      refine Ls.ev (some 4) (Ev.assign (show Oper.op _ = Op.assign (Operand.tmp 71) from rfl) (by rfl)) (by rfl) (by rfl) ?_
      refine Ls.nil ?_
      refine Cd.seq ?_
      refine Cd.region ?_
      refine Ls.ev (some 72) (Ev.move (show Oper.op _ = Op.move (Operand.tmp 4) from rfl) (by rfl)) (by rfl) (by rfl) ?_
      refine Ls.ev (some 73) (Ev.move (show Oper.op _ = Op.move (Operand.tmp 0) from rfl) (by rfl)) (by rfl) (by rfl) ?_
      refine Ls.ev (some 74) (Ev.move (show Oper.op _ = Op.move (Operand.tmp 8) from rfl) (by rfl)) (by rfl) (by rfl) ?_
      refine Ls.ev (some 75) (Ev.subN (b := 1) (show Oper.op _ = Op.binOp BinOp.sub 3 (Operand.tmp 74) (Operand.const (Value.int IntKind.i64 1)) 3 from rfl) (by rfl) (by rfl) (by omega)) (by rfl) (by rfl) ?_
      refine Ls.ev (some 76) (Ev.indexAt (sz := 4) (show Oper.op _ = Op.indexAddr 22 (Operand.tmp 73) (Operand.tmp 75) from rfl) (by rfl) (by rfl) Try.underlying22 (by kernel_rfl) (by omega)) (by rfl) (by rfl) ?_
      refine Ls.ev (some 77) (Ev.fieldAddrE0 (k := 0) (show Oper.op _ = Op.fieldAddr 42 (Operand.tmp 76) 0 from rfl) (by rfl) (by kernel_rfl)) (by rfl) (by rfl) ?_
      refine Ls.ev (some 78) (Ev.loadElF (show Oper.op _ = Op.load 9 (Operand.tmp 77) from rfl) (by rfl) (ReadsIn.rd 4 (by rfl)) (by kernel_rfl) (by intro _; rfl) (by assumption) (by rfl)) (by rfl) (by rfl) ?_
      refine Ls.does (some 79) (Does.readN (show Oper.op _ = Op.call { callee := Callee.value (Operand.func 41), args := #[Operand.tmp 78], argTypes := #[9] } from rfl) Try.func41 (by kernel_rfl) (by kernel_rfl) (refText_sl eL.key (by omega)) (by rfl) (by rfl) trivial (fun _ => by rfl)) (by rfl) (by rfl) ?_
      intro q2 _
      refine Ls.does (some 80) (Does.appB (l := idxK l k ++ textL e0.key) (m := textL eL.key) 2 (show Oper.op _ = Op.call { callee := Callee.builtin Builtin.append, args := #[Operand.tmp 72, Operand.tmp 79], argTypes := #[25, 25] } from rfl) (by rfl) (by rfl) (by rfl) (ReadsIn.row 0 (by rfl)) (by rw [List.length_append]; omega)) (by rfl) (by rfl) ?_
      intro r2 _
      refine Ls.ev (some 4) (Ev.assign (show Oper.op _ = Op.assign (Operand.tmp 80) from rfl) (by rfl)) (by rfl) (by rfl) ?_
      refine Ls.nil ?_
      refine Cd.seq ?_
      refine Cd.region ?_
      refine Ls.ev (some 81) (Ev.move (show Oper.op _ = Op.move (Operand.tmp 4) from rfl) (by rfl)) (by rfl) (by rfl) ?_
      refine Ls.ev (some 82) (Ev.move (show Oper.op _ = Op.move (Operand.tmp 3) from rfl) (by rfl)) (by rfl) (by rfl) ?_
      refine Ls.ev (some 83) (Ev.len (show Oper.op _ = Op.call { callee := Callee.builtin Builtin.len, args := #[Operand.tmp 82], argTypes := #[25] } from rfl) (by rfl) Try.underlying25) (by rfl) (by rfl) ?_
      refine Ls.ev (some 84) (Ev.convU (show Oper.op _ = Op.convert 3 64 (Operand.tmp 83) from rfl) (by rfl) (by kernel_rfl) Try.underlying64 (by omega)) (by rfl) (by rfl) ?_
      refine Ls.does (some 85) (Does.readN (show Oper.op _ = Op.call { callee := Callee.value (Operand.func 42), args := #[Operand.tmp 84], argTypes := #[64] } from rfl) Try.func42 (by kernel_rfl) (by kernel_rfl) (refUint_sl (outK l k).length (by omega)) (by rfl) (by rfl) trivial (fun _ => by rfl)) (by rfl) (by rfl) ?_
      intro q3 _
      refine Ls.does (some 86) (Does.appB (l := idxK l k ++ textL e0.key ++ textL eL.key) (m := uintL (outK l k).length) 3 (show Oper.op _ = Op.call { callee := Callee.builtin Builtin.append, args := #[Operand.tmp 81, Operand.tmp 85], argTypes := #[25, 25] } from rfl) (by rfl) (by rfl) (by rfl) (ReadsIn.row 0 (by rfl)) (by simp only [List.length_append]; omega)) (by rfl) (by rfl) ?_
      intro r3 _
      refine Ls.ev (some 4) (Ev.assign (show Oper.op _ = Op.assign (Operand.tmp 86) from rfl) (by rfl)) (by rfl) (by rfl) ?_
      refine Ls.nil ?_
      refine Cd.seq ?_
      refine Cd.region ?_
      refine Ls.ev (some 87) (Ev.move (show Oper.op _ = Op.move (Operand.tmp 4) from rfl) (by rfl)) (by rfl) (by rfl) ?_
      refine Ls.ev (some 88) (Ev.move (show Oper.op _ = Op.move (Operand.tmp 11) from rfl) (by rfl)) (by rfl) (by rfl) ?_
      refine Ls.ev (some 89) (Ev.len (show Oper.op _ = Op.call { callee := Callee.builtin Builtin.len, args := #[Operand.tmp 88], argTypes := #[25] } from rfl) (by rfl) Try.underlying25) (by rfl) (by rfl) ?_
      refine Ls.ev (some 90) (Ev.convU (show Oper.op _ = Op.convert 3 64 (Operand.tmp 89) from rfl) (by rfl) (by kernel_rfl) Try.underlying64 (by omega)) (by rfl) (by rfl) ?_
      refine Ls.does (some 91) (Does.readN (show Oper.op _ = Op.call { callee := Callee.value (Operand.func 42), args := #[Operand.tmp 90], argTypes := #[64] } from rfl) Try.func42 (by kernel_rfl) (by kernel_rfl) (refUint_sl (sealL (bodyE (blkE l k))).length (by omega)) (by rfl) (by rfl) trivial (fun _ => by rfl)) (by rfl) (by rfl) ?_
      intro q4 _
      refine Ls.does (some 92) (Does.appB (l := idxK l k ++ textL e0.key ++ textL eL.key ++ uintL (outK l k).length) (m := uintL (sealL (bodyE (blkE l k))).length) 4 (show Oper.op _ = Op.call { callee := Callee.builtin Builtin.append, args := #[Operand.tmp 87, Operand.tmp 91], argTypes := #[25, 25] } from rfl) (by rfl) (by rfl) (by rfl) (ReadsIn.row 0 (by rfl)) (by simp only [List.length_append]; omega)) (by rfl) (by rfl) ?_
      intro r4 _
      refine Ls.ev (some 4) (Ev.assign (show Oper.op _ = Op.assign (Operand.tmp 92) from rfl) (by rfl)) (by rfl) (by rfl) ?_
      refine Ls.nil ?_
      refine Cd.seq ?_
      refine Cd.region ?_
      refine Ls.ev (some 93) (Ev.move (show Oper.op _ = Op.move (Operand.tmp 3) from rfl) (by rfl)) (by rfl) (by rfl) ?_
      refine Ls.ev (some 94) (Ev.move (show Oper.op _ = Op.move (Operand.tmp 11) from rfl) (by rfl)) (by rfl) (by rfl) ?_
      refine Ls.does (some 95) (Does.appB (l := outK l k) (m := sealL (bodyE (blkE l k))) 5 (show Oper.op _ = Op.call { callee := Callee.builtin Builtin.append, args := #[Operand.tmp 93, Operand.tmp 94], argTypes := #[25, 25] } from rfl) (by rfl) (by rfl) (by rfl) (ReadsIn.row 3 (by rfl)) (by omega)) (by rfl) (by rfl) ?_
      intro r5 _
      refine Ls.ev (some 3) (Ev.assign (show Oper.op _ = Op.assign (Operand.tmp 95) from rfl) (by rfl)) (by rfl) (by rfl) ?_
      refine Ls.nil ?_
      refine Cd.region ?_
      refine Ls.ev (some 96) (Ev.move (show Oper.op _ = Op.move (Operand.tmp 6) from rfl) (by rfl)) (by rfl) (by rfl) ?_
      refine Ls.ev (some 97) (Ev.addN (b := 1) (show Oper.op _ = Op.binOp BinOp.add 3 (Operand.tmp 96) (Operand.const (Value.int IntKind.i64 1)) 3 from rfl) (by rfl) (by rfl) (by omega)) (by rfl) (by rfl) ?_
      refine Ls.ev (some 6) (Ev.assign (show Oper.op _ = Op.assign (Operand.tmp 97) from rfl) (by rfl)) (by rfl) (by rfl) ?_
      refine Ls.nil ?_
      refine Cd.region ?_
      refine Ls.ev (some 18) (Ev.move (show Oper.op _ = Op.move (Operand.tmp 7) from rfl) (by rfl)) (by rfl) (by rfl) ?_
      refine Ls.ev (some 19) (Ev.addN (b := 3) (show Oper.op _ = Op.binOp BinOp.add 3 (Operand.tmp 18) (Operand.const (Value.int IntKind.i64 3)) 3 from rfl) (by rfl) (by rfl) (by omega)) (by rfl) (by rfl) ?_
      refine Ls.ev (some 7) (Ev.assign (show Oper.op _ = Op.assign (Operand.tmp 19) from rfl) (by rfl)) (by rfl) (by rfl) ?_
      refine Ls.nil ?_
      skip
      have hmk1 : min (3 * (k + 1)) l.length = 3 * k + (blkE l k).length := by omega
      have hxx : idxK l k ++ textL e0.key ++ textL eL.key ++ uintL (outK l k).length ++ uintL (sealL (bodyE (blkE l k))).length = idxK l (k + 1) := by
        rw [idxK, hix]
        simp only [List.append_assoc]
      refine Ent.pick [5, 4, 6, 7] (by rfl) ?_
      rw [hxx]
      refine Ent.inv ((k + 1, ⟨r5.1, r5.2, r4.1, r4.2, mA, mc⟩)) ?_ ?_ ?_
      · (try dsimp only); exact ⟨by unfold nbE; omega, by unfold nbE; omega⟩
      · (repeat (first | exact trivial | refine ⟨by rfl, ?_⟩ | refine ⟨by simp only [List.length_append, List.length_cons, List.length_nil]; rfl, ?_⟩ | refine ⟨by push_cast; rfl, ?_⟩ | refine ⟨by (show some (Value.slice _ _ _) = some (Value.slice _ _ _); dsimp only; rw [hmk1]), ?_⟩))
      · (show [_, _, _, _] = [_, _, _, _]; dsimp only; rw [hmk1]; rfl)
  · skip
    have hkn : k = nbE l := by have := of_decide_eq_false h1; unfold nbE at hk ⊢; omega
    subst hkn
    have hmm : min (3 * nbE l) l.length = l.length := by unfold nbE; omega
    rw [hmm]
    have hout := hg.out_le (nbE l)
    have hidx := hg.idx_le (nbE l) (by omega)
    have hcm := cmpK_le (keysE l) l.length
    have hbl := buildL_len (ks := keysL (cmpK (keysE l) l.length)) (by unfold keysL; rw [List.length_map]; omega)
    have hfl := sealL_len (b := buildL (keysL (cmpK (keysE l) l.length)) 10) (by omega)
    have hfl2 : (filE l).length ≤ 112 := by unfold filE; omega
    have htl : (uintL (nbE l)).length = 1 := uintL_len1 (by omega)
    have htn : (uintL (nbE l) ++ idxK l (nbE l)).length ≤ 4096 := by rw [List.length_append]; omega
    have htl2 : (taiE l).length ≤ 4102 := by
      have := sealL_len (b := uintL (nbE l) ++ idxK l (nbE l)) (by omega)
      unfold taiE
      omega
    have hoe : (outE l).length = (outK l (nbE l)).length := rfl
    have hof : (outK l (nbE l) ++ filE l).length = (outE l).length + (filE l).length := by rw [List.length_append]; rfl
    have h4 : ∀ n, (fourL n).length = 4 := fun _ => rfl
    refine Cd.exit ?_
    refine Cd.seq ?_
    refine Cd.region ?_
    refine Ls.ev (some 98) (Ev.move (show Oper.op _ = Op.move (Operand.tmp 3) from rfl) (by rfl)) (by rfl) (by rfl) ?_
    refine Ls.ev (some 99) (Ev.len (show Oper.op _ = Op.call { callee := Callee.builtin Builtin.len, args := #[Operand.tmp 98], argTypes := #[25] } from rfl) (by rfl) Try.underlying25) (by rfl) (by rfl) ?_
    refine Ls.ev (some 12) (Ev.assign (show Oper.op _ = Op.assign (Operand.tmp 99) from rfl) (by rfl)) (by rfl) (by rfl) ?_
    refine Ls.nil ?_
    refine Cd.seq ?_
    refine Cd.region ?_
    refine Ls.ev (some 100) (Ev.move (show Oper.op _ = Op.move (Operand.tmp 3) from rfl) (by rfl)) (by rfl) (by rfl) ?_
    refine Ls.ev (some 101) (Ev.move (show Oper.op _ = Op.move (Operand.tmp 5) from rfl) (by rfl)) (by rfl) (by rfl) ?_
    refine Ls.does (some 102) (Does.readN (show Oper.op _ = Op.call { callee := Callee.value (Operand.func 22), args := #[Operand.tmp 101, Operand.const (Value.int IntKind.i64 10)], argTypes := #[44, 3] } from rfl) Try.func22 (by kernel_rfl) (by kernel_rfl) (refBBuild_sl kA kc (cmpK (keysE l) l.length) 10 (by omega) (fun s hs => hg.cmp_le hs)) (by rfl) (by rfl) ⟨ReadsIn.row 2 (by rfl), trivial⟩ (fun _ => by rfl)) (by rfl) (by rfl) ?_
    intro q1 _
    refine Ls.does (some 103) (Does.readN (show Oper.op _ = Op.call { callee := Callee.value (Operand.func 40), args := #[Operand.tmp 102], argTypes := #[25] } from rfl) Try.func40 (by kernel_rfl) (by kernel_rfl) (refSeal_sl q1.1 q1.2 (buildL (keysL (cmpK (keysE l) l.length)) 10) (by omega)) (by rfl) (by rfl) ⟨ReadsIn.row 0 (by rfl), trivial⟩ (fun _ => by rfl)) (by rfl) (by rfl) ?_
    intro q2 _
    refine Ls.does (some 104) (Does.appB (l := outK l (nbE l)) (m := filE l) 2 (show Oper.op _ = Op.call { callee := Callee.builtin Builtin.append, args := #[Operand.tmp 100, Operand.tmp 103], argTypes := #[25, 25] } from rfl) (by rfl) (by rfl) (by rfl) (ReadsIn.row 0 (by rfl)) (by omega)) (by rfl) (by rfl) ?_
    intro q3 _
    refine Ls.ev (some 3) (Ev.assign (show Oper.op _ = Op.assign (Operand.tmp 104) from rfl) (by rfl)) (by rfl) (by rfl) ?_
    refine Ls.nil ?_
    refine Cd.seq ?_
    refine Cd.region ?_
    refine Ls.ev (some 105) (Ev.move (show Oper.op _ = Op.move (Operand.tmp 3) from rfl) (by rfl)) (by rfl) (by rfl) ?_
    refine Ls.ev (some 106) (Ev.len (show Oper.op _ = Op.call { callee := Callee.builtin Builtin.len, args := #[Operand.tmp 105], argTypes := #[25] } from rfl) (by rfl) Try.underlying25) (by rfl) (by rfl) ?_
    refine Ls.ev (some 13) (Ev.assign (show Oper.op _ = Op.assign (Operand.tmp 106) from rfl) (by rfl)) (by rfl) (by rfl) ?_
    refine Ls.nil ?_
    refine Cd.seq ?_
    refine Cd.region ?_
    refine Ls.ev (some 107) (Ev.move (show Oper.op _ = Op.move (Operand.tmp 3) from rfl) (by rfl)) (by rfl) (by rfl) ?_
    refine Ls.ev (some 108) (Ev.move (show Oper.op _ = Op.move (Operand.tmp 6) from rfl) (by rfl)) (by rfl) (by rfl) ?_
    refine Ls.ev (some 109) (Ev.convU (show Oper.op _ = Op.convert 3 64 (Operand.tmp 108) from rfl) (by rfl) (by kernel_rfl) Try.underlying64 (by omega)) (by rfl) (by rfl) ?_
    refine Ls.does (some 110) (Does.readN (show Oper.op _ = Op.call { callee := Callee.value (Operand.func 42), args := #[Operand.tmp 109], argTypes := #[64] } from rfl) Try.func42 (by kernel_rfl) (by kernel_rfl) (refUint_sl (nbE l) (by omega)) (by rfl) (by rfl) trivial (fun _ => by rfl)) (by rfl) (by rfl) ?_
    intro q4 _
    refine Ls.ev (some 111) (Ev.move (show Oper.op _ = Op.move (Operand.tmp 4) from rfl) (by rfl)) (by rfl) (by rfl) ?_
    refine Ls.does (some 112) (Does.appB (l := uintL (nbE l)) (m := idxK l (nbE l)) 0 (show Oper.op _ = Op.call { callee := Callee.builtin Builtin.append, args := #[Operand.tmp 110, Operand.tmp 111], argTypes := #[25, 25] } from rfl) (by rfl) (by rfl) (by rfl) (ReadsIn.row 4 (by rfl)) (by omega)) (by rfl) (by rfl) ?_
    intro q5 _
    refine Ls.does (some 113) (Does.readN (show Oper.op _ = Op.call { callee := Callee.value (Operand.func 40), args := #[Operand.tmp 112], argTypes := #[25] } from rfl) Try.func40 (by kernel_rfl) (by kernel_rfl) (refSeal_sl q5.1 q5.2 (uintL (nbE l) ++ idxK l (nbE l)) (by omega)) (by rfl) (by rfl) ⟨ReadsIn.row 0 (by rfl), trivial⟩ (fun _ => by rfl)) (by rfl) (by rfl) ?_
    intro q6 _
    refine Ls.does (some 114) (Does.appB (l := outK l (nbE l) ++ filE l) (m := taiE l) 4 (show Oper.op _ = Op.call { callee := Callee.builtin Builtin.append, args := #[Operand.tmp 107, Operand.tmp 113], argTypes := #[25, 25] } from rfl) (by rfl) (by rfl) (by rfl) (ReadsIn.row 0 (by rfl)) (by omega)) (by rfl) (by rfl) ?_
    intro q7 _
    refine Ent.pick [4] (by rfl) ?_
    refine Ls.ev (some 3) (Ev.assign (show Oper.op _ = Op.assign (Operand.tmp 114) from rfl) (by rfl)) (by rfl) (by rfl) ?_
    refine Ls.nil ?_
    refine Cd.seq ?_
    refine Cd.region ?_
    refine Ls.ev (some 115) (Ev.move (show Oper.op _ = Op.move (Operand.tmp 3) from rfl) (by rfl)) (by rfl) (by rfl) ?_
    refine Ls.ev (some 116) (Ev.move (show Oper.op _ = Op.move (Operand.tmp 12) from rfl) (by rfl)) (by rfl) (by rfl) ?_
    refine Ls.does (some 117) (Does.readN (show Oper.op _ = Op.call { callee := Callee.value (Operand.func 43), args := #[Operand.tmp 116], argTypes := #[3] } from rfl) Try.func43 (by kernel_rfl) (by kernel_rfl) (refFour_sl (outK l (nbE l)).length (by omega)) (by rfl) (by rfl) trivial (fun _ => by rfl)) (by rfl) (by rfl) ?_
    intro q8 _
    refine Ls.does (some 118) (Does.appB (l := outK l (nbE l) ++ filE l ++ taiE l) (m := fourL (outK l (nbE l)).length) 1 (show Oper.op _ = Op.call { callee := Callee.builtin Builtin.append, args := #[Operand.tmp 115, Operand.tmp 117], argTypes := #[25, 25] } from rfl) (by rfl) (by rfl) (by rfl) (ReadsIn.row 0 (by rfl)) (by rw [List.length_append, h4]; omega)) (by rfl) (by rfl) ?_
    intro q9 _
    refine Ls.ev (some 3) (Ev.assign (show Oper.op _ = Op.assign (Operand.tmp 118) from rfl) (by rfl)) (by rfl) (by rfl) ?_
    refine Ls.nil ?_
    refine Cd.seq ?_
    refine Cd.region ?_
    refine Ls.ev (some 119) (Ev.move (show Oper.op _ = Op.move (Operand.tmp 3) from rfl) (by rfl)) (by rfl) (by rfl) ?_
    refine Ls.ev (some 120) (Ev.move (show Oper.op _ = Op.move (Operand.tmp 13) from rfl) (by rfl)) (by rfl) (by rfl) ?_
    refine Ls.does (some 121) (Does.readN (show Oper.op _ = Op.call { callee := Callee.value (Operand.func 43), args := #[Operand.tmp 120], argTypes := #[3] } from rfl) Try.func43 (by kernel_rfl) (by kernel_rfl) (refFour_sl (outK l (nbE l) ++ filE l).length (by omega)) (by rfl) (by rfl) trivial (fun _ => by rfl)) (by rfl) (by rfl) ?_
    intro q10 _
    refine Ls.does (some 122) (Does.appB (l := outK l (nbE l) ++ filE l ++ taiE l ++ fourL (outK l (nbE l)).length) (m := fourL (outK l (nbE l) ++ filE l).length) 2 (show Oper.op _ = Op.call { callee := Callee.builtin Builtin.append, args := #[Operand.tmp 119, Operand.tmp 121], argTypes := #[25, 25] } from rfl) (by rfl) (by rfl) (by rfl) (ReadsIn.row 0 (by rfl)) (by simp only [List.length_append, h4]; omega)) (by rfl) (by rfl) ?_
    intro q11 _
    refine Ls.ev (some 3) (Ev.assign (show Oper.op _ = Op.assign (Operand.tmp 122) from rfl) (by rfl)) (by rfl) (by rfl) ?_
    refine Ls.nil ?_
    refine Cd.seq ?_
    refine Cd.region ?_
    refine Ls.ev (some 123) (Ev.move (show Oper.op _ = Op.move (Operand.tmp 3) from rfl) (by rfl)) (by rfl) (by rfl) ?_
    refine Ls.does (some 124) (Does.lit (sz := 1) (show Oper.op _ = Op.buildSlice 25 4 #[(0, Operand.const (Value.int IntKind.u8 99)), (1, Operand.const (Value.int IntKind.u8 118)), (2, Operand.const (Value.int IntKind.u8 116)), (3, Operand.const (Value.int IntKind.u8 49))] from rfl) (by rfl) Try.underlying25 (by kernel_rfl) (by rfl) (by kernel_rfl)) (by rfl) (by rfl) ?_
    intro g1 _
    refine Ls.does (some 125) (Does.appB (l := outK l (nbE l) ++ filE l ++ taiE l ++ fourL (outK l (nbE l)).length ++ fourL (outK l (nbE l) ++ filE l).length) (m := [99, 118, 116, 49]) 3 (show Oper.op _ = Op.call { callee := Callee.builtin Builtin.append, args := #[Operand.tmp 123, Operand.tmp 124], argTypes := #[25, 25] } from rfl) (by rfl) (by rfl) (by rfl) (ReadsIn.row 0 (by rfl)) (by simp only [List.length_append, h4, List.length_cons, List.length_nil]; omega)) (by rfl) (by rfl) ?_
    intro q12 _
    refine Ls.ev (some 2) (Ev.assign (show Oper.op _ = Op.assign (Operand.tmp 125) from rfl) (by rfl)) (by rfl) (by rfl) ?_
    refine Ls.nil ?_
    have ht : outK l (nbE l) ++ filE l ++ taiE l ++ fourL (outK l (nbE l)).length ++ fourL (outK l (nbE l) ++ filE l).length ++ [99, 118, 116, 49] = tabL l := by
      rw [hof]
      rfl
    rw [ht]
    refine Cd.ret ?_
    refine Ent.ret (q12) (trivial) (Res.tmp (by rfl) (by rfl)) ?_ [3] (by rfl) ?_
    · rfl
    · rfl
end Go.Proofs.Ytnhcfhamcakfkaa
