/-
  Texts joined: RfH, RfK, RfL, RfF, WlT, WlU, ByS, WlV, SlBy.
-/
import Derived.Test.YtceanciekadkeaaGreatDoorMWlL4c
import Derived.Test.YtceanciekadkeaaGreatDoorMWlL4i
import Derived.Test.YtceanciekadkeaaGreatDoorMWlL4j
import Derived.Test.YtceanciekadkeaaGreatDoorMWlL4k
import Derived.Lib.ConvBytes
/- the document's drives over pieces: bytes put behind a file's -/
namespace Go.Proofs.YtceanciekadkeaaGreatDoor
open Go.RowKit
theorem at_hit {l : List FiP} {q : List UInt8} {r : Int} {f : FiP} (h : AtR l q r) (hf : findG FiP.nm q l = some f) : ∃ k : Nat, r = k ∧ l[k]? = some f := by
  rcases h with ⟨_, h⟩ | ⟨k, g, h1, h2, _, h4⟩
  · rw [h] at hf
    cases hf
  · rw [h4] at hf
    obtain rfl := Option.some.inj hf
    exact ⟨k, h1, h2⟩
theorem at_miss {l : List FiP} {q : List UInt8} {r : Int} (h : AtR l q r) (hf : findG FiP.nm q l = none) : r = -1 := by
  rcases h with ⟨h, _⟩ | ⟨k, g, _, _, _, h4⟩
  · exact h
  · rw [h4] at hf
    cases hf
set_option maxHeartbeats 1000000 in
theorem dappend_sl (P : DrP) (hok : P.Ok) (A : Option Addr) (c : Nat) (q l : List UInt8) (hq : q.length ≤ 1048576) (hl : l.length ≤ 1048576) : Fn Tryz.prog 52 #[.agg (P.val A c).toArray, .string (txt q), .string (txt l)] [rdF A P.fs] (Option Addr × Nat) (fun p => .tuple #[.agg ((P.append q l).1.val p.1 p.2).toArray, .int .i64 (P.append q l).2]) (fun p => [rdF p.1 (P.append q l).1.fs]) (fun _ => True) := by
  have hpl := hok.len
  obtain ⟨R, hR⟩ : ∃ R, R = P.append q l := ⟨_, rfl⟩
  rw [← hR]
  have hVe : P.val A c = [.slice A P.fs.length c, .int .i64 P.steps, .bool P.left.isSome, .int .i64 ((P.left.getD 0 : Nat) : Int)] := rfl
  rw [hVe]
  have hls : (txt l).size = l.length := rfl
  have hz0 : ({ data := #[] } : ByteArray).size = 0 := rfl
  refine Fn.enter Tryz.func52 rfl Tryz.ntmps52 (by rfl) ?_
  intro w0
  refine Cd.seq ?_
  refine Cd.region ?_
  refine Ls.does (some 3) (Does.box (show Oper.op _ = Op.box 43 (Operand.tmp 0) from rfl) (by rfl)) (by rfl) (by rfl) ?_
  intro g1 _
  refine Ls.does (some 6) (Does.alloc (cs := [.slice none 0 0, .int .i64 0, .bool false, .int .i64 0]) (show Oper.op _ = Op.alloc 43 from rfl) (ZeroIs.mk (.agg #[.slice none 0 0, .int .i64 0, .bool false, .int .i64 0]) (by kernel_rfl) (by rfl))) (by rfl) (by rfl) ?_
  intro g2 _
  refine Ls.ev (some 7) (Ev.assign (show Oper.op _ = Op.assign (Operand.const (Value.int IntKind.i64 0)) from rfl) (by rfl)) (by rfl) (by rfl) ?_
  refine Ls.nil ?_
  refine Cd.seq ?_
  refine Cd.seq ?_
  refine Cd.region ?_
  refine Ls.ev (some 10) (Ev.move (show Oper.op _ = Op.move (Operand.tmp 1) from rfl) (by rfl)) (by rfl) (by rfl) ?_
  refine Ls.does (some 11) (Does.read (show Oper.op _ = Op.call { callee := Callee.value (Operand.func 38), args := #[Operand.tmp 10], argTypes := #[9] } from rfl) Tryz.func38 (by kernel_rfl) (by kernel_rfl) (dname_sl q hq) (by rfl) (by rfl) trivial) (by rfl) (by rfl) ?_
  rintro _ -
  refine Ls.ev (some 12) (Ev.not (show Oper.op _ = Op.unOp UnOp.not 4 (Operand.tmp 11) from rfl) (by rfl)) (by rfl) (by rfl) ?_
  refine Ls.nil ?_
  by_cases hg : Good q
  rotate_left
  · skip
    have hR2 : R = (P, 20) := by rw [hR, DrP.append, if_pos hg]
    subst hR2
    rw [decide_eq_false hg]
    refine Cd.cond_true (by rfl) (rfl) ?_
    refine Cd.seq ?_
    refine Cd.region ?_
    refine Ls.ev (some 13) (Ev.loads 1 (show Oper.op _ = Op.load 43 (Operand.tmp 3) from rfl) (by rfl) (by rfl) (n := 4) (by kernel_rfl) (by rfl) (by rfl)) (by rfl) (by rfl) ?_
    refine Ls.does none (Does.store 0 (show Oper.op _ = Op.store 43 (Operand.tmp 6) (Operand.tmp 13) from rfl) (by rfl) (by rfl) (by rfl) (by kernel_rfl) (by rfl) (by kernel_rfl) (by rfl)) (by rfl) (by rfl) ?_
    intro _ _
    refine Ls.ev (some 7) (Ev.assign (show Oper.op _ = Op.assign (Operand.const (Value.int IntKind.i64 20)) from rfl) (by rfl)) (by rfl) (by rfl) ?_
    refine Ls.nil ?_
    refine Cd.ret ?_
    refine Ent.ret ((A, c)) (trivial) (Res.cell_tmp 0 (by rfl) (by rfl) (by rfl) (n := 4) (by kernel_rfl) (by rfl) (by rfl) (by rfl)) ?_ [2] (by rfl) ?_
    · rfl
    · rfl
  · skip
    rw [decide_eq_true hg]
    refine Cd.cond_false (by rfl) (rfl) ?_
    refine Cd.skip ?_
    refine Cd.seq ?_
    refine Cd.region ?_
    refine Ls.ev (some 14) (Ev.move (show Oper.op _ = Op.move (Operand.tmp 1) from rfl) (by rfl)) (by rfl) (by rfl) ?_
    refine Ls.ev (some 15) (Ev.buildP (pl := [(0, 1), (1, 1), (2, 1)]) (zs := [.string ⟨#[]⟩, .string ⟨#[]⟩, .int .i64 0]) (show Oper.op _ = Op.build 88 #[(0, Operand.tmp 14)] from rfl) (by rfl) (by kernel_rfl) (by rfl)) (by rfl) (by rfl) ?_
    refine Ls.does (some 8) (Does.alloc (cs := [.string ⟨#[]⟩, .string ⟨#[]⟩, .int .i64 0]) (show Oper.op _ = Op.alloc 88 from rfl) (ZeroIs.mk (.agg #[.string ⟨#[]⟩, .string ⟨#[]⟩, .int .i64 0]) (by kernel_rfl) (by rfl))) (by rfl) (by rfl) ?_
    intro g3 _
    refine Ls.does none (Does.store 0 (show Oper.op _ = Op.store 88 (Operand.tmp 8) (Operand.tmp 15) from rfl) (by rfl) (by rfl) (by rfl) (by kernel_rfl) (by rfl) (by kernel_rfl) (by rfl)) (by rfl) (by rfl) ?_
    intro _ _
    refine Ls.nil ?_
    refine Cd.seq ?_
    refine Cd.region ?_
    refine Ls.ev (some 16) (Ev.loads 2 (show Oper.op _ = Op.load 43 (Operand.tmp 3) from rfl) (by rfl) (by rfl) (n := 4) (by kernel_rfl) (by rfl) (by rfl)) (by rfl) (by rfl) ?_
    refine Ls.ev (some 17) (Ev.move (show Oper.op _ = Op.move (Operand.tmp 1) from rfl) (by rfl)) (by rfl) (by rfl) ?_
    refine Ls.does (some 18) (Does.read (show Oper.op _ = Op.call { callee := Callee.value (Operand.func 39), args := #[Operand.tmp 16, Operand.tmp 17], argTypes := #[43, 9] } from rfl) Tryz.func39 (by kernel_rfl) (by kernel_rfl) (dat_sl P A c q (by omega)) (by rfl) (by rfl) ⟨ReadsIn.rd 3 (by rfl), trivial⟩) (by rfl) (by rfl) ?_
    rintro r hr
    refine Ls.ev (some 9) (Ev.assign (show Oper.op _ = Op.assign (Operand.tmp 18) from rfl) (by rfl)) (by rfl) (by rfl) ?_
    refine Ls.nil ?_
    refine Cd.seq ?_
    refine Cd.seq ?_
    refine Cd.region ?_
    refine Ls.ev (some 19) (Ev.move (show Oper.op _ = Op.move (Operand.tmp 9) from rfl) (by rfl)) (by rfl) (by rfl) ?_
    refine Ls.ev (some 20) (Ev.geq (show Oper.op _ = Op.binOp BinOp.geq 3 (Operand.tmp 19) (Operand.const (Value.int IntKind.i64 0)) 3 from rfl) (by rfl) (by rfl)) (by rfl) (by rfl) ?_
    refine Ls.nil ?_
    cases hfd : P.find q with
    | none =>
      obtain rfl := at_miss hr hfd
      have hbn : P.bytes q = [] := by unfold DrP.bytes; rw [hfd]
      skip
      refine Cd.cond_false (by rfl) (decide_eq_false (show ¬ ((0 : Int) ≤ -1) by decide)) ?_
      refine Cd.skip ?_
      refine Cd.seq ?_
      refine Cd.seq ?_
      refine Cd.region ?_
      refine Ls.ev (some 26) (Ev.move (show Oper.op _ = Op.move (Operand.tmp 9) from rfl) (by rfl)) (by rfl) (by rfl) ?_
      refine Ls.ev (some 27) (Ev.lss (show Oper.op _ = Op.binOp BinOp.lss 3 (Operand.tmp 26) (Operand.const (Value.int IntKind.i64 0)) 3 from rfl) (by rfl) (by rfl)) (by rfl) (by rfl) ?_
      refine Ls.ev (some 28) (Ev.move (show Oper.op _ = Op.move (Operand.tmp 27) from rfl) (by rfl)) (by rfl) (by rfl) ?_
      refine Ent.known 28 true (by rfl) (by exact (decide_eq_true (show (-1 : Int) < 0 by decide))) ?_
      refine Ls.ev (some 29) (Ev.fieldAddr (k := 0) (show Oper.op _ = Op.fieldAddr 43 (Operand.tmp 3) 0 from rfl) (by rfl) (by kernel_rfl) (by rfl)) (by rfl) (by rfl) ?_
      refine Ls.ev (some 30) (Ev.load 2 (show Oper.op _ = Op.load 41 (Operand.tmp 29) from rfl) (by rfl) (by rfl) (by kernel_rfl) (by rfl)) (by rfl) (by rfl) ?_
      refine Ls.ev (some 31) (Ev.len (show Oper.op _ = Op.call { callee := Callee.builtin Builtin.len, args := #[Operand.tmp 30], argTypes := #[41] } from rfl) (by rfl) Tryz.underlying41) (by rfl) (by rfl) ?_
      refine Ls.ev (some 32) (Ev.geq (show Oper.op _ = Op.binOp BinOp.geq 3 (Operand.tmp 31) (Operand.const (Value.int IntKind.i64 256)) 3 from rfl) (by rfl) (by rfl)) (by rfl) (by rfl) ?_
      refine Ls.ev (some 33) (Ev.pickT (show Oper.op _ = Op.pick (Operand.tmp 28) (Operand.tmp 32) (Operand.const (Value.bool false)) from rfl) (by rfl) (by rfl)) (by rfl) (by rfl) ?_
      refine Ls.ev (some 34) (Ev.move (show Oper.op _ = Op.move (Operand.tmp 33) from rfl) (by rfl)) (by rfl) (by rfl) ?_
      by_cases h1 : 256 ≤ P.fs.length
      · skip
        have hR2 : R = (P, 5) := by rw [hR, DrP.append, if_neg (fun h => h hg), if_pos (.inl ⟨hfd, h1⟩)]
        subst hR2
        refine Ent.known 34 true (by rfl) (by exact (decide_eq_true (show (256 : Int) ≤ (P.fs.length : Int) by omega))) ?_
        refine Ls.pass (some 35) (by rfl) (by rfl) ?_
        refine Ls.pass (some 36) (by rfl) (by rfl) ?_
        refine Ls.pass (some 37) (by rfl) (by rfl) ?_
        refine Ls.pass (some 38) (by rfl) (by rfl) ?_
        refine Ls.pass (some 39) (by rfl) (by rfl) ?_
        refine Ls.pass (some 40) (by rfl) (by rfl) ?_
        refine Ls.pass (some 41) (by rfl) (by rfl) ?_
        refine Ls.ev (some 42) (Ev.pickT (show Oper.op _ = Op.pick (Operand.tmp 34) (Operand.const (Value.bool true)) (Operand.tmp 41) from rfl) (by rfl) (by rfl)) (by rfl) (by rfl) ?_
        refine Ls.nil ?_
        skip
        refine Cd.cond_true (by rfl) (rfl) ?_
        refine Cd.seq ?_
        refine Cd.region ?_
        refine Ls.ev (some 43) (Ev.loads 2 (show Oper.op _ = Op.load 43 (Operand.tmp 3) from rfl) (by rfl) (by rfl) (n := 4) (by kernel_rfl) (by rfl) (by rfl)) (by rfl) (by rfl) ?_
        refine Ls.does none (Does.store 1 (show Oper.op _ = Op.store 43 (Operand.tmp 6) (Operand.tmp 43) from rfl) (by rfl) (by rfl) (by rfl) (by kernel_rfl) (by rfl) (by kernel_rfl) (by rfl)) (by rfl) (by rfl) ?_
        intro _ _
        refine Ls.ev (some 7) (Ev.assign (show Oper.op _ = Op.assign (Operand.const (Value.int IntKind.i64 5)) from rfl) (by rfl)) (by rfl) (by rfl) ?_
        refine Ls.nil ?_
        refine Cd.ret ?_
        refine Ent.ret ((A, c)) (trivial) (Res.cell_tmp 1 (by rfl) (by rfl) (by rfl) (n := 4) (by kernel_rfl) (by rfl) (by rfl) (by rfl)) ?_ [3] (by rfl) ?_
        · rfl
        · rfl
      · skip
        refine Ent.known 34 false (by rfl) (by exact (decide_eq_false (show ¬ ((256 : Int) ≤ (P.fs.length : Int)) by omega))) ?_
        refine Ls.ev (some 35) (Ev.fieldAddr (k := 1) (show Oper.op _ = Op.fieldAddr 88 (Operand.tmp 8) 1 from rfl) (by rfl) (by kernel_rfl) (by rfl)) (by rfl) (by rfl) ?_
        refine Ls.ev (some 36) (Ev.load 0 (show Oper.op _ = Op.load 9 (Operand.tmp 35) from rfl) (by rfl) (by rfl) (by kernel_rfl) (by rfl)) (by rfl) (by rfl) ?_
        refine Ls.ev (some 37) (Ev.lenS (show Oper.op _ = Op.call { callee := Callee.builtin Builtin.len, args := #[Operand.tmp 36], argTypes := #[9] } from rfl) (by rfl) Tryz.underlying9) (by rfl) (by rfl) ?_
        refine Ls.ev (some 38) (Ev.move (show Oper.op _ = Op.move (Operand.tmp 2) from rfl) (by rfl)) (by rfl) (by rfl) ?_
        refine Ls.ev (some 39) (Ev.lenS (show Oper.op _ = Op.call { callee := Callee.builtin Builtin.len, args := #[Operand.tmp 38], argTypes := #[9] } from rfl) (by rfl) Tryz.underlying9) (by rfl) (by rfl) ?_
        refine Ls.ev (some 40) (Ev.addI (show Oper.op _ = Op.binOp BinOp.add 3 (Operand.tmp 37) (Operand.tmp 39) 3 from rfl) (by rfl) (by rfl) (by omega)) (by rfl) (by rfl) ?_
        refine Ls.ev (some 41) (Ev.gtr (show Oper.op _ = Op.binOp BinOp.gtr 3 (Operand.tmp 40) (Operand.const (Value.int IntKind.i64 262144)) 3 from rfl) (by rfl) (by rfl)) (by rfl) (by rfl) ?_
        refine Ls.ev (some 42) (Ev.pickF (show Oper.op _ = Op.pick (Operand.tmp 34) (Operand.const (Value.bool true)) (Operand.tmp 41) from rfl) (by rfl) (by rfl)) (by rfl) (by rfl) ?_
        refine Ls.nil ?_
        by_cases h2 : 262144 < l.length
        · skip
          have hR2 : R = (P, 5) := by rw [hR, DrP.append, if_neg (fun h => h hg), if_pos (.inr (by rw [hbn]; simp; omega))]
          subst hR2
          refine Cd.cond_true (by rfl) (decide_eq_true (show (262144 : Int) < ((0 : Nat) : Int) + (l.length : Int) by omega)) ?_
          refine Cd.seq ?_
          refine Cd.region ?_
          refine Ls.ev (some 43) (Ev.loads 2 (show Oper.op _ = Op.load 43 (Operand.tmp 3) from rfl) (by rfl) (by rfl) (n := 4) (by kernel_rfl) (by rfl) (by rfl)) (by rfl) (by rfl) ?_
          refine Ls.does none (Does.store 1 (show Oper.op _ = Op.store 43 (Operand.tmp 6) (Operand.tmp 43) from rfl) (by rfl) (by rfl) (by rfl) (by kernel_rfl) (by rfl) (by kernel_rfl) (by rfl)) (by rfl) (by rfl) ?_
          intro _ _
          refine Ls.ev (some 7) (Ev.assign (show Oper.op _ = Op.assign (Operand.const (Value.int IntKind.i64 5)) from rfl) (by rfl)) (by rfl) (by rfl) ?_
          refine Ls.nil ?_
          refine Cd.ret ?_
          refine Ent.ret ((A, c)) (trivial) (Res.cell_tmp 1 (by rfl) (by rfl) (by rfl) (n := 4) (by kernel_rfl) (by rfl) (by rfl) (by rfl)) ?_ [3] (by rfl) ?_
          · rfl
          · rfl
        · skip
          have hfull : ¬ ((P.find q = none ∧ 256 ≤ P.fs.length) ∨ 262144 < (P.bytes q).length + l.length) := by
            rw [hbn]
            rintro (⟨_, h⟩ | h)
            · omega
            · simp at h; omega
          refine Cd.cond_false (by rfl) (decide_eq_false (show ¬ ((262144 : Int) < ((0 : Nat) : Int) + (l.length : Int)) by omega)) ?_
          refine Cd.skip ?_
          refine Cd.seq ?_
          refine Cd.seq ?_
          refine Cd.region ?_
          refine Ls.ev (some 44) (Ev.loads 2 (show Oper.op _ = Op.load 43 (Operand.tmp 3) from rfl) (by rfl) (by rfl) (n := 4) (by kernel_rfl) (by rfl) (by rfl)) (by rfl) (by rfl) ?_
          refine Ls.does (some 45) (Does.read (show Oper.op _ = Op.call { callee := Callee.value (Operand.func 47), args := #[Operand.tmp 44], argTypes := #[43] } from rfl) Tryz.func47 (by kernel_rfl) (by kernel_rfl) (ddead_sl P A c) (by rfl) (by rfl) trivial) (by rfl) (by rfl) ?_
          rintro _ -
          refine Ls.nil ?_
          by_cases hd : P.dead
          · skip
            have hR2 : R = (P, 6) := by rw [hR, DrP.append, if_neg (fun h => h hg), if_neg hfull, if_pos hd]
            subst hR2
            rw [hd]
            refine Cd.cond_true (by rfl) (rfl) ?_
            refine Cd.seq ?_
            refine Cd.region ?_
            refine Ls.ev (some 46) (Ev.loads 2 (show Oper.op _ = Op.load 43 (Operand.tmp 3) from rfl) (by rfl) (by rfl) (n := 4) (by kernel_rfl) (by rfl) (by rfl)) (by rfl) (by rfl) ?_
            refine Ls.does none (Does.store 1 (show Oper.op _ = Op.store 43 (Operand.tmp 6) (Operand.tmp 46) from rfl) (by rfl) (by rfl) (by rfl) (by kernel_rfl) (by rfl) (by kernel_rfl) (by rfl)) (by rfl) (by rfl) ?_
            intro _ _
            refine Ls.ev (some 7) (Ev.assign (show Oper.op _ = Op.assign (Operand.const (Value.int IntKind.i64 6)) from rfl) (by rfl)) (by rfl) (by rfl) ?_
            refine Ls.nil ?_
            refine Cd.ret ?_
            refine Ent.ret ((A, c)) (trivial) (Res.cell_tmp 1 (by rfl) (by rfl) (by rfl) (n := 4) (by kernel_rfl) (by rfl) (by rfl) (by rfl)) ?_ [3] (by rfl) ?_
            · rfl
            · rfl
          · skip
            have hd : P.dead = false := by simpa using hd
            have hR2 : R = (P.step.put ⟨q, ([] : List UInt8) ++ l, 0⟩, 0) := by
              rw [hR, DrP.append, if_neg (fun h => h hg), if_neg hfull, if_neg (by rw [hd]; decide), hfd]
              try rfl
            subst hR2
            rw [hd]
            refine Cd.cond_false (by rfl) (rfl) ?_
            refine Cd.skip ?_
            refine Cd.seq ?_
            refine Cd.region ?_
            refine Ls.ev (some 47) (Ev.fieldAddr (k := 1) (show Oper.op _ = Op.fieldAddr 88 (Operand.tmp 8) 1 from rfl) (by rfl) (by kernel_rfl) (by rfl)) (by rfl) (by rfl) ?_
            refine Ls.ev (some 48) (Ev.load 0 (show Oper.op _ = Op.load 9 (Operand.tmp 47) from rfl) (by rfl) (by rfl) (by kernel_rfl) (by rfl)) (by rfl) (by rfl) ?_
            refine Ls.ev (some 49) (Ev.move (show Oper.op _ = Op.move (Operand.tmp 2) from rfl) (by rfl)) (by rfl) (by rfl) ?_
            refine Ls.ev (some 50) (Ev.to (Ev.addS (show Oper.op _ = Op.binOp BinOp.add 9 (Operand.tmp 48) (Operand.tmp 49) 9 from rfl) (by rfl) (by rfl) (by rw [txt_size, txt_size]; first | omega | (simp only [List.length_nil]; omega))) (congrArg Value.string (txt_app ([] : List UInt8) l))) (by rfl) (by rfl) ?_
            refine Ls.ev (some 51) (Ev.fieldAddr (k := 1) (show Oper.op _ = Op.fieldAddr 88 (Operand.tmp 8) 1 from rfl) (by rfl) (by kernel_rfl) (by rfl)) (by rfl) (by rfl) ?_
            refine Ls.does none (Does.store 0 (show Oper.op _ = Op.store 9 (Operand.tmp 51) (Operand.tmp 50) from rfl) (by rfl) (by rfl) (by rfl) (by kernel_rfl) (by rfl) (by kernel_rfl) (by rfl)) (by rfl) (by rfl) ?_
            intro _ _
            refine Ls.nil ?_
            refine Cd.seq ?_
            refine Cd.draw [4] (by kernel_rfl) ?_
            refine Rg.ev 0 (by rfl) (fun _ h => h) (Ev.loads 2 (show Oper.op _ = Op.load 43 (Operand.tmp 3) from rfl) (by rfl) (by rfl) (n := 4) (by kernel_rfl) (by rfl) (by rfl)) (by rfl) (some 52) (by rfl) (by kernel_rfl) (by kernel_rfl) (by kernel_rfl) (by kernel_rfl) ?_
            refine Rg.ev 2 (by rfl) (fun _ h => h) (Ev.loads 0 (show Oper.op _ = Op.load 88 (Operand.tmp 8) from rfl) (by rfl) (by rfl) (n := 3) (by kernel_rfl) (by rfl) (by rfl)) (by rfl) (some 54) (by rfl) (by kernel_rfl) (by kernel_rfl) (by kernel_rfl) (by kernel_rfl) ?_
            refine Rg.does 1 (by rfl) (by kernel_rfl) (Does.read (show Oper.op _ = Op.call { callee := Callee.value (Operand.func 69), args := #[Operand.tmp 52], argTypes := #[43] } from rfl) Tryz.func69 (by kernel_rfl) (by kernel_rfl) (dstep_sl P hok hd A c) (by rfl) (by rfl) trivial) (by rfl) (some 53) (by rfl) (by exact fun _ _ h => h) ?_
            rintro _ -
            skip
            refine Rg.does 3 (by rfl) (by kernel_rfl) (Does.readN (show Oper.op _ = Op.call { callee := Callee.value (Operand.func 40), args := #[Operand.tmp 53, Operand.tmp 54], argTypes := #[43, 88] } from rfl) Tryz.func40 (by kernel_rfl) (by kernel_rfl) (dwith_sl P.step hok.rise (show P.fs.length ≤ 1000000 by omega) A c ⟨q, ([] : List UInt8) ++ l, 0⟩) (by rfl) (by rfl) ⟨ReadsIn.rd 3 (by rfl), trivial⟩ (fun _ => by rfl)) (by rfl) (some 55) (by rfl) (fun _ _ h => h.tail_) ?_
            rintro ⟨wA, wc⟩ -
            dsimp only
            refine Rg.tail 4 [] (by rfl) (by kernel_rfl) (Does.store 2 (show Oper.op _ = Op.store 43 (Operand.tmp 6) (Operand.tmp 55) from rfl) (by rfl) (by rfl) (by rfl) (by kernel_rfl) (by rfl) (by kernel_rfl) (by rfl)) (by rfl) none (by rfl) (by kernel_rfl) (by kernel_rfl) ?_
            intro _ _
            refine Rg.ev 5 (by rfl) (fun _ h => h) (Ev.assign (show Oper.op _ = Op.assign (Operand.const (Value.int IntKind.i64 0)) from rfl) (by rfl)) (by rfl) (some 7) (by rfl) (by kernel_rfl) (by kernel_rfl) (by kernel_rfl) (by kernel_rfl) ?_
            refine Rg.done (by kernel_rfl) ?_ _
            refine Ent.see 0 (by rfl) ?_
            refine Cd.ret ?_
            refine Ent.ret ((wA, wc)) (trivial) (Res.cell_tmp 2 (by rfl) (by rfl) (by rfl) (n := 4) (by kernel_rfl) (by rfl) (by rfl) (by rfl)) ?_ [0] (by rfl) ?_
            · rfl
            · rfl
    | some f =>
      obtain ⟨m, rfl, hm⟩ := at_hit hr hfd
      have hml := (List.getElem?_eq_some_iff.1 hm).1
      have hbn : P.bytes q = f.b := by unfold DrP.bytes; rw [hfd]
      have hfb := hok.size f (findG_some hfd).1
      have hfs : (txt f.b).size = f.b.length := rfl
      skip
      refine Cd.cond_true (by rfl) (decide_eq_true (show (0 : Int) ≤ (m : Int) by omega)) ?_
      refine Ent.rdSome 3 (by rfl) (by omega) (fun fd hfd2 => ?_)
      subst hfd2
      refine Cd.region ?_
      refine Ls.ev (some 21) (Ev.fieldAddr (k := 0) (show Oper.op _ = Op.fieldAddr 43 (Operand.tmp 3) 0 from rfl) (by rfl) (by kernel_rfl) (by rfl)) (by rfl) (by rfl) ?_
      refine Ls.ev (some 22) (Ev.load 2 (show Oper.op _ = Op.load 41 (Operand.tmp 21) from rfl) (by rfl) (by rfl) (by kernel_rfl) (by rfl)) (by rfl) (by rfl) ?_
      refine Ls.ev (some 23) (Ev.move (show Oper.op _ = Op.move (Operand.tmp 9) from rfl) (by rfl)) (by rfl) (by rfl) ?_
      refine Ls.ev (some 24) (Ev.indexAt (sz := 3) (show Oper.op _ = Op.indexAddr 41 (Operand.tmp 22) (Operand.tmp 23) from rfl) (by rfl) (by rfl) Tryz.underlying41 (by kernel_rfl) (by omega)) (by rfl) (by rfl) ?_
      refine Ls.ev (some 25) (Ev.loadEl (enc := FiP.enc) (sz := 3) (show Oper.op _ = Op.load 88 (Operand.tmp 24) from rfl) (by rfl) (ReadsIn.rd 3 (by rfl)) (by kernel_rfl) (fun _ => rfl) hm) (by rfl) (by rfl) ?_
      refine Ls.does none (Does.store 0 (show Oper.op _ = Op.store 88 (Operand.tmp 8) (Operand.tmp 25) from rfl) (by rfl) (by rfl) (by rfl) (by kernel_rfl) (by rfl) (by kernel_rfl) (by rfl)) (by rfl) (by rfl) ?_
      intro _ _
      refine Ls.nil ?_
      refine Cd.seq ?_
      refine Cd.seq ?_
      refine Cd.region ?_
      refine Ls.ev (some 26) (Ev.move (show Oper.op _ = Op.move (Operand.tmp 9) from rfl) (by rfl)) (by rfl) (by rfl) ?_
      refine Ls.ev (some 27) (Ev.lss (show Oper.op _ = Op.binOp BinOp.lss 3 (Operand.tmp 26) (Operand.const (Value.int IntKind.i64 0)) 3 from rfl) (by rfl) (by rfl)) (by rfl) (by rfl) ?_
      refine Ls.ev (some 28) (Ev.move (show Oper.op _ = Op.move (Operand.tmp 27) from rfl) (by rfl)) (by rfl) (by rfl) ?_
      refine Ent.known 28 false (by rfl) (by exact (decide_eq_false (show ¬ ((m : Int) < 0) by omega))) ?_
      refine Ls.pass (some 29) (by rfl) (by rfl) ?_
      refine Ls.pass (some 30) (by rfl) (by rfl) ?_
      refine Ls.pass (some 31) (by rfl) (by rfl) ?_
      refine Ls.pass (some 32) (by rfl) (by rfl) ?_
      refine Ls.ev (some 33) (Ev.pickF (show Oper.op _ = Op.pick (Operand.tmp 28) (Operand.tmp 32) (Operand.const (Value.bool false)) from rfl) (by rfl) (by rfl)) (by rfl) (by rfl) ?_
      refine Ls.ev (some 34) (Ev.move (show Oper.op _ = Op.move (Operand.tmp 33) from rfl) (by rfl)) (by rfl) (by rfl) ?_
      refine Ent.known 34 false (by rfl) (by exact (rfl)) ?_
      refine Ls.ev (some 35) (Ev.fieldAddr (k := 1) (show Oper.op _ = Op.fieldAddr 88 (Operand.tmp 8) 1 from rfl) (by rfl) (by kernel_rfl) (by rfl)) (by rfl) (by rfl) ?_
      refine Ls.ev (some 36) (Ev.load 0 (show Oper.op _ = Op.load 9 (Operand.tmp 35) from rfl) (by rfl) (by rfl) (by kernel_rfl) (by rfl)) (by rfl) (by rfl) ?_
      refine Ls.ev (some 37) (Ev.lenS (show Oper.op _ = Op.call { callee := Callee.builtin Builtin.len, args := #[Operand.tmp 36], argTypes := #[9] } from rfl) (by rfl) Tryz.underlying9) (by rfl) (by rfl) ?_
      refine Ls.ev (some 38) (Ev.move (show Oper.op _ = Op.move (Operand.tmp 2) from rfl) (by rfl)) (by rfl) (by rfl) ?_
      refine Ls.ev (some 39) (Ev.lenS (show Oper.op _ = Op.call { callee := Callee.builtin Builtin.len, args := #[Operand.tmp 38], argTypes := #[9] } from rfl) (by rfl) Tryz.underlying9) (by rfl) (by rfl) ?_
      refine Ls.ev (some 40) (Ev.addI (show Oper.op _ = Op.binOp BinOp.add 3 (Operand.tmp 37) (Operand.tmp 39) 3 from rfl) (by rfl) (by rfl) (by omega)) (by rfl) (by rfl) ?_
      refine Ls.ev (some 41) (Ev.gtr (show Oper.op _ = Op.binOp BinOp.gtr 3 (Operand.tmp 40) (Operand.const (Value.int IntKind.i64 262144)) 3 from rfl) (by rfl) (by rfl)) (by rfl) (by rfl) ?_
      refine Ls.ev (some 42) (Ev.pickF (show Oper.op _ = Op.pick (Operand.tmp 34) (Operand.const (Value.bool true)) (Operand.tmp 41) from rfl) (by rfl) (by rfl)) (by rfl) (by rfl) ?_
      refine Ls.nil ?_
      skip
      by_cases h2 : 262144 < f.b.length + l.length
      · skip
        have hR2 : R = (P, 5) := by rw [hR, DrP.append, if_neg (fun h => h hg), if_pos (.inr (by rw [hbn]; omega))]
        subst hR2
        refine Cd.cond_true (by rfl) (decide_eq_true (show (262144 : Int) < (f.b.length : Int) + (l.length : Int) by omega)) ?_
        refine Cd.seq ?_
        refine Cd.region ?_
        refine Ls.ev (some 43) (Ev.loads 2 (show Oper.op _ = Op.load 43 (Operand.tmp 3) from rfl) (by rfl) (by rfl) (n := 4) (by kernel_rfl) (by rfl) (by rfl)) (by rfl) (by rfl) ?_
        refine Ls.does none (Does.store 1 (show Oper.op _ = Op.store 43 (Operand.tmp 6) (Operand.tmp 43) from rfl) (by rfl) (by rfl) (by rfl) (by kernel_rfl) (by rfl) (by kernel_rfl) (by rfl)) (by rfl) (by rfl) ?_
        intro _ _
        refine Ls.ev (some 7) (Ev.assign (show Oper.op _ = Op.assign (Operand.const (Value.int IntKind.i64 5)) from rfl) (by rfl)) (by rfl) (by rfl) ?_
        refine Ls.nil ?_
        refine Cd.ret ?_
        refine Ent.ret ((some fd, c)) (trivial) (Res.cell_tmp 1 (by rfl) (by rfl) (by rfl) (n := 4) (by kernel_rfl) (by rfl) (by rfl) (by rfl)) ?_ [3] (by rfl) ?_
        · rfl
        · rfl
      · skip
        have hfull : ¬ ((P.find q = none ∧ 256 ≤ P.fs.length) ∨ 262144 < (P.bytes q).length + l.length) := by
          rw [hbn, hfd]
          rintro (⟨h, _⟩ | h)
          · cases h
          · omega
        refine Cd.cond_false (by rfl) (decide_eq_false (show ¬ ((262144 : Int) < (f.b.length : Int) + (l.length : Int)) by omega)) ?_
        refine Cd.skip ?_
        refine Cd.seq ?_
        refine Cd.seq ?_
        refine Cd.region ?_
        refine Ls.ev (some 44) (Ev.loads 2 (show Oper.op _ = Op.load 43 (Operand.tmp 3) from rfl) (by rfl) (by rfl) (n := 4) (by kernel_rfl) (by rfl) (by rfl)) (by rfl) (by rfl) ?_
        refine Ls.does (some 45) (Does.read (show Oper.op _ = Op.call { callee := Callee.value (Operand.func 47), args := #[Operand.tmp 44], argTypes := #[43] } from rfl) Tryz.func47 (by kernel_rfl) (by kernel_rfl) (ddead_sl P (some fd) c) (by rfl) (by rfl) trivial) (by rfl) (by rfl) ?_
        rintro _ -
        refine Ls.nil ?_
        by_cases hd : P.dead
        · skip
          have hR2 : R = (P, 6) := by rw [hR, DrP.append, if_neg (fun h => h hg), if_neg hfull, if_pos hd]
          subst hR2
          rw [hd]
          refine Cd.cond_true (by rfl) (rfl) ?_
          refine Cd.seq ?_
          refine Cd.region ?_
          refine Ls.ev (some 46) (Ev.loads 2 (show Oper.op _ = Op.load 43 (Operand.tmp 3) from rfl) (by rfl) (by rfl) (n := 4) (by kernel_rfl) (by rfl) (by rfl)) (by rfl) (by rfl) ?_
          refine Ls.does none (Does.store 1 (show Oper.op _ = Op.store 43 (Operand.tmp 6) (Operand.tmp 46) from rfl) (by rfl) (by rfl) (by rfl) (by kernel_rfl) (by rfl) (by kernel_rfl) (by rfl)) (by rfl) (by rfl) ?_
          intro _ _
          refine Ls.ev (some 7) (Ev.assign (show Oper.op _ = Op.assign (Operand.const (Value.int IntKind.i64 6)) from rfl) (by rfl)) (by rfl) (by rfl) ?_
          refine Ls.nil ?_
          refine Cd.ret ?_
          refine Ent.ret (((some fd), c)) (trivial) (Res.cell_tmp 1 (by rfl) (by rfl) (by rfl) (n := 4) (by kernel_rfl) (by rfl) (by rfl) (by rfl)) ?_ [3] (by rfl) ?_
          · rfl
          · rfl
        · skip
          have hd : P.dead = false := by simpa using hd
          have hR2 : R = (P.step.put ⟨f.nm, f.b ++ l, f.sy⟩, 0) := by
            rw [hR, DrP.append, if_neg (fun h => h hg), if_neg hfull, if_neg (by rw [hd]; decide), hfd]
            try rfl
          subst hR2
          rw [hd]
          refine Cd.cond_false (by rfl) (rfl) ?_
          refine Cd.skip ?_
          refine Cd.seq ?_
          refine Cd.region ?_
          refine Ls.ev (some 47) (Ev.fieldAddr (k := 1) (show Oper.op _ = Op.fieldAddr 88 (Operand.tmp 8) 1 from rfl) (by rfl) (by kernel_rfl) (by rfl)) (by rfl) (by rfl) ?_
          refine Ls.ev (some 48) (Ev.load 0 (show Oper.op _ = Op.load 9 (Operand.tmp 47) from rfl) (by rfl) (by rfl) (by kernel_rfl) (by rfl)) (by rfl) (by rfl) ?_
          refine Ls.ev (some 49) (Ev.move (show Oper.op _ = Op.move (Operand.tmp 2) from rfl) (by rfl)) (by rfl) (by rfl) ?_
          refine Ls.ev (some 50) (Ev.to (Ev.addS (show Oper.op _ = Op.binOp BinOp.add 9 (Operand.tmp 48) (Operand.tmp 49) 9 from rfl) (by rfl) (by rfl) (by rw [txt_size, txt_size]; first | omega | (simp only [List.length_nil]; omega))) (congrArg Value.string (txt_app f.b l))) (by rfl) (by rfl) ?_
          refine Ls.ev (some 51) (Ev.fieldAddr (k := 1) (show Oper.op _ = Op.fieldAddr 88 (Operand.tmp 8) 1 from rfl) (by rfl) (by kernel_rfl) (by rfl)) (by rfl) (by rfl) ?_
          refine Ls.does none (Does.store 0 (show Oper.op _ = Op.store 9 (Operand.tmp 51) (Operand.tmp 50) from rfl) (by rfl) (by rfl) (by rfl) (by kernel_rfl) (by rfl) (by kernel_rfl) (by rfl)) (by rfl) (by rfl) ?_
          intro _ _
          refine Ls.nil ?_
          refine Cd.seq ?_
          refine Cd.draw [4] (by kernel_rfl) ?_
          refine Rg.ev 0 (by rfl) (fun _ h => h) (Ev.loads 2 (show Oper.op _ = Op.load 43 (Operand.tmp 3) from rfl) (by rfl) (by rfl) (n := 4) (by kernel_rfl) (by rfl) (by rfl)) (by rfl) (some 52) (by rfl) (by kernel_rfl) (by kernel_rfl) (by kernel_rfl) (by kernel_rfl) ?_
          refine Rg.ev 2 (by rfl) (fun _ h => h) (Ev.loads 0 (show Oper.op _ = Op.load 88 (Operand.tmp 8) from rfl) (by rfl) (by rfl) (n := 3) (by kernel_rfl) (by rfl) (by rfl)) (by rfl) (some 54) (by rfl) (by kernel_rfl) (by kernel_rfl) (by kernel_rfl) (by kernel_rfl) ?_
          refine Rg.does 1 (by rfl) (by kernel_rfl) (Does.read (show Oper.op _ = Op.call { callee := Callee.value (Operand.func 69), args := #[Operand.tmp 52], argTypes := #[43] } from rfl) Tryz.func69 (by kernel_rfl) (by kernel_rfl) (dstep_sl P hok hd (some fd) c) (by rfl) (by rfl) trivial) (by rfl) (some 53) (by rfl) (by exact fun _ _ h => h) ?_
          rintro _ -
          skip
          refine Rg.does 3 (by rfl) (by kernel_rfl) (Does.readN (show Oper.op _ = Op.call { callee := Callee.value (Operand.func 40), args := #[Operand.tmp 53, Operand.tmp 54], argTypes := #[43, 88] } from rfl) Tryz.func40 (by kernel_rfl) (by kernel_rfl) (dwith_sl P.step hok.rise (show P.fs.length ≤ 1000000 by omega) (some fd) c ⟨f.nm, f.b ++ l, f.sy⟩) (by rfl) (by rfl) ⟨ReadsIn.rd 3 (by rfl), trivial⟩ (fun _ => by rfl)) (by rfl) (some 55) (by rfl) (fun _ _ h => h.tail_) ?_
          rintro ⟨wA, wc⟩ -
          dsimp only
          refine Rg.tail 4 [] (by rfl) (by kernel_rfl) (Does.store 2 (show Oper.op _ = Op.store 43 (Operand.tmp 6) (Operand.tmp 55) from rfl) (by rfl) (by rfl) (by rfl) (by kernel_rfl) (by rfl) (by kernel_rfl) (by rfl)) (by rfl) none (by rfl) (by kernel_rfl) (by kernel_rfl) ?_
          intro _ _
          refine Rg.ev 5 (by rfl) (fun _ h => h) (Ev.assign (show Oper.op _ = Op.assign (Operand.const (Value.int IntKind.i64 0)) from rfl) (by rfl)) (by rfl) (some 7) (by rfl) (by kernel_rfl) (by kernel_rfl) (by kernel_rfl) (by kernel_rfl) ?_
          refine Rg.done (by kernel_rfl) ?_ _
          refine Ent.see 0 (by rfl) ?_
          refine Cd.ret ?_
          refine Ent.ret ((wA, wc)) (trivial) (Res.cell_tmp 2 (by rfl) (by rfl) (by rfl) (n := 4) (by kernel_rfl) (by rfl) (by rfl) (by rfl)) ?_ [0] (by rfl) ?_
          · rfl
          · rfl
end Go.Proofs.YtceanciekadkeaaGreatDoor
/- the document's drives over pieces: a name that no file has -/
namespace Go.Proofs.YtceanciekadkeaaGreatDoor
open Go.RowKit
theorem pig : ∀ (l m : List (List UInt8)), l.Nodup → (∀ x ∈ l, x ∈ m) → l.length ≤ m.length
  | [], _, _, _ => Nat.zero_le _
  | x :: l, m, hn, h => by
    obtain ⟨h1, h2⟩ := List.nodup_cons.1 hn
    have hx := h x List.mem_cons_self
    have := pig l (m.erase x) h2 (fun y hy => (List.mem_erase_of_ne (fun e : y = x => h1 (by rw [← e]; exact hy))).2 (h y (List.mem_cons_of_mem _ hy)))
    rw [List.length_erase_of_mem hx] at this
    have : 0 < m.length := List.length_pos_of_mem hx
    rw [List.length_cons]
    omega
def qnm (n : Nat) : List UInt8 := 113 :: Lib.itoa (n : Int)
theorem itoa_inj6 {n m : Nat} (h1 : n < 1000000) (h2 : m < 1000000) (h : Lib.itoa (n : Int) = Lib.itoa (m : Int)) : n = m := by
  refine dgs_inj 6 n m (by omega) (by omega) ?_
  rw [← (pad6 h1).1, ← (pad6 h2).1, h]
theorem qnm_good {n : Nat} (h : n < 1000000) : Good (qnm n) := ⟨by simp [qnm], by
  have := (pad6 h).2
  simp only [qnm, List.length_cons]
  omega, fun x hx => by
  rcases List.mem_cons.1 hx with rfl | hx
  · decide
  · have := dgs_digit 6 n x (by rw [← (pad6 h).1]; exact List.mem_append_right _ hx)
    unfold okB
    omega⟩
theorem qnm_few {P : DrP} {i : Nat} (hi : i < 1000000) (h : ∀ j, j < i → P.find (qnm j) ≠ none) : i ≤ P.fs.length := by
  have := pig ((List.range i).map qnm) (P.fs.map FiP.nm) (by
    show List.Pairwise _ _
    rw [List.pairwise_map]
    refine List.Pairwise.imp_of_mem ?_ List.nodup_range
    intro a b ha hb hab e
    have ha := List.mem_range.1 ha
    have hb := List.mem_range.1 hb
    exact hab (itoa_inj6 (by omega) (by omega) (by simpa [qnm] using e))) (fun x hx => by
    obtain ⟨j, hj, rfl⟩ := List.mem_map.1 hx
    have hj := List.mem_range.1 hj
    cases hf : P.find (qnm j) with
    | none => exact absurd hf (h j hj)
    | some f =>
      obtain ⟨h1, h2⟩ := findG_some hf
      rw [← h2]
      exact List.mem_map_of_mem h1)
  simpa using this
theorem missing_sl (P : DrP) (hpl : P.fs.length ≤ 256) (A : Option Addr) (c : Nat) : Fn Tryz.prog 48 #[.agg (P.val A c).toArray] [rdF A P.fs] (List UInt8) (fun q => .string (txt q)) (fun _ => []) (fun q => P.find q = none ∧ Good q) := by
  have hat : ∀ q, _ := fun q => dat_sl P A c q (by omega)
  have hVe : P.val A c = [.slice A P.fs.length c, .int .i64 P.steps, .bool P.left.isSome, .int .i64 ((P.left.getD 0 : Nat) : Int)] := rfl
  rw [hVe] at hat ⊢
  refine Fn.enter Tryz.func48 rfl Tryz.ntmps48 (by rfl) ?_
  intro w0
  skip
  refine Cd.seq ?_
  refine Cd.region ?_
  refine Ls.does (some 1) (Does.box (show Oper.op _ = Op.box 43 (Operand.tmp 0) from rfl) (by rfl)) (by rfl) (by rfl) ?_
  intro g1 _
  refine Ls.ev (some 2) (Ev.assign (show Oper.op _ = Op.assign (Operand.const (Value.string { data := #[] })) from rfl) (by rfl)) (by rfl) (by rfl) ?_
  refine Ls.nil ?_
  refine Cd.seq ?_
  refine Cd.region ?_
  refine Ls.ev (some 3) (Ev.assign (show Oper.op _ = Op.assign (Operand.const (Value.int IntKind.i64 0)) from rfl) (by rfl)) (by rfl) (by rfl) ?_
  refine Ls.nil ?_
  refine Cd.block ?_
  refine Cd.loop (ι := Nat) (fun i => [(1, .pointer (some ⟨g1, 0, none⟩)), (3, .int .i64 i)]) (fun _ => [blk g1 43 [.slice A P.fs.length c, .int .i64 P.steps, .bool P.left.isSome, .int .i64 ((P.left.getD 0 : Nat) : Int)], rdF A P.fs]) (fun i => i < 1000 ∧ ∀ j, j < i → P.find (qnm j) ≠ none) (fun i => 1000 - i) (0) (⟨by decide, fun j h => absurd h (Nat.not_lt_zero _)⟩) ?_ rfl ?_
  · (repeat (first | exact trivial | refine ⟨by rfl, ?_⟩))
  rintro i ⟨hi, hall⟩
  have hfew := qnm_few (by omega) hall
  have hgd := qnm_good (n := i) (by omega)
  have hqs := hgd.len
  refine Cd.seq ?_
  refine Cd.block ?_
  refine Cd.seq ?_
  refine Cd.region ?_
  refine Ls.ev (some 7) (Ev.move (show Oper.op _ = Op.move (Operand.tmp 3) from rfl) (by rfl)) (by rfl) (by rfl) ?_
  refine Ls.does (some 8) (Does.read (show Oper.op _ = Op.call { callee := Callee.value (Operand.func 35), args := #[Operand.tmp 7], argTypes := #[3] } from rfl) Tryz.func35 (by kernel_rfl) (by kernel_rfl) (digits_sl i (by unfold in64; omega)) (by rfl) (by rfl) trivial) (by rfl) (by rfl) ?_
  rintro _ -
  have hil : (Lib.itoa (i : Int)).length ≤ 32 := by
    simp only [qnm, List.length_cons] at hqs
    omega
  skip
  refine Ls.ev (some 9) (Ev.to (Ev.addS (show Oper.op _ = Op.binOp BinOp.add 9 (Operand.const (Value.string { data := #[113] })) (Operand.tmp 8) 9 from rfl) (by rfl) (by rfl) (by rw [txt_size, txt_size]; simp only [List.length_cons, List.length_nil]; omega)) (congrArg Value.string (txt_app [113] _))) (by rfl) (by rfl) ?_
  refine Ls.ev (some 4) (Ev.assign (show Oper.op _ = Op.assign (Operand.tmp 9) from rfl) (by rfl)) (by rfl) (by rfl) ?_
  refine Ls.nil ?_
  refine Cd.seq ?_
  refine Cd.region ?_
  refine Ls.ev (some 10) (Ev.loads 0 (show Oper.op _ = Op.load 43 (Operand.tmp 1) from rfl) (by rfl) (by rfl) (n := 4) (by kernel_rfl) (by rfl) (by rfl)) (by rfl) (by rfl) ?_
  refine Ls.ev (some 11) (Ev.move (show Oper.op _ = Op.move (Operand.tmp 4) from rfl) (by rfl)) (by rfl) (by rfl) ?_
  refine Ls.does (some 12) (Does.read (show Oper.op _ = Op.call { callee := Callee.value (Operand.func 39), args := #[Operand.tmp 10, Operand.tmp 11], argTypes := #[43, 9] } from rfl) Tryz.func39 (by kernel_rfl) (by kernel_rfl) (hat (qnm i)) (by rfl) (by rfl) ⟨ReadsIn.rd 1 (by rfl), trivial⟩) (by rfl) (by rfl) ?_
  rintro r hr
  refine Ls.ev (some 13) (Ev.lss (show Oper.op _ = Op.binOp BinOp.lss 3 (Operand.tmp 12) (Operand.const (Value.int IntKind.i64 0)) 3 from rfl) (by rfl) (by rfl)) (by rfl) (by rfl) ?_
  refine Ls.nil ?_
  cases hfd : P.find (qnm i) with
  | none =>
    obtain rfl := at_miss hr hfd
    skip
    refine Cd.cond_true (by rfl) (decide_eq_true (show (-1 : Int) < 0 by decide)) ?_
    refine Cd.seq ?_
    refine Cd.region ?_
    refine Ls.ev (some 14) (Ev.move (show Oper.op _ = Op.move (Operand.tmp 4) from rfl) (by rfl)) (by rfl) (by rfl) ?_
    refine Ls.ev (some 2) (Ev.assign (show Oper.op _ = Op.assign (Operand.tmp 14) from rfl) (by rfl)) (by rfl) (by rfl) ?_
    refine Ls.nil ?_
    refine Cd.ret ?_
    refine Ent.ret (qnm i) (⟨hfd, hgd⟩) (Res.tmp (by rfl) (by rfl)) ?_ [] (by rfl) ?_
    · rfl
    · rfl
  | some f =>
    obtain ⟨m, rfl, hm⟩ := at_hit hr hfd
    skip
    refine Cd.cond_false (by rfl) (decide_eq_false (show ¬ ((m : Int) < 0) by omega)) ?_
    refine Cd.skip ?_
    refine Cd.region ?_
    refine Ls.ev (some 5) (Ev.move (show Oper.op _ = Op.move (Operand.tmp 3) from rfl) (by rfl)) (by rfl) (by rfl) ?_
    refine Ls.ev (some 6) (Ev.addN (b := 1) (show Oper.op _ = Op.binOp BinOp.add 3 (Operand.tmp 5) (Operand.const (Value.int IntKind.i64 1)) 3 from rfl) (by rfl) (by rfl) (by omega)) (by rfl) (by rfl) ?_
    refine Ls.ev (some 3) (Ev.assign (show Oper.op _ = Op.assign (Operand.tmp 6) from rfl) (by rfl)) (by rfl) (by rfl) ?_
    refine Ls.nil ?_
    refine Ent.inv (i + 1) ?_ ?_ ?_
    · (try dsimp only); exact ⟨⟨by omega, fun j hj => by
        rcases Nat.lt_succ_iff_lt_or_eq.1 hj with h | rfl
        · exact hall j h
        · rw [hfd]; simp⟩, by omega⟩
    · (repeat (first | exact trivial | refine ⟨by rfl, ?_⟩ | refine ⟨by simp only [List.length_append, List.length_cons, List.length_nil]; rfl, ?_⟩ | refine ⟨by push_cast; rfl, ?_⟩))
    · rfl
end Go.Proofs.YtceanciekadkeaaGreatDoor
/- all that is told of a drive is the document's -/
namespace Go.Proofs.YtceanciekadkeaaGreatDoor
open Go.RowKit
theorem bool_f {p : Prop} [Decidable p] (h : ¬ p) : Value.bool (decide p) = Value.bool false := congrArg Value.bool (decide_eq_false h)
theorem bool_t {p : Prop} [Decidable p] (h : p) : Value.bool (decide p) = Value.bool true := congrArg Value.bool (decide_eq_true h)
set_option maxHeartbeats 2000000 in
theorem tells_sl {D : DrS} {P : DrP} (h : Drv D P) (A : Option Addr) (c : Nat) : Fn Tryz.prog 17 #[D.ptr, .agg (P.val A c).toArray] [D.rB, D.rM, D.rF, rdF A P.fs] Unit (fun _ => .bool true) (fun _ => []) (fun _ => True) := by
  have hpl := h.ok.len
  obtain ⟨ns, hns⟩ : ∃ ns, ns = P.fs.map FiP.nm := ⟨_, rfl⟩
  have hnl : P.fs.length = ns.length := by rw [hns, List.length_map]
  have hnm := names_sl h
  rw [hnl, ← hns] at hnm
  have hde := ddead_sl P A c
  have hms := missing_sl P hpl A c
  have hVe : P.val A c = [.slice A P.fs.length c, .int .i64 P.steps, .bool P.left.isSome, .int .i64 ((P.left.getD 0 : Nat) : Int)] := rfl
  rw [hVe] at hde hms ⊢
  rw [hnl] at hpl
  refine Fn.enter Tryz.func17 rfl Tryz.ntmps17 (by rfl) ?_
  intro w0
  refine Cd.seq ?_
  refine Cd.region ?_
  refine Ls.does (some 3) (Does.box (show Oper.op _ = Op.box 43 (Operand.tmp 1) from rfl) (by rfl)) (by rfl) (by rfl) ?_
  intro g1 _
  refine Ls.ev (some 4) (Ev.assign (show Oper.op _ = Op.assign (Operand.const (Value.bool false)) from rfl) (by rfl)) (by rfl) (by rfl) ?_
  refine Ls.nil ?_
  refine Cd.seq ?_
  refine Cd.region ?_
  refine Ls.ev (some 15) (Ev.move (show Oper.op _ = Op.move (Operand.tmp 0) from rfl) (by rfl)) (by rfl) (by rfl) ?_
  refine Ls.does (some 16) (Does.readN (show Oper.op _ = Op.call { callee := Callee.value (Operand.func 44), args := #[Operand.tmp 15], argTypes := #[23] } from rfl) Tryz.func44 (by kernel_rfl) (by kernel_rfl) (hnm) (by rfl) (by rfl) ⟨rblkIn 1 (by rfl), rmapIn_ 2 (by rfl), trivial⟩ (fun _ => by rfl)) (by rfl) (by rfl) ?_
  rintro ⟨nA, nc⟩ -
  refine Ent.see 0 (by rfl) ?_
  refine Ls.ev (some 5) (Ev.assign (show Oper.op _ = Op.assign (Operand.tmp 16) from rfl) (by rfl)) (by rfl) (by rfl) ?_
  refine Ls.nil ?_
  refine Cd.seq ?_
  refine Cd.seq ?_
  refine Cd.draw [] (by kernel_rfl) ?_
  refine Rg.ev 0 (by rfl) (fun _ h => h) (Ev.move (show Oper.op _ = Op.move (Operand.tmp 5) from rfl) (by rfl)) (by rfl) (some 17) (by rfl) (by kernel_rfl) (by kernel_rfl) (by kernel_rfl) (by kernel_rfl) ?_
  refine Rg.ev 1 (by rfl) (fun _ h => h) (Ev.len (show Oper.op _ = Op.call { callee := Callee.builtin Builtin.len, args := #[Operand.tmp 17], argTypes := #[36] } from rfl) (by rfl) Tryz.underlying36) (by rfl) (some 18) (by rfl) (by kernel_rfl) (by kernel_rfl) (by kernel_rfl) (by kernel_rfl) ?_
  refine Rg.ev 2 (by rfl) (fun _ h => h) (Ev.fieldAddr (k := 0) (show Oper.op _ = Op.fieldAddr 43 (Operand.tmp 3) 0 from rfl) (by rfl) (by kernel_rfl) (by rfl)) (by rfl) (some 19) (by rfl) (by kernel_rfl) (by kernel_rfl) (by kernel_rfl) (by kernel_rfl) ?_
  refine Rg.ev 3 (by rfl) (fun _ h => h) (Ev.load 1 (show Oper.op _ = Op.load 41 (Operand.tmp 19) from rfl) (by rfl) (by rfl) (by kernel_rfl) (by rfl)) (by rfl) (some 20) (by rfl) (by kernel_rfl) (by kernel_rfl) (by kernel_rfl) (by kernel_rfl) ?_
  refine Rg.ev 4 (by rfl) (fun _ h => h) (Ev.len (show Oper.op _ = Op.call { callee := Callee.builtin Builtin.len, args := #[Operand.tmp 20], argTypes := #[41] } from rfl) (by rfl) Tryz.underlying41) (by rfl) (some 21) (by rfl) (by kernel_rfl) (by kernel_rfl) (by kernel_rfl) (by kernel_rfl) ?_
  refine Rg.ev 5 (by rfl) (fun _ h => h) (Ev.to (Ev.neq (show Oper.op _ = Op.binOp BinOp.neq 3 (Operand.tmp 18) (Operand.tmp 21) 3 from rfl) (by rfl) (by rfl)) (bool_f (show ¬ ((ns.length : Int) ≠ (P.fs.length : Int)) by omega))) (by rfl) (some 22) (by rfl) (by kernel_rfl) (by kernel_rfl) (by kernel_rfl) (by kernel_rfl) ?_
  refine Rg.ev 6 (by rfl) (fun _ h => h) (Ev.move (show Oper.op _ = Op.move (Operand.tmp 22) from rfl) (by rfl)) (by rfl) (some 23) (by rfl) (by kernel_rfl) (by kernel_rfl) (by kernel_rfl) (by kernel_rfl) ?_
  refine Rg.ev 7 (by rfl) (fun _ h => h) (Ev.move (show Oper.op _ = Op.move (Operand.tmp 0) from rfl) (by rfl)) (by rfl) (some 24) (by rfl) (by kernel_rfl) (by kernel_rfl) (by kernel_rfl) (by kernel_rfl) ?_
  refine Rg.ev 9 (by rfl) (fun _ h => h) (Ev.fieldAddr (k := 1) (show Oper.op _ = Op.fieldAddr 43 (Operand.tmp 3) 1 from rfl) (by rfl) (by kernel_rfl) (by rfl)) (by rfl) (some 26) (by rfl) (by kernel_rfl) (by kernel_rfl) (by kernel_rfl) (by kernel_rfl) ?_
  refine Rg.ev 10 (by rfl) (fun _ h => h) (Ev.load 1 (show Oper.op _ = Op.load 3 (Operand.tmp 26) from rfl) (by rfl) (by rfl) (by kernel_rfl) (by rfl)) (by rfl) (some 27) (by rfl) (by kernel_rfl) (by kernel_rfl) (by kernel_rfl) (by kernel_rfl) ?_
  refine Rg.does 8 (by rfl) (by kernel_rfl) (Does.read (show Oper.op _ = Op.call { callee := Callee.value (Operand.func 45), args := #[Operand.tmp 24], argTypes := #[23] } from rfl) Tryz.func45 (by kernel_rfl) (by kernel_rfl) (steps_sl h) (by rfl) (by rfl) ⟨rblkIn 2 (by rfl), trivial⟩) (by rfl) (some 25) (by rfl) (by exact fun _ _ h => h) ?_
  rintro _ -
  skip
  refine Rg.ev 11 (by rfl) (fun _ h => h) (Ev.to (Ev.neq (show Oper.op _ = Op.binOp BinOp.neq 3 (Operand.tmp 25) (Operand.tmp 27) 3 from rfl) (by rfl) (by rfl)) (bool_f (fun h => h rfl))) (by rfl) (some 28) (by rfl) (by kernel_rfl) (by kernel_rfl) (by kernel_rfl) (by kernel_rfl) ?_
  refine Rg.ev 12 (by rfl) (fun _ h => h) (Ev.pickF (show Oper.op _ = Op.pick (Operand.tmp 23) (Operand.const (Value.bool true)) (Operand.tmp 28) from rfl) (by rfl) (by rfl)) (by rfl) (some 29) (by rfl) (by kernel_rfl) (by kernel_rfl) (by kernel_rfl) (by kernel_rfl) ?_
  refine Rg.ev 13 (by rfl) (fun _ h => h) (Ev.move (show Oper.op _ = Op.move (Operand.tmp 29) from rfl) (by rfl)) (by rfl) (some 30) (by rfl) (by kernel_rfl) (by kernel_rfl) (by kernel_rfl) (by kernel_rfl) ?_
  refine Rg.ev 14 (by rfl) (fun _ h => h) (Ev.move (show Oper.op _ = Op.move (Operand.tmp 0) from rfl) (by rfl)) (by rfl) (some 31) (by rfl) (by kernel_rfl) (by kernel_rfl) (by kernel_rfl) (by kernel_rfl) ?_
  refine Rg.ev 16 (by rfl) (fun _ h => h) (Ev.loads 1 (show Oper.op _ = Op.load 43 (Operand.tmp 3) from rfl) (by rfl) (by rfl) (n := 4) (by kernel_rfl) (by rfl) (by rfl)) (by rfl) (some 33) (by rfl) (by kernel_rfl) (by kernel_rfl) (by kernel_rfl) (by kernel_rfl) ?_
  refine Rg.does 15 (by rfl) (by kernel_rfl) (Does.read (show Oper.op _ = Op.call { callee := Callee.value (Operand.func 46), args := #[Operand.tmp 31], argTypes := #[23] } from rfl) Tryz.func46 (by kernel_rfl) (by kernel_rfl) (dead_sl h) (by rfl) (by rfl) ⟨rblkIn 2 (by rfl), trivial⟩) (by rfl) (some 32) (by rfl) (by exact fun _ _ h => h) ?_
  rintro _ -
  skip
  refine Rg.does 17 (by rfl) (by kernel_rfl) (Does.read (show Oper.op _ = Op.call { callee := Callee.value (Operand.func 47), args := #[Operand.tmp 33], argTypes := #[43] } from rfl) Tryz.func47 (by kernel_rfl) (by kernel_rfl) (hde) (by rfl) (by rfl) trivial) (by rfl) (some 34) (by rfl) (by exact fun _ _ h => h) ?_
  rintro _ -
  skip
  refine Rg.ev 18 (by rfl) (fun _ h => h) (Ev.to (Ev.neqB (show Oper.op _ = Op.binOp BinOp.neq 4 (Operand.tmp 32) (Operand.tmp 34) 4 from rfl) (by rfl) (by rfl) Tryz.underlying4) (show Value.bool (!(P.dead == P.dead)) = Value.bool false by cases P.dead <;> rfl)) (by rfl) (some 35) (by rfl) (by kernel_rfl) (by kernel_rfl) (by kernel_rfl) (by kernel_rfl) ?_
  refine Rg.ev 19 (by rfl) (fun _ h => h) (Ev.pickF (show Oper.op _ = Op.pick (Operand.tmp 30) (Operand.const (Value.bool true)) (Operand.tmp 35) from rfl) (by rfl) (by rfl)) (by rfl) (some 36) (by rfl) (by kernel_rfl) (by kernel_rfl) (by kernel_rfl) (by kernel_rfl) ?_
  refine Rg.done (by kernel_rfl) ?_ _
  refine Cd.cond_false (by rfl) (rfl) ?_
  skip
  refine Cd.skip ?_
  refine Cd.seq ?_
  refine Cd.seq ?_
  refine Cd.region ?_
  refine Ls.ev (some 37) (Ev.fieldAddr (k := 0) (show Oper.op _ = Op.fieldAddr 43 (Operand.tmp 3) 0 from rfl) (by rfl) (by kernel_rfl) (by rfl)) (by rfl) (by rfl) ?_
  refine Ls.ev (some 38) (Ev.load 1 (show Oper.op _ = Op.load 41 (Operand.tmp 37) from rfl) (by rfl) (by rfl) (by kernel_rfl) (by rfl)) (by rfl) (by rfl) ?_
  refine Ls.ev (some 39) (Ev.len (show Oper.op _ = Op.call { callee := Callee.builtin Builtin.len, args := #[Operand.tmp 38], argTypes := #[41] } from rfl) (by rfl) Tryz.underlying41) (by rfl) (by rfl) ?_
  refine Ls.ev (some 40) (Ev.move (show Oper.op _ = Op.move (Operand.const (Value.int IntKind.i64 0)) from rfl) (by rfl)) (by rfl) (by rfl) ?_
  refine Ls.nil ?_
  refine Cd.block ?_
  refine Cd.loop (ι := Nat) (fun k => [(0, D.ptr), (3, .pointer (some ⟨g1, 0, none⟩)), (5, .slice nA ns.length nc), (38, .slice A P.fs.length c), (39, .int .i64 P.fs.length), (40, .int .i64 k)]) (fun _ => [rd nA ns.length 1 (txts ns), blk g1 43 [.slice A P.fs.length c, .int .i64 P.steps, .bool P.left.isSome, .int .i64 ((P.left.getD 0 : Nat) : Int)], D.rB, D.rM, D.rF, rdF A P.fs]) (fun k => k ≤ ns.length) (fun k => ns.length - k) (0) (Nat.zero_le _) ?_ rfl ?_
  · (repeat (first | exact trivial | refine ⟨by rfl, ?_⟩))
  rintro k hk
  refine Cd.seq ?_
  refine Cd.region ?_
  refine Ls.ev (some 41) (Ev.lss (show Oper.op _ = Op.binOp BinOp.lss 3 (Operand.tmp 40) (Operand.tmp 39) 3 from rfl) (by rfl) (by rfl)) (by rfl) (by rfl) ?_
  refine Ls.nil ?_
  refine Cd.seq ?_
  refine Cd.cond _ (by rfl) (fun h2 => ?_) (fun h2 => ?_)
  · skip
    have hlt : k < ns.length := by have := of_decide_eq_true h2; omega
    obtain ⟨f, hf⟩ := get_of_lt (show k < P.fs.length by omega)
    have hfm := List.mem_of_getElem? hf
    have hq : ns[k]? = some f.nm := by rw [hns, List.getElem?_map, hf]; rfl
    have hqt : (ns.map txt)[k]? = some (txt f.nm) := by rw [List.getElem?_map, hq]; rfl
    have hgd := h.ok.good f hfm
    have hgl := hgd.len
    have hfd : P.find f.nm = some f := findG_mem h.ok.rise hfm
    have hsy := h.ok.sync f hfm
    have hsz := h.ok.size f hfm
    have hbs : (txt f.b).size = f.b.length := rfl
    have hS := size_sl h f.nm hgl
    have hL := loose_sl h f.nm hgl
    rw [show P.bytes f.nm = f.b by unfold DrP.bytes; rw [hfd]] at hS
    rw [show P.loose f.nm = f.b.length - f.sy by unfold DrP.loose; rw [hfd]] at hL
    refine Ent.rdSome 0 (by rfl) (by omega) (fun nd hnd => ?_)
    subst hnd
    refine Ent.rdSome 5 (by rfl) (by omega) (fun fd hfd2 => ?_)
    subst hfd2
    refine Cd.skip ?_
    refine Cd.seq ?_
    refine Cd.block ?_
    refine Cd.seq ?_
    refine Cd.region ?_
    refine Ls.ev (some 42) (Ev.move (show Oper.op _ = Op.move (Operand.tmp 40) from rfl) (by rfl)) (by rfl) (by rfl) ?_
    refine Ls.ev (some 43) (Ev.indexAt (sz := 3) (show Oper.op _ = Op.indexAddr 41 (Operand.tmp 38) (Operand.tmp 40) from rfl) (by rfl) (by rfl) Tryz.underlying41 (by kernel_rfl) (by omega)) (by rfl) (by rfl) ?_
    refine Ls.ev (some 44) (Ev.loadEl (enc := FiP.enc) (sz := 3) (show Oper.op _ = Op.load 88 (Operand.tmp 43) from rfl) (by rfl) (ReadsIn.rd 5 (by rfl)) (by kernel_rfl) (fun _ => rfl) hf) (by rfl) (by rfl) ?_
    refine Ls.does (some 7) (Does.alloc (cs := [.string ⟨#[]⟩, .string ⟨#[]⟩, .int .i64 0]) (show Oper.op _ = Op.alloc 88 from rfl) (ZeroIs.mk (.agg #[.string ⟨#[]⟩, .string ⟨#[]⟩, .int .i64 0]) (by kernel_rfl) (by rfl))) (by rfl) (by rfl) ?_
    intro g2 _
    refine Ls.ev (some 6) (Ev.assign (show Oper.op _ = Op.assign (Operand.tmp 42) from rfl) (by rfl)) (by rfl) (by rfl) ?_
    refine Ls.does none (Does.store 0 (show Oper.op _ = Op.store 88 (Operand.tmp 7) (Operand.tmp 44) from rfl) (by rfl) (by rfl) (by rfl) (by kernel_rfl) (by rfl) (by kernel_rfl) (by rfl)) (by rfl) (by rfl) ?_
    intro _ _
    refine Ls.nil ?_
    refine Cd.seq ?_
    refine Cd.region ?_
    refine Ls.ev (some 46) (Ev.move (show Oper.op _ = Op.move (Operand.tmp 0) from rfl) (by rfl)) (by rfl) (by rfl) ?_
    refine Ls.ev (some 47) (Ev.fieldAddr (k := 0) (show Oper.op _ = Op.fieldAddr 88 (Operand.tmp 7) 0 from rfl) (by rfl) (by kernel_rfl) (by rfl)) (by rfl) (by rfl) ?_
    refine Ls.ev (some 48) (Ev.load 0 (show Oper.op _ = Op.load 9 (Operand.tmp 47) from rfl) (by rfl) (by rfl) (by kernel_rfl) (by rfl)) (by rfl) (by rfl) ?_
    refine Ls.does (some 49) (Does.readN (show Oper.op _ = Op.call { callee := Callee.value (Operand.func 27), args := #[Operand.tmp 46, Operand.tmp 48], argTypes := #[23, 9] } from rfl) Tryz.func27 (by kernel_rfl) (by kernel_rfl) (read_sl h f.nm hgd hfd) (by rfl) (by rfl) ⟨rblkIn 3 (by rfl), rmapIn_ 4 (by rfl), filRin 5 (by rfl), trivial⟩ (fun _ => by rfl)) (by rfl) (by rfl) ?_
    rintro ⟨bA, bc⟩ -
    refine Ls.ev (some 45) (Ev.move (show Oper.op _ = Op.move (Operand.tmp 49) from rfl) (by rfl)) (by rfl) (by rfl) ?_
    refine Ls.ev (some 50) (Ev.extract (show Oper.op _ = Op.extract (Operand.tmp 45) 0 from rfl) (by rfl) (by rfl)) (by rfl) (by rfl) ?_
    refine Ls.ev (some 51) (Ev.extract (show Oper.op _ = Op.extract (Operand.tmp 45) 1 from rfl) (by rfl) (by rfl)) (by rfl) (by rfl) ?_
    refine Ls.ev (some 8) (Ev.assign (show Oper.op _ = Op.assign (Operand.tmp 50) from rfl) (by rfl)) (by rfl) (by rfl) ?_
    refine Ls.ev (some 9) (Ev.assign (show Oper.op _ = Op.assign (Operand.tmp 51) from rfl) (by rfl)) (by rfl) (by rfl) ?_
    refine Ls.nil ?_
    refine Cd.seq ?_
    refine Cd.draw [] (by kernel_rfl) ?_
    refine Rg.ev 0 (by rfl) (fun _ h => h) (Ev.move (show Oper.op _ = Op.move (Operand.tmp 5) from rfl) (by rfl)) (by rfl) (some 52) (by rfl) (by kernel_rfl) (by kernel_rfl) (by kernel_rfl) (by kernel_rfl) ?_
    refine Rg.ev 1 (by rfl) (fun _ h => h) (Ev.move (show Oper.op _ = Op.move (Operand.tmp 6) from rfl) (by rfl)) (by rfl) (some 53) (by rfl) (by kernel_rfl) (by kernel_rfl) (by kernel_rfl) (by kernel_rfl) ?_
    refine Rg.ev 2 (by rfl) (fun _ h => h) (Ev.indexAt (sz := 1) (show Oper.op _ = Op.indexAddr 36 (Operand.tmp 52) (Operand.tmp 53) from rfl) (by rfl) (by rfl) Tryz.underlying36 (by kernel_rfl) (by omega)) (by rfl) (some 54) (by rfl) (by kernel_rfl) (by kernel_rfl) (by kernel_rfl) (by kernel_rfl) ?_
    refine Rg.ev 3 (by rfl) (fun _ h => h) (Ev.loadStr (show Oper.op _ = Op.load 9 (Operand.tmp 54) from rfl) (by rfl) (ReadsIn.rd 2 (by rfl)) (by kernel_rfl) (by assumption)) (by rfl) (some 55) (by rfl) (by kernel_rfl) (by kernel_rfl) (by kernel_rfl) (by kernel_rfl) ?_
    refine Rg.ev 4 (by rfl) (fun _ h => h) (Ev.fieldAddr (k := 0) (show Oper.op _ = Op.fieldAddr 88 (Operand.tmp 7) 0 from rfl) (by rfl) (by kernel_rfl) (by rfl)) (by rfl) (some 56) (by rfl) (by kernel_rfl) (by kernel_rfl) (by kernel_rfl) (by kernel_rfl) ?_
    refine Rg.ev 5 (by rfl) (fun _ h => h) (Ev.load 1 (show Oper.op _ = Op.load 9 (Operand.tmp 56) from rfl) (by rfl) (by rfl) (by kernel_rfl) (by rfl)) (by rfl) (some 57) (by rfl) (by kernel_rfl) (by kernel_rfl) (by kernel_rfl) (by kernel_rfl) ?_
    refine Rg.ev 6 (by rfl) (fun _ h => h) (Ev.to (Ev.neqS (show Oper.op _ = Op.binOp BinOp.neq 9 (Operand.tmp 55) (Operand.tmp 57) 9 from rfl) (by rfl) (by rfl)) (bool_f (fun h => h rfl))) (by rfl) (some 58) (by rfl) (by kernel_rfl) (by kernel_rfl) (by kernel_rfl) (by kernel_rfl) ?_
    refine Rg.ev 7 (by rfl) (fun _ h => h) (Ev.move (show Oper.op _ = Op.move (Operand.tmp 58) from rfl) (by rfl)) (by rfl) (some 59) (by rfl) (by kernel_rfl) (by kernel_rfl) (by kernel_rfl) (by kernel_rfl) ?_
    refine Rg.ev 8 (by rfl) (fun _ h => h) (Ev.move (show Oper.op _ = Op.move (Operand.tmp 9) from rfl) (by rfl)) (by rfl) (some 60) (by rfl) (by kernel_rfl) (by kernel_rfl) (by kernel_rfl) (by kernel_rfl) ?_
    refine Rg.ev 9 (by rfl) (fun _ h => h) (Ev.to (Ev.neq (show Oper.op _ = Op.binOp BinOp.neq 27 (Operand.tmp 60) (Operand.const (Value.int IntKind.i64 0)) 27 from rfl) (by rfl) (by rfl)) (bool_f (fun h => h rfl))) (by rfl) (some 61) (by rfl) (by kernel_rfl) (by kernel_rfl) (by kernel_rfl) (by kernel_rfl) ?_
    refine Rg.ev 10 (by rfl) (fun _ h => h) (Ev.pickF (show Oper.op _ = Op.pick (Operand.tmp 59) (Operand.const (Value.bool true)) (Operand.tmp 61) from rfl) (by rfl) (by rfl)) (by rfl) (some 62) (by rfl) (by kernel_rfl) (by kernel_rfl) (by kernel_rfl) (by kernel_rfl) ?_
    refine Rg.ev 11 (by rfl) (fun _ h => h) (Ev.move (show Oper.op _ = Op.move (Operand.tmp 62) from rfl) (by rfl)) (by rfl) (some 63) (by rfl) (by kernel_rfl) (by kernel_rfl) (by kernel_rfl) (by kernel_rfl) ?_
    refine Rg.ev 12 (by rfl) (fun _ h => h) (Ev.move (show Oper.op _ = Op.move (Operand.tmp 8) from rfl) (by rfl)) (by rfl) (some 64) (by rfl) (by kernel_rfl) (by kernel_rfl) (by kernel_rfl) (by kernel_rfl) ?_
    refine Rg.ev 13 (by rfl) (fun _ h => h) (Ev.textOf (l := f.b) (show Oper.op _ = Op.convert 30 9 (Operand.tmp 64) from rfl) (by rfl) (ReadsIn.row 0 (by rfl)) Tryz.underlying30 Tryz.underlying5 Tryz.underlying9) (by rfl) (some 65) (by rfl) (by kernel_rfl) (by kernel_rfl) (by kernel_rfl) (by kernel_rfl) ?_
    refine Rg.ev 14 (by rfl) (fun _ h => h) (Ev.fieldAddr (k := 1) (show Oper.op _ = Op.fieldAddr 88 (Operand.tmp 7) 1 from rfl) (by rfl) (by kernel_rfl) (by rfl)) (by rfl) (some 66) (by rfl) (by kernel_rfl) (by kernel_rfl) (by kernel_rfl) (by kernel_rfl) ?_
    refine Rg.ev 15 (by rfl) (fun _ h => h) (Ev.load 1 (show Oper.op _ = Op.load 9 (Operand.tmp 66) from rfl) (by rfl) (by rfl) (by kernel_rfl) (by rfl)) (by rfl) (some 67) (by rfl) (by kernel_rfl) (by kernel_rfl) (by kernel_rfl) (by kernel_rfl) ?_
    refine Rg.ev 16 (by rfl) (fun _ h => h) (Ev.to (Ev.neqS (show Oper.op _ = Op.binOp BinOp.neq 9 (Operand.tmp 65) (Operand.tmp 67) 9 from rfl) (by rfl) (by rfl)) (bool_f (fun h => h rfl))) (by rfl) (some 68) (by rfl) (by kernel_rfl) (by kernel_rfl) (by kernel_rfl) (by kernel_rfl) ?_
    refine Rg.ev 17 (by rfl) (fun _ h => h) (Ev.pickF (show Oper.op _ = Op.pick (Operand.tmp 63) (Operand.const (Value.bool true)) (Operand.tmp 68) from rfl) (by rfl) (by rfl)) (by rfl) (some 69) (by rfl) (by kernel_rfl) (by kernel_rfl) (by kernel_rfl) (by kernel_rfl) ?_
    refine Rg.ev 18 (by rfl) (fun _ h => h) (Ev.move (show Oper.op _ = Op.move (Operand.tmp 69) from rfl) (by rfl)) (by rfl) (some 70) (by rfl) (by kernel_rfl) (by kernel_rfl) (by kernel_rfl) (by kernel_rfl) ?_
    refine Rg.ev 19 (by rfl) (fun _ h => h) (Ev.move (show Oper.op _ = Op.move (Operand.tmp 0) from rfl) (by rfl)) (by rfl) (some 71) (by rfl) (by kernel_rfl) (by kernel_rfl) (by kernel_rfl) (by kernel_rfl) ?_
    refine Rg.ev 20 (by rfl) (fun _ h => h) (Ev.fieldAddr (k := 0) (show Oper.op _ = Op.fieldAddr 88 (Operand.tmp 7) 0 from rfl) (by rfl) (by kernel_rfl) (by rfl)) (by rfl) (some 72) (by rfl) (by kernel_rfl) (by kernel_rfl) (by kernel_rfl) (by kernel_rfl) ?_
    refine Rg.ev 21 (by rfl) (fun _ h => h) (Ev.load 1 (show Oper.op _ = Op.load 9 (Operand.tmp 72) from rfl) (by rfl) (by rfl) (by kernel_rfl) (by rfl)) (by rfl) (some 73) (by rfl) (by kernel_rfl) (by kernel_rfl) (by kernel_rfl) (by kernel_rfl) ?_
    refine Rg.ev 23 (by rfl) (fun _ h => h) (Ev.fieldAddr (k := 1) (show Oper.op _ = Op.fieldAddr 88 (Operand.tmp 7) 1 from rfl) (by rfl) (by kernel_rfl) (by rfl)) (by rfl) (some 75) (by rfl) (by kernel_rfl) (by kernel_rfl) (by kernel_rfl) (by kernel_rfl) ?_
    refine Rg.ev 24 (by rfl) (fun _ h => h) (Ev.load 1 (show Oper.op _ = Op.load 9 (Operand.tmp 75) from rfl) (by rfl) (by rfl) (by kernel_rfl) (by rfl)) (by rfl) (some 76) (by rfl) (by kernel_rfl) (by kernel_rfl) (by kernel_rfl) (by kernel_rfl) ?_
    refine Rg.ev 25 (by rfl) (fun _ h => h) (Ev.lenS (show Oper.op _ = Op.call { callee := Callee.builtin Builtin.len, args := #[Operand.tmp 76], argTypes := #[9] } from rfl) (by rfl) Tryz.underlying9) (by rfl) (some 77) (by rfl) (by kernel_rfl) (by kernel_rfl) (by kernel_rfl) (by kernel_rfl) ?_
    refine Rg.does 22 (by rfl) (by kernel_rfl) (Does.read (show Oper.op _ = Op.call { callee := Callee.value (Operand.func 31), args := #[Operand.tmp 71, Operand.tmp 73], argTypes := #[23, 9] } from rfl) Tryz.func31 (by kernel_rfl) (by kernel_rfl) (hS) (by rfl) (by rfl) ⟨rblkIn 4 (by rfl), rmapIn_ 5 (by rfl), filRin 6 (by rfl), trivial⟩) (by rfl) (some 74) (by rfl) (by exact fun _ _ h => h) ?_
    rintro _ -
    skip
    refine Rg.ev 26 (by rfl) (fun _ h => h) (Ev.to (Ev.neq (show Oper.op _ = Op.binOp BinOp.neq 3 (Operand.tmp 74) (Operand.tmp 77) 3 from rfl) (by rfl) (by rfl)) (bool_f (fun h => h rfl))) (by rfl) (some 78) (by rfl) (by kernel_rfl) (by kernel_rfl) (by kernel_rfl) (by kernel_rfl) ?_
    refine Rg.ev 27 (by rfl) (fun _ h => h) (Ev.pickF (show Oper.op _ = Op.pick (Operand.tmp 70) (Operand.const (Value.bool true)) (Operand.tmp 78) from rfl) (by rfl) (by rfl)) (by rfl) (some 79) (by rfl) (by kernel_rfl) (by kernel_rfl) (by kernel_rfl) (by kernel_rfl) ?_
    refine Rg.ev 28 (by rfl) (fun _ h => h) (Ev.move (show Oper.op _ = Op.move (Operand.tmp 79) from rfl) (by rfl)) (by rfl) (some 80) (by rfl) (by kernel_rfl) (by kernel_rfl) (by kernel_rfl) (by kernel_rfl) ?_
    refine Rg.ev 29 (by rfl) (fun _ h => h) (Ev.move (show Oper.op _ = Op.move (Operand.tmp 0) from rfl) (by rfl)) (by rfl) (some 81) (by rfl) (by kernel_rfl) (by kernel_rfl) (by kernel_rfl) (by kernel_rfl) ?_
    refine Rg.ev 30 (by rfl) (fun _ h => h) (Ev.fieldAddr (k := 0) (show Oper.op _ = Op.fieldAddr 88 (Operand.tmp 7) 0 from rfl) (by rfl) (by kernel_rfl) (by rfl)) (by rfl) (some 82) (by rfl) (by kernel_rfl) (by kernel_rfl) (by kernel_rfl) (by kernel_rfl) ?_
    refine Rg.ev 31 (by rfl) (fun _ h => h) (Ev.load 1 (show Oper.op _ = Op.load 9 (Operand.tmp 82) from rfl) (by rfl) (by rfl) (by kernel_rfl) (by rfl)) (by rfl) (some 83) (by rfl) (by kernel_rfl) (by kernel_rfl) (by kernel_rfl) (by kernel_rfl) ?_
    refine Rg.ev 33 (by rfl) (fun _ h => h) (Ev.fieldAddr (k := 1) (show Oper.op _ = Op.fieldAddr 88 (Operand.tmp 7) 1 from rfl) (by rfl) (by kernel_rfl) (by rfl)) (by rfl) (some 85) (by rfl) (by kernel_rfl) (by kernel_rfl) (by kernel_rfl) (by kernel_rfl) ?_
    refine Rg.ev 34 (by rfl) (fun _ h => h) (Ev.load 1 (show Oper.op _ = Op.load 9 (Operand.tmp 85) from rfl) (by rfl) (by rfl) (by kernel_rfl) (by rfl)) (by rfl) (some 86) (by rfl) (by kernel_rfl) (by kernel_rfl) (by kernel_rfl) (by kernel_rfl) ?_
    refine Rg.ev 35 (by rfl) (fun _ h => h) (Ev.lenS (show Oper.op _ = Op.call { callee := Callee.builtin Builtin.len, args := #[Operand.tmp 86], argTypes := #[9] } from rfl) (by rfl) Tryz.underlying9) (by rfl) (some 87) (by rfl) (by kernel_rfl) (by kernel_rfl) (by kernel_rfl) (by kernel_rfl) ?_
    refine Rg.ev 36 (by rfl) (fun _ h => h) (Ev.fieldAddr (k := 2) (show Oper.op _ = Op.fieldAddr 88 (Operand.tmp 7) 2 from rfl) (by rfl) (by kernel_rfl) (by rfl)) (by rfl) (some 88) (by rfl) (by kernel_rfl) (by kernel_rfl) (by kernel_rfl) (by kernel_rfl) ?_
    refine Rg.ev 37 (by rfl) (fun _ h => h) (Ev.load 1 (show Oper.op _ = Op.load 3 (Operand.tmp 88) from rfl) (by rfl) (by rfl) (by kernel_rfl) (by rfl)) (by rfl) (some 89) (by rfl) (by kernel_rfl) (by kernel_rfl) (by kernel_rfl) (by kernel_rfl) ?_
    refine Rg.ev 38 (by rfl) (fun _ h => h) (Ev.subN (a := f.b.length) (b := f.sy) (show Oper.op _ = Op.binOp BinOp.sub 3 (Operand.tmp 87) (Operand.tmp 89) 3 from rfl) (by rfl) (by rfl) (by omega)) (by rfl) (some 90) (by rfl) (by kernel_rfl) (by kernel_rfl) (by kernel_rfl) (by kernel_rfl) ?_
    skip
    refine Rg.does 32 (by rfl) (by kernel_rfl) (Does.read (show Oper.op _ = Op.call { callee := Callee.value (Operand.func 25), args := #[Operand.tmp 81, Operand.tmp 83], argTypes := #[23, 9] } from rfl) Tryz.func25 (by kernel_rfl) (by kernel_rfl) (hL) (by rfl) (by rfl) ⟨rblkIn 4 (by rfl), rmapIn_ 5 (by rfl), filRin 6 (by rfl), trivial⟩) (by rfl) (some 84) (by rfl) (by exact fun _ _ h => h) ?_
    rintro _ -
    skip
    refine Rg.ev 39 (by rfl) (fun _ h => h) (Ev.to (Ev.neq (show Oper.op _ = Op.binOp BinOp.neq 3 (Operand.tmp 84) (Operand.tmp 90) 3 from rfl) (by rfl) (by rfl)) (bool_f (fun h => h rfl))) (by rfl) (some 91) (by rfl) (by kernel_rfl) (by kernel_rfl) (by kernel_rfl) (by kernel_rfl) ?_
    refine Rg.ev 40 (by rfl) (fun _ h => h) (Ev.pickF (show Oper.op _ = Op.pick (Operand.tmp 80) (Operand.const (Value.bool true)) (Operand.tmp 91) from rfl) (by rfl) (by rfl)) (by rfl) (some 92) (by rfl) (by kernel_rfl) (by kernel_rfl) (by kernel_rfl) (by kernel_rfl) ?_
    refine Rg.done (by kernel_rfl) ?_ _
    refine Cd.cond_false (by rfl) (rfl) ?_
    refine Cd.skip ?_
    refine Cd.region ?_
    refine Ls.ev (some 93) (Ev.addN (b := 1) (show Oper.op _ = Op.binOp BinOp.add 3 (Operand.tmp 40) (Operand.const (Value.int IntKind.i64 1)) 3 from rfl) (by rfl) (by rfl) (by omega)) (by rfl) (by rfl) ?_
    refine Ls.ev (some 40) (Ev.move (show Oper.op _ = Op.move (Operand.tmp 93) from rfl) (by rfl)) (by rfl) (by rfl) ?_
    refine Ls.nil ?_
    refine Ent.pick [2, 3, 4, 5, 6, 7] (by rfl) ?_
    refine Ent.inv (k + 1) ?_ ?_ ?_
    · (try dsimp only); exact ⟨hlt, by omega⟩
    · (repeat (first | exact trivial | refine ⟨by rfl, ?_⟩ | refine ⟨by simp only [List.length_append, List.length_cons, List.length_nil]; rfl, ?_⟩ | refine ⟨by push_cast; rfl, ?_⟩))
    · rfl
  · skip
    have hge : ns.length ≤ k := by have := of_decide_eq_false h2; omega
    have hbad : ¬ Good [66, 97, 100] := fun hg => by
      have := hg.all 66 (by simp)
      revert this
      decide
    have hbn : P.find [66, 97, 100] = none := findG_none_of fun f hf e => hbad (e ▸ h.ok.good f hf)
    have hB := read_miss h [66, 97, 100] hbn
    rw [if_neg hbad] at hB
    have hBs := size_sl h [66, 97, 100] (by decide)
    rw [show P.bytes [66, 97, 100] = [] by unfold DrP.bytes; rw [hbn]] at hBs
    refine Cd.exit ?_
    refine Cd.seq ?_
    refine Cd.region ?_
    refine Ls.ev (some 94) (Ev.loads 1 (show Oper.op _ = Op.load 43 (Operand.tmp 3) from rfl) (by rfl) (by rfl) (n := 4) (by kernel_rfl) (by rfl) (by rfl)) (by rfl) (by rfl) ?_
    refine Ls.does (some 95) (Does.read (show Oper.op _ = Op.call { callee := Callee.value (Operand.func 48), args := #[Operand.tmp 94], argTypes := #[43] } from rfl) Tryz.func48 (by kernel_rfl) (by kernel_rfl) (hms) (by rfl) (by rfl) ⟨ReadsIn.rd 5 (by rfl), trivial⟩) (by rfl) (by rfl) ?_
    rintro q ⟨hq1, hq2⟩
    have hql := hq2.len
    have hM := read_miss h q hq1
    rw [if_pos hq2] at hM
    have hMl := loose_sl h q hql
    rw [show P.loose q = 0 by unfold DrP.loose; rw [hq1]] at hMl
    refine Ls.ev (some 10) (Ev.assign (show Oper.op _ = Op.assign (Operand.tmp 95) from rfl) (by rfl)) (by rfl) (by rfl) ?_
    refine Ls.nil ?_
    refine Cd.seq ?_
    refine Cd.region ?_
    refine Ls.ev (some 97) (Ev.move (show Oper.op _ = Op.move (Operand.tmp 0) from rfl) (by rfl)) (by rfl) (by rfl) ?_
    refine Ls.ev (some 98) (Ev.move (show Oper.op _ = Op.move (Operand.tmp 10) from rfl) (by rfl)) (by rfl) (by rfl) ?_
    refine Ls.does (some 99) (Does.read (show Oper.op _ = Op.call { callee := Callee.value (Operand.func 27), args := #[Operand.tmp 97, Operand.tmp 98], argTypes := #[23, 9] } from rfl) Tryz.func27 (by kernel_rfl) (by kernel_rfl) (hM) (by rfl) (by rfl) ⟨rblkIn 2 (by rfl), rmapIn_ 3 (by rfl), trivial⟩) (by rfl) (by rfl) ?_
    rintro _ -
    refine Ls.ev (some 96) (Ev.move (show Oper.op _ = Op.move (Operand.tmp 99) from rfl) (by rfl)) (by rfl) (by rfl) ?_
    refine Ls.ev (some 100) (Ev.extract (show Oper.op _ = Op.extract (Operand.tmp 96) 0 from rfl) (by rfl) (by rfl)) (by rfl) (by rfl) ?_
    refine Ls.ev (some 101) (Ev.extract (show Oper.op _ = Op.extract (Operand.tmp 96) 1 from rfl) (by rfl) (by rfl)) (by rfl) (by rfl) ?_
    refine Ls.ev (some 11) (Ev.assign (show Oper.op _ = Op.assign (Operand.tmp 100) from rfl) (by rfl)) (by rfl) (by rfl) ?_
    refine Ls.ev (some 12) (Ev.assign (show Oper.op _ = Op.assign (Operand.tmp 101) from rfl) (by rfl)) (by rfl) (by rfl) ?_
    refine Ls.nil ?_
    refine Cd.seq ?_
    refine Cd.region ?_
    refine Ls.ev (some 103) (Ev.move (show Oper.op _ = Op.move (Operand.tmp 0) from rfl) (by rfl)) (by rfl) (by rfl) ?_
    refine Ls.does (some 104) (Does.read (show Oper.op _ = Op.call { callee := Callee.value (Operand.func 27), args := #[Operand.tmp 103, Operand.const (Value.string { data := #[66, 97, 100] })], argTypes := #[23, 9] } from rfl) Tryz.func27 (by kernel_rfl) (by kernel_rfl) (hB) (by rfl) (by rfl) ⟨rblkIn 2 (by rfl), rmapIn_ 3 (by rfl), trivial⟩) (by rfl) (by rfl) ?_
    rintro _ -
    refine Ls.ev (some 102) (Ev.move (show Oper.op _ = Op.move (Operand.tmp 104) from rfl) (by rfl)) (by rfl) (by rfl) ?_
    refine Ls.ev (some 105) (Ev.extract (show Oper.op _ = Op.extract (Operand.tmp 102) 0 from rfl) (by rfl) (by rfl)) (by rfl) (by rfl) ?_
    refine Ls.ev (some 106) (Ev.extract (show Oper.op _ = Op.extract (Operand.tmp 102) 1 from rfl) (by rfl) (by rfl)) (by rfl) (by rfl) ?_
    refine Ls.ev (some 13) (Ev.assign (show Oper.op _ = Op.assign (Operand.tmp 105) from rfl) (by rfl)) (by rfl) (by rfl) ?_
    refine Ls.ev (some 14) (Ev.assign (show Oper.op _ = Op.assign (Operand.tmp 106) from rfl) (by rfl)) (by rfl) (by rfl) ?_
    refine Ls.nil ?_
    refine Cd.seq ?_
    refine Cd.region ?_
    refine Ls.ev (some 107) (Ev.move (show Oper.op _ = Op.move (Operand.tmp 12) from rfl) (by rfl)) (by rfl) (by rfl) ?_
    refine Ls.ev (some 108) (Ev.to (Ev.eql (show Oper.op _ = Op.binOp BinOp.eql 27 (Operand.tmp 107) (Operand.const (Value.int IntKind.i64 4)) 27 from rfl) (by rfl) (by rfl)) (bool_t rfl)) (by rfl) (by rfl) ?_
    refine Ls.ev (some 109) (Ev.move (show Oper.op _ = Op.move (Operand.tmp 108) from rfl) (by rfl)) (by rfl) (by rfl) ?_
    refine Ls.ev (some 110) (Ev.move (show Oper.op _ = Op.move (Operand.tmp 14) from rfl) (by rfl)) (by rfl) (by rfl) ?_
    refine Ls.ev (some 111) (Ev.to (Ev.eql (show Oper.op _ = Op.binOp BinOp.eql 27 (Operand.tmp 110) (Operand.const (Value.int IntKind.i64 20)) 27 from rfl) (by rfl) (by rfl)) (bool_t rfl)) (by rfl) (by rfl) ?_
    refine Ls.ev (some 112) (Ev.pickT (show Oper.op _ = Op.pick (Operand.tmp 109) (Operand.tmp 111) (Operand.const (Value.bool false)) from rfl) (by rfl) (by rfl)) (by rfl) (by rfl) ?_
    refine Ls.ev (some 113) (Ev.move (show Oper.op _ = Op.move (Operand.tmp 112) from rfl) (by rfl)) (by rfl) (by rfl) ?_
    refine Ls.ev (some 114) (Ev.move (show Oper.op _ = Op.move (Operand.tmp 11) from rfl) (by rfl)) (by rfl) (by rfl) ?_
    refine Ls.ev (some 115) (Ev.len (show Oper.op _ = Op.call { callee := Callee.builtin Builtin.len, args := #[Operand.tmp 114], argTypes := #[30] } from rfl) (by rfl) Tryz.underlying30) (by rfl) (by rfl) ?_
    refine Ls.ev (some 116) (Ev.move (show Oper.op _ = Op.move (Operand.tmp 13) from rfl) (by rfl)) (by rfl) (by rfl) ?_
    refine Ls.ev (some 117) (Ev.len (show Oper.op _ = Op.call { callee := Callee.builtin Builtin.len, args := #[Operand.tmp 116], argTypes := #[30] } from rfl) (by rfl) Tryz.underlying30) (by rfl) (by rfl) ?_
    refine Ls.ev (some 118) (Ev.addN (a := 0) (b := 0) (show Oper.op _ = Op.binOp BinOp.add 3 (Operand.tmp 115) (Operand.tmp 117) 3 from rfl) (by rfl) (by rfl) (by decide)) (by rfl) (by rfl) ?_
    skip
    refine Ls.ev (some 119) (Ev.to (Ev.eql (show Oper.op _ = Op.binOp BinOp.eql 3 (Operand.tmp 118) (Operand.const (Value.int IntKind.i64 0)) 3 from rfl) (by rfl) (by rfl)) (bool_t rfl)) (by rfl) (by rfl) ?_
    refine Ls.ev (some 120) (Ev.pickT (show Oper.op _ = Op.pick (Operand.tmp 113) (Operand.tmp 119) (Operand.const (Value.bool false)) from rfl) (by rfl) (by rfl)) (by rfl) (by rfl) ?_
    refine Ls.ev (some 121) (Ev.move (show Oper.op _ = Op.move (Operand.tmp 120) from rfl) (by rfl)) (by rfl) (by rfl) ?_
    refine Ls.ev (some 122) (Ev.move (show Oper.op _ = Op.move (Operand.tmp 0) from rfl) (by rfl)) (by rfl) (by rfl) ?_
    refine Ls.does (some 123) (Does.read (show Oper.op _ = Op.call { callee := Callee.value (Operand.func 31), args := #[Operand.tmp 122, Operand.const (Value.string { data := #[66, 97, 100] })], argTypes := #[23, 9] } from rfl) Tryz.func31 (by kernel_rfl) (by kernel_rfl) (hBs) (by rfl) (by rfl) ⟨rblkIn 2 (by rfl), rmapIn_ 3 (by rfl), filRin 4 (by rfl), trivial⟩) (by rfl) (by rfl) ?_
    rintro _ -
    refine Ls.ev (some 124) (Ev.move (show Oper.op _ = Op.move (Operand.tmp 0) from rfl) (by rfl)) (by rfl) (by rfl) ?_
    refine Ls.ev (some 125) (Ev.move (show Oper.op _ = Op.move (Operand.tmp 10) from rfl) (by rfl)) (by rfl) (by rfl) ?_
    refine Ls.does (some 126) (Does.read (show Oper.op _ = Op.call { callee := Callee.value (Operand.func 25), args := #[Operand.tmp 124, Operand.tmp 125], argTypes := #[23, 9] } from rfl) Tryz.func25 (by kernel_rfl) (by kernel_rfl) (hMl) (by rfl) (by rfl) ⟨rblkIn 2 (by rfl), rmapIn_ 3 (by rfl), filRin 4 (by rfl), trivial⟩) (by rfl) (by rfl) ?_
    rintro _ -
    skip
    refine Ls.ev (some 127) (Ev.addN (a := 0) (b := 0) (show Oper.op _ = Op.binOp BinOp.add 3 (Operand.tmp 123) (Operand.tmp 126) 3 from rfl) (by rfl) (by rfl) (by decide)) (by rfl) (by rfl) ?_
    skip
    refine Ls.ev (some 128) (Ev.to (Ev.eql (show Oper.op _ = Op.binOp BinOp.eql 3 (Operand.tmp 127) (Operand.const (Value.int IntKind.i64 0)) 3 from rfl) (by rfl) (by rfl)) (bool_t rfl)) (by rfl) (by rfl) ?_
    refine Ls.ev (some 129) (Ev.pickT (show Oper.op _ = Op.pick (Operand.tmp 121) (Operand.tmp 128) (Operand.const (Value.bool false)) from rfl) (by rfl) (by rfl)) (by rfl) (by rfl) ?_
    refine Ls.ev (some 4) (Ev.assign (show Oper.op _ = Op.assign (Operand.tmp 129) from rfl) (by rfl)) (by rfl) (by rfl) ?_
    refine Ls.nil ?_
    refine Cd.ret ?_
    refine Ent.ret (()) (trivial) (Res.tmp (by rfl) (by rfl)) ?_ [] (by rfl) ?_
    · rfl
    · rfl
end Go.Proofs.YtceanciekadkeaaGreatDoor
/- the document's log over pieces: the segments that are there -/
namespace Go.Proofs.YtceanciekadkeaaGreatDoor
open Go.RowKit
abbrev natR (A : Option Addr) (c : Nat) (l : List Nat) : Chunk := row A l.length c 3 1 (nats l)
set_option maxHeartbeats 1000000 in
theorem rsegs_sl (P : DrP) (hfl : P.fs.length ≤ 256) (hnl : ∀ f ∈ P.fs, f.nm.length ≤ 32) (A : Option Addr) (c : Nat) : Fn Tryz.prog 42 #[.agg (P.val A c).toArray] [rdF A P.fs] (Option Addr × Nat) (fun p => .slice p.1 (segsP P).length p.2) (fun p => [natR p.1 p.2 (segsP P)]) (fun _ => True) := by
  obtain ⟨fs, steps, left⟩ := P
  dsimp only [DrP.val] at hfl hnl ⊢
  have hseg : segsP ⟨fs, steps, left⟩ = segsN (fs.map FiP.nm) := rfl
  rw [hseg]
  refine Fn.enter Tryz.func42 rfl Tryz.ntmps42 (by rfl) ?_
  intro w0
  refine Cd.seq ?_
  refine Cd.region ?_
  refine Ls.does (some 1) (Does.box (show Oper.op _ = Op.box 43 (Operand.tmp 0) from rfl) (by rfl)) (by rfl) (by rfl) ?_
  intro g1 _
  refine Ls.ev (some 2) (Ev.assign (show Oper.op _ = Op.assign (Operand.const (Value.slice none 0 0)) from rfl) (by rfl)) (by rfl) (by rfl) ?_
  refine Ls.nil ?_
  refine Cd.seq ?_
  refine Cd.region ?_
  refine Ls.ev (some 3) (Ev.assign (show Oper.op _ = Op.assign (Operand.const (Value.slice none 0 0)) from rfl) (by rfl)) (by rfl) (by rfl) ?_
  refine Ls.nil ?_
  refine Cd.seq ?_
  refine Cd.seq ?_
  refine Cd.region ?_
  refine Ls.ev (some 4) (Ev.assign (show Oper.op _ = Op.assign (Operand.const (Value.int IntKind.i64 0)) from rfl) (by rfl)) (by rfl) (by rfl) ?_
  refine Ls.nil ?_
  refine Cd.block ?_
  refine Ent.nil 3 1 ?_
  refine Cd.loop (ι := Nat × (Option Addr × Nat) × List Nat) (fun p => [(1, .pointer (some ⟨g1, 0, none⟩)), (3, .slice p.2.1.1 p.2.2.length p.2.1.2), (4, .int .i64 p.1)]) (fun p => [natR p.2.1.1 p.2.1.2 p.2.2, blk g1 43 [.slice A fs.length c, .int .i64 steps, .bool left.isSome, .int .i64 ((left.getD 0 : Nat) : Int)], rdF A fs]) (fun p => p.1 ≤ fs.length ∧ p.2.2 = segsN ((fs.map FiP.nm).take p.1)) (fun p => fs.length - p.1) ((0, (none, 0), [])) (⟨Nat.zero_le _, rfl⟩) ?_ rfl ?_
  · (repeat (first | exact trivial | refine ⟨by rfl, ?_⟩))
  rintro ⟨k, ⟨B, b⟩, o⟩ ⟨hk, ho⟩
  dsimp only at hk ho ⊢
  have hol : o.length ≤ k := by
    rw [ho]
    exact Nat.le_trans (segsN_len _) (by rw [List.length_take]; omega)
  refine Cd.seq ?_
  refine Cd.seq ?_
  refine Cd.region ?_
  refine Ls.ev (some 8) (Ev.move (show Oper.op _ = Op.move (Operand.tmp 4) from rfl) (by rfl)) (by rfl) (by rfl) ?_
  refine Ls.ev (some 9) (Ev.fieldAddr (k := 0) (show Oper.op _ = Op.fieldAddr 43 (Operand.tmp 1) 0 from rfl) (by rfl) (by kernel_rfl) (by rfl)) (by rfl) (by rfl) ?_
  refine Ls.ev (some 10) (Ev.load 1 (show Oper.op _ = Op.load 41 (Operand.tmp 9) from rfl) (by rfl) (by rfl) (by kernel_rfl) (by rfl)) (by rfl) (by rfl) ?_
  refine Ls.ev (some 11) (Ev.len (show Oper.op _ = Op.call { callee := Callee.builtin Builtin.len, args := #[Operand.tmp 10], argTypes := #[41] } from rfl) (by rfl) Tryz.underlying41) (by rfl) (by rfl) ?_
  refine Ls.ev (some 12) (Ev.lss (show Oper.op _ = Op.binOp BinOp.lss 3 (Operand.tmp 8) (Operand.tmp 11) 3 from rfl) (by rfl) (by rfl)) (by rfl) (by rfl) ?_
  refine Ls.nil ?_
  refine Cd.cond _ (by rfl) (fun h2 => ?_) (fun h2 => ?_)
  · skip
    have hlt : k < fs.length := by have := of_decide_eq_true h2; omega
    obtain ⟨f, hf⟩ := get_of_lt hlt
    have hq : (fs.map FiP.nm)[k]? = some f.nm := by rw [List.getElem?_map, hf]; rfl
    have hqn := hnl f (List.mem_of_getElem? hf)
    have hst : segsN ((fs.map FiP.nm).take (k + 1)) = if numP f.nm = 0 then o else o ++ [numP f.nm] := by
      rw [List.take_add_one, hq, ho]
      exact segsN_snoc f.nm _
    refine Ent.rdSome 2 (by rfl) (by omega) (fun ad had => ?_)
    subst had
    skip
    refine Cd.skip ?_
    refine Cd.seq ?_
    refine Cd.block ?_
    refine Cd.seq ?_
    refine Cd.region ?_
    refine Ls.ev (some 15) (Ev.fieldAddr (k := 0) (show Oper.op _ = Op.fieldAddr 43 (Operand.tmp 1) 0 from rfl) (by rfl) (by kernel_rfl) (by rfl)) (by rfl) (by rfl) ?_
    refine Ls.ev (some 16) (Ev.load 1 (show Oper.op _ = Op.load 41 (Operand.tmp 15) from rfl) (by rfl) (by rfl) (by kernel_rfl) (by rfl)) (by rfl) (by rfl) ?_
    refine Ls.ev (some 17) (Ev.move (show Oper.op _ = Op.move (Operand.tmp 4) from rfl) (by rfl)) (by rfl) (by rfl) ?_
    refine Ls.ev (some 18) (Ev.indexAt (sz := 3) (show Oper.op _ = Op.indexAddr 41 (Operand.tmp 16) (Operand.tmp 17) from rfl) (by rfl) (by rfl) Tryz.underlying41 (by kernel_rfl) (by omega)) (by rfl) (by rfl) ?_
    refine Ls.ev (some 19) (Ev.fieldAddrE0 (k := 0) (show Oper.op _ = Op.fieldAddr 88 (Operand.tmp 18) 0 from rfl) (by rfl) (by kernel_rfl)) (by rfl) (by rfl) ?_
    refine Ls.ev (some 20) (Ev.loadElF (show Oper.op _ = Op.load 9 (Operand.tmp 19) from rfl) (by rfl) (ReadsIn.rd 2 (by rfl)) (by kernel_rfl) (by intro _; rfl) (by assumption) (by rfl)) (by rfl) (by rfl) ?_
    refine Ls.ev (some 5) (Ev.assign (show Oper.op _ = Op.assign (Operand.tmp 20) from rfl) (by rfl)) (by rfl) (by rfl) ?_
    refine Ls.nil ?_
    refine Cd.seq ?_
    refine Cd.region ?_
    refine Ls.ev (some 6) (Ev.assign (show Oper.op _ = Op.assign (Operand.const (Value.int IntKind.i64 0)) from rfl) (by rfl)) (by rfl) (by rfl) ?_
    refine Ls.nil ?_
    refine Cd.seq ?_
    refine Cd.seq ?_
    refine Cd.region ?_
    refine Ls.ev (some 7) (Ev.assign (show Oper.op _ = Op.assign (Operand.const (Value.int IntKind.i64 4)) from rfl) (by rfl)) (by rfl) (by rfl) ?_
    refine Ls.nil ?_
    refine Cd.block ?_
    have hs : (txt f.nm).size = f.nm.length := rfl
    refine Cd.loop (ι := Nat × Int) (fun p => [(1, .pointer (some ⟨g1, 0, none⟩)), (3, .slice B o.length b), (4, .int .i64 k), (5, .string (txt f.nm)), (6, .int .i64 p.2), (7, .int .i64 p.1)]) (fun _ => [natR B b o, blk g1 43 [.slice (some ad) fs.length c, .int .i64 steps, .bool left.isSome, .int .i64 ((left.getD 0 : Nat) : Int)], rdF (some ad) fs]) (fun p => 4 ≤ p.1 ∧ p.1 ≤ 10 ∧ (f.nm.length = 10 → p.2 = intF ((f.nm.drop 4).take (p.1 - 4)) 0) ∧ (f.nm.length ≠ 10 → p.2 = 0)) (fun p => 10 - p.1) ((4, 0)) (⟨Nat.le_refl _, by decide, fun _ => rfl, fun _ => rfl⟩) ?_ rfl ?_
    · (repeat (first | exact trivial | refine ⟨by rfl, ?_⟩))
    rintro ⟨j, n⟩ ⟨hj1, hj2, hj3, hj4⟩
    dsimp only at hj1 hj2 hj3 hj4 ⊢
    refine Cd.seq ?_
    refine Cd.seq ?_
    by_cases hc : j < f.nm.length ∧ f.nm.length = 10
    · skip
      obtain ⟨hc1, hc2⟩ := hc
      have hjn := hj3 hc2
      obtain ⟨x, hx⟩ := get_of_lt hc1
      have hxi : (txt f.nm).data[j]? = some x := by
        show f.nm.toArray[j]? = _
        rw [List.getElem?_toArray]
        exact hx
      have hsm := intF_small (l := (f.nm.drop 4).take (j - 4)) (by rw [List.length_take]; omega)
      rw [← hjn] at hsm
      have hstep : intF ((f.nm.drop 4).take (j + 1 - 4)) 0 = 10 * n + (x.toNat : Int) - 48 := by
        rw [show j + 1 - 4 = (j - 4) + 1 by omega, List.take_add_one, List.getElem?_drop, show 4 + (j - 4) = j by omega, hx, hjn]
        exact intF_snoc _ _ _
      have hxl := x.toNat_lt
      refine Cd.cut (ι := Unit) (fun _ => [(1, .pointer (some ⟨g1, 0, none⟩)), (3, .slice B o.length b), (4, .int .i64 k), (5, .string (txt f.nm)), (6, .int .i64 n), (7, .int .i64 j), (29, .bool true)]) (fun _ => [natR B b o, blk g1 43 [.slice (some ad) fs.length c, .int .i64 steps, .bool left.isSome, .int .i64 ((left.getD 0 : Nat) : Int)], rdF (some ad) fs]) (fun _ => True) ?_ ?_
      · skip
        refine Cd.region ?_
        refine Ls.ev (some 21) (Ev.move (show Oper.op _ = Op.move (Operand.tmp 7) from rfl) (by rfl)) (by rfl) (by rfl) ?_
        refine Ls.ev (some 22) (Ev.move (show Oper.op _ = Op.move (Operand.tmp 5) from rfl) (by rfl)) (by rfl) (by rfl) ?_
        refine Ls.ev (some 23) (Ev.lenS (show Oper.op _ = Op.call { callee := Callee.builtin Builtin.len, args := #[Operand.tmp 22], argTypes := #[9] } from rfl) (by rfl) Tryz.underlying9) (by rfl) (by rfl) ?_
        refine Ls.ev (some 24) (Ev.lss (show Oper.op _ = Op.binOp BinOp.lss 3 (Operand.tmp 21) (Operand.tmp 23) 3 from rfl) (by rfl) (by rfl)) (by rfl) (by rfl) ?_
        refine Ls.ev (some 25) (Ev.move (show Oper.op _ = Op.move (Operand.tmp 24) from rfl) (by rfl)) (by rfl) (by rfl) ?_
        refine Ent.split 25 (by rfl) (fun hT1 => ?_) (fun hT1 => ?_)
        · first | have hT1 := of_decide_eq_false hT1 | have hT1 := of_not_decide_false hT1 | skip
          refine Ls.pass (some 26) (by rfl) (by rfl) ?_
          refine Ls.pass (some 27) (by rfl) (by rfl) ?_
          refine Ls.pass (some 28) (by rfl) (by rfl) ?_
          refine Ls.ev (some 29) (Ev.pickF (show Oper.op _ = Op.pick (Operand.tmp 25) (Operand.tmp 28) (Operand.const (Value.bool false)) from rfl) (by rfl) (by rfl)) (by rfl) (by rfl) ?_
          refine Ls.nil ?_
          refine Ent.inv () ?_ ?_ ?_
          · exact trivial
          · (repeat (first | exact trivial | refine ⟨by rfl, ?_⟩ | refine ⟨by simp only [List.length_append, List.length_cons, List.length_nil]; rfl, ?_⟩ | refine ⟨by push_cast; rfl, ?_⟩ | refine ⟨by (show some (Value.bool _) = some (Value.bool _); congr 2; all_goals ((first | rfl | (exact (decide_eq_true (by omega)).symm) | (exact (decide_eq_true (by omega))) | (rw [decide_eq_true (by omega)]; rfl) | (rw [decide_eq_false (by omega)]; rfl) | omega))), ?_⟩))
          · rfl
        · first | have hT1 := of_decide_eq_true hT1 | have hT1 := of_not_decide_true hT1 | skip
          refine Ls.ev (some 26) (Ev.move (show Oper.op _ = Op.move (Operand.tmp 5) from rfl) (by rfl)) (by rfl) (by rfl) ?_
          refine Ls.ev (some 27) (Ev.lenS (show Oper.op _ = Op.call { callee := Callee.builtin Builtin.len, args := #[Operand.tmp 26], argTypes := #[9] } from rfl) (by rfl) Tryz.underlying9) (by rfl) (by rfl) ?_
          refine Ls.ev (some 28) (Ev.eql (show Oper.op _ = Op.binOp BinOp.eql 3 (Operand.tmp 27) (Operand.const (Value.int IntKind.i64 10)) 3 from rfl) (by rfl) (by rfl)) (by rfl) (by rfl) ?_
          refine Ls.ev (some 29) (Ev.pickT (show Oper.op _ = Op.pick (Operand.tmp 25) (Operand.tmp 28) (Operand.const (Value.bool false)) from rfl) (by rfl) (by rfl)) (by rfl) (by rfl) ?_
          refine Ls.nil ?_
          refine Ent.inv () ?_ ?_ ?_
          · exact trivial
          · (repeat (first | exact trivial | refine ⟨by rfl, ?_⟩ | refine ⟨by simp only [List.length_append, List.length_cons, List.length_nil]; rfl, ?_⟩ | refine ⟨by push_cast; rfl, ?_⟩ | refine ⟨by (show some (Value.bool _) = some (Value.bool _); congr 2; all_goals ((first | rfl | (exact (decide_eq_true (by omega)).symm) | (exact (decide_eq_true (by omega))) | (rw [decide_eq_true (by omega)]; rfl) | (rw [decide_eq_false (by omega)]; rfl) | omega))), ?_⟩))
          · rfl
      skip
      rintro _ -
      refine Cd.cond_true (by rfl) (rfl) ?_
      refine Cd.skip ?_
      refine Cd.seq ?_
      refine Cd.block ?_
      refine Cd.region ?_
      refine Ls.ev (some 32) (Ev.move (show Oper.op _ = Op.move (Operand.tmp 6) from rfl) (by rfl)) (by rfl) (by rfl) ?_
      skip
      refine Ls.ev (some 33) (Ev.mulI (show Oper.op _ = Op.binOp BinOp.mul 3 (Operand.const (Value.int IntKind.i64 10)) (Operand.tmp 32) 3 from rfl) (by rfl) (by rfl) (by omega)) (by rfl) (by rfl) ?_
      refine Ls.ev (some 34) (Ev.move (show Oper.op _ = Op.move (Operand.tmp 5) from rfl) (by rfl)) (by rfl) (by rfl) ?_
      refine Ls.ev (some 35) (Ev.move (show Oper.op _ = Op.move (Operand.tmp 7) from rfl) (by rfl)) (by rfl) (by rfl) ?_
      refine Ls.ev (some 36) (Ev.indexT (show Oper.op _ = Op.index 9 (Operand.tmp 34) (Operand.tmp 35) from rfl) (by rfl) (by rfl) Tryz.underlying9 (by assumption)) (by rfl) (by rfl) ?_
      refine Ls.ev (some 37) (Ev.convI (show Oper.op _ = Op.convert 5 3 (Operand.tmp 36) from rfl) (by rfl) (by kernel_rfl) Tryz.underlying3 (by omega)) (by rfl) (by rfl) ?_
      refine Ls.ev (some 38) (Ev.addI (show Oper.op _ = Op.binOp BinOp.add 3 (Operand.tmp 33) (Operand.tmp 37) 3 from rfl) (by rfl) (by rfl) (by omega)) (by rfl) (by rfl) ?_
      refine Ls.ev (some 39) (Ev.subI (show Oper.op _ = Op.binOp BinOp.sub 3 (Operand.tmp 38) (Operand.const (Value.int IntKind.i64 48)) 3 from rfl) (by rfl) (by rfl) (by omega)) (by rfl) (by rfl) ?_
      refine Ls.ev (some 6) (Ev.assign (show Oper.op _ = Op.assign (Operand.tmp 39) from rfl) (by rfl)) (by rfl) (by rfl) ?_
      refine Ls.nil ?_
      refine Cd.region ?_
      refine Ls.ev (some 30) (Ev.move (show Oper.op _ = Op.move (Operand.tmp 7) from rfl) (by rfl)) (by rfl) (by rfl) ?_
      refine Ls.ev (some 31) (Ev.addI (show Oper.op _ = Op.binOp BinOp.add 3 (Operand.tmp 30) (Operand.const (Value.int IntKind.i64 1)) 3 from rfl) (by rfl) (by rfl) (by omega)) (by rfl) (by rfl) ?_
      refine Ls.ev (some 7) (Ev.assign (show Oper.op _ = Op.assign (Operand.tmp 31) from rfl) (by rfl)) (by rfl) (by rfl) ?_
      refine Ls.nil ?_
      rw [← hstep]
      skip
      refine Ent.inv ((j + 1, intF ((f.nm.drop 4).take (j + 1 - 4)) 0)) ?_ ?_ ?_
      · (try dsimp only); exact ⟨⟨by omega, by omega, fun _ => rfl, fun h => absurd hc2 h⟩, by omega⟩
      · (repeat (first | exact trivial | refine ⟨by rfl, ?_⟩ | refine ⟨by simp only [List.length_append, List.length_cons, List.length_nil]; rfl, ?_⟩ | refine ⟨by push_cast; rfl, ?_⟩))
      · rfl
    · skip
      refine Cd.cut (ι := Unit) (fun _ => [(1, .pointer (some ⟨g1, 0, none⟩)), (3, .slice B o.length b), (4, .int .i64 k), (5, .string (txt f.nm)), (6, .int .i64 n), (7, .int .i64 j), (29, .bool false)]) (fun _ => [natR B b o, blk g1 43 [.slice (some ad) fs.length c, .int .i64 steps, .bool left.isSome, .int .i64 ((left.getD 0 : Nat) : Int)], rdF (some ad) fs]) (fun _ => True) ?_ ?_
      · skip
        refine Cd.region ?_
        refine Ls.ev (some 21) (Ev.move (show Oper.op _ = Op.move (Operand.tmp 7) from rfl) (by rfl)) (by rfl) (by rfl) ?_
        refine Ls.ev (some 22) (Ev.move (show Oper.op _ = Op.move (Operand.tmp 5) from rfl) (by rfl)) (by rfl) (by rfl) ?_
        refine Ls.ev (some 23) (Ev.lenS (show Oper.op _ = Op.call { callee := Callee.builtin Builtin.len, args := #[Operand.tmp 22], argTypes := #[9] } from rfl) (by rfl) Tryz.underlying9) (by rfl) (by rfl) ?_
        refine Ls.ev (some 24) (Ev.lss (show Oper.op _ = Op.binOp BinOp.lss 3 (Operand.tmp 21) (Operand.tmp 23) 3 from rfl) (by rfl) (by rfl)) (by rfl) (by rfl) ?_
        refine Ls.ev (some 25) (Ev.move (show Oper.op _ = Op.move (Operand.tmp 24) from rfl) (by rfl)) (by rfl) (by rfl) ?_
        refine Ent.split 25 (by rfl) (fun hT1 => ?_) (fun hT1 => ?_)
        · first | have hT1 := of_decide_eq_false hT1 | have hT1 := of_not_decide_false hT1 | skip
          refine Ls.pass (some 26) (by rfl) (by rfl) ?_
          refine Ls.pass (some 27) (by rfl) (by rfl) ?_
          refine Ls.pass (some 28) (by rfl) (by rfl) ?_
          refine Ls.ev (some 29) (Ev.pickF (show Oper.op _ = Op.pick (Operand.tmp 25) (Operand.tmp 28) (Operand.const (Value.bool false)) from rfl) (by rfl) (by rfl)) (by rfl) (by rfl) ?_
          refine Ls.nil ?_
          refine Ent.inv () ?_ ?_ ?_
          · exact trivial
          · (repeat (first | exact trivial | refine ⟨by rfl, ?_⟩ | refine ⟨by simp only [List.length_append, List.length_cons, List.length_nil]; rfl, ?_⟩ | refine ⟨by push_cast; rfl, ?_⟩ | refine ⟨by (show some (Value.bool _) = some (Value.bool _); congr 2; all_goals ((first | rfl | (exact (decide_eq_false (by omega)).symm) | (exact (decide_eq_true (by omega)).symm) | (exact (decide_eq_false (by omega))) | (rw [decide_eq_true (by omega)]; rfl) | (rw [decide_eq_false (by omega)]; rfl) | omega))), ?_⟩))
          · rfl
        · first | have hT1 := of_decide_eq_true hT1 | have hT1 := of_not_decide_true hT1 | skip
          refine Ls.ev (some 26) (Ev.move (show Oper.op _ = Op.move (Operand.tmp 5) from rfl) (by rfl)) (by rfl) (by rfl) ?_
          refine Ls.ev (some 27) (Ev.lenS (show Oper.op _ = Op.call { callee := Callee.builtin Builtin.len, args := #[Operand.tmp 26], argTypes := #[9] } from rfl) (by rfl) Tryz.underlying9) (by rfl) (by rfl) ?_
          refine Ls.ev (some 28) (Ev.eql (show Oper.op _ = Op.binOp BinOp.eql 3 (Operand.tmp 27) (Operand.const (Value.int IntKind.i64 10)) 3 from rfl) (by rfl) (by rfl)) (by rfl) (by rfl) ?_
          refine Ls.ev (some 29) (Ev.pickT (show Oper.op _ = Op.pick (Operand.tmp 25) (Operand.tmp 28) (Operand.const (Value.bool false)) from rfl) (by rfl) (by rfl)) (by rfl) (by rfl) ?_
          refine Ls.nil ?_
          refine Ent.inv () ?_ ?_ ?_
          · exact trivial
          · (repeat (first | exact trivial | refine ⟨by rfl, ?_⟩ | refine ⟨by simp only [List.length_append, List.length_cons, List.length_nil]; rfl, ?_⟩ | refine ⟨by push_cast; rfl, ?_⟩ | refine ⟨by (show some (Value.bool _) = some (Value.bool _); congr 2; all_goals ((first | rfl | (exact (decide_eq_false (by omega)).symm) | (exact (decide_eq_true (by omega)).symm) | (exact (decide_eq_false (by omega))) | (rw [decide_eq_true (by omega)]; rfl) | (rw [decide_eq_false (by omega)]; rfl) | omega))), ?_⟩))
          · rfl
      skip
      rintro _ -
      refine Cd.cond_false (by rfl) (rfl) ?_
      have hnn : (f.nm.length = 10 → n = intF (f.nm.drop 4) 0) ∧ (f.nm.length ≠ 10 → n = 0) := ⟨fun h => by
        rw [hj3 h, List.take_of_length_le (by rw [List.length_drop]; omega)], hj4⟩
      refine Cd.exit ?_
      refine Cd.seq ?_
      by_cases hrg : 1 ≤ n ∧ n ≤ 999999
      · skip
        obtain ⟨m, rfl⟩ : ∃ m : Nat, n = m := ⟨n.toNat, by omega⟩
        refine Cd.region ?_
        refine Ls.ev (some 40) (Ev.move (show Oper.op _ = Op.move (Operand.tmp 6) from rfl) (by rfl)) (by rfl) (by rfl) ?_
        refine Ls.ev (some 41) (Ev.geq (show Oper.op _ = Op.binOp BinOp.geq 3 (Operand.tmp 40) (Operand.const (Value.int IntKind.i64 1)) 3 from rfl) (by rfl) (by rfl)) (by rfl) (by rfl) ?_
        refine Ls.ev (some 42) (Ev.move (show Oper.op _ = Op.move (Operand.tmp 41) from rfl) (by rfl)) (by rfl) (by rfl) ?_
        refine Ent.known 42 true (by rfl) (by exact (decide_eq_true (show (1 : Int) ≤ (m : Int) by omega))) ?_
        refine Ls.ev (some 43) (Ev.move (show Oper.op _ = Op.move (Operand.tmp 6) from rfl) (by rfl)) (by rfl) (by rfl) ?_
        refine Ls.ev (some 44) (Ev.leq (show Oper.op _ = Op.binOp BinOp.leq 3 (Operand.tmp 43) (Operand.const (Value.int IntKind.i64 999999)) 3 from rfl) (by rfl) (by rfl)) (by rfl) (by rfl) ?_
        refine Ls.ev (some 45) (Ev.pickT (show Oper.op _ = Op.pick (Operand.tmp 42) (Operand.tmp 44) (Operand.const (Value.bool false)) from rfl) (by rfl) (by rfl)) (by rfl) (by rfl) ?_
        refine Ls.ev (some 46) (Ev.move (show Oper.op _ = Op.move (Operand.tmp 45) from rfl) (by rfl)) (by rfl) (by rfl) ?_
        refine Ent.known 46 true (by rfl) (by exact (decide_eq_true (show (m : Int) ≤ 999999 by omega))) ?_
        refine Ls.ev (some 47) (Ev.move (show Oper.op _ = Op.move (Operand.tmp 6) from rfl) (by rfl)) (by rfl) (by rfl) ?_
        refine Ls.does (some 48) (Does.read (show Oper.op _ = Op.call { callee := Callee.value (Operand.func 13), args := #[Operand.tmp 47], argTypes := #[3] } from rfl) Tryz.func13 (by kernel_rfl) (by kernel_rfl) (rname_sl m (by omega)) (by rfl) (by rfl) trivial) (by rfl) (by rfl) ?_
        rintro _ -
        rw [nmR_name (show m ≤ 999999 by omega)]
        refine Ls.ev (some 49) (Ev.move (show Oper.op _ = Op.move (Operand.tmp 5) from rfl) (by rfl)) (by rfl) (by rfl) ?_
        refine Ls.ev (some 50) (Ev.eqlS (show Oper.op _ = Op.binOp BinOp.eql 9 (Operand.tmp 48) (Operand.tmp 49) 9 from rfl) (by rfl) (by rfl)) (by rfl) (by rfl) ?_
        refine Ls.ev (some 51) (Ev.pickT (show Oper.op _ = Op.pick (Operand.tmp 46) (Operand.tmp 50) (Operand.const (Value.bool false)) from rfl) (by rfl) (by rfl)) (by rfl) (by rfl) ?_
        refine Ls.nil ?_
        by_cases he : nameP m = f.nm
        · skip
          have hz := numP_eq (by omega) (by omega) he
          rw [hz, if_neg (by omega)] at hst
          refine Cd.cond_true (by rfl) (decide_eq_true (txt_eq_iff.2 he)) ?_
          refine Cd.region ?_
          refine Ls.ev (some 52) (Ev.move (show Oper.op _ = Op.move (Operand.tmp 3) from rfl) (by rfl)) (by rfl) (by rfl) ?_
          refine Ls.ev (some 53) (Ev.move (show Oper.op _ = Op.move (Operand.tmp 6) from rfl) (by rfl)) (by rfl) (by rfl) ?_
          refine Ls.does (some 54) (Does.lit (sz := 1) (show Oper.op _ = Op.buildSlice 35 1 #[(0, Operand.tmp 53)] from rfl) (by rfl) Tryz.underlying35 (by kernel_rfl) (by rfl) (by kernel_rfl)) (by rfl) (by rfl) ?_
          intro g2 _
          refine Ls.does (some 55) (Does.app (xs := nats o) (news := nats [m]) 1 (show Oper.op _ = Op.call { callee := Callee.builtin Builtin.append, args := #[Operand.tmp 52, Operand.tmp 54], argTypes := #[35, 35] } from rfl) (by rfl) (by rfl) (by rfl) (ReadsIn.row 0 (by rfl)) elem_int (one_nats _) (show (o.length + 1) * 8 ≤ 140737488355328 by omega)) (by rfl) (by rfl) ?_
          rintro r -
          refine Ls.ev (some 3) (Ev.assign (show Oper.op _ = Op.assign (Operand.tmp 55) from rfl) (by rfl)) (by rfl) (by rfl) ?_
          refine Ls.nil ?_
          refine Cd.region ?_
          refine Ls.ev (some 13) (Ev.move (show Oper.op _ = Op.move (Operand.tmp 4) from rfl) (by rfl)) (by rfl) (by rfl) ?_
          refine Ls.ev (some 14) (Ev.addN (b := 1) (show Oper.op _ = Op.binOp BinOp.add 3 (Operand.tmp 13) (Operand.const (Value.int IntKind.i64 1)) 3 from rfl) (by rfl) (by rfl) (by omega)) (by rfl) (by rfl) ?_
          refine Ls.ev (some 4) (Ev.assign (show Oper.op _ = Op.assign (Operand.tmp 14) from rfl) (by rfl)) (by rfl) (by rfl) ?_
          refine Ls.nil ?_
          refine Ent.pick [1, 2, 3] (by rfl) ?_
          refine Ent.inv ((k + 1, (r.1, r.2), o ++ [m])) ?_ ?_ ?_
          · (try dsimp only); exact ⟨⟨hlt, hst.symm⟩, by omega⟩
          · (repeat (first | exact trivial | refine ⟨by rfl, ?_⟩ | refine ⟨by simp only [List.length_append, List.length_cons, List.length_nil]; rfl, ?_⟩ | refine ⟨by push_cast; rfl, ?_⟩ | refine ⟨by (show some (Value.slice _ _ _) = some (Value.slice _ _ _); rw [List.length_append]; rfl), ?_⟩))
          · (show [_, _, _] = [_, _, _]; dsimp only [natR]; rw [List.length_append, nats_append]; rfl)
        · skip
          have hz : numP f.nm = 0 := Classical.byContradiction fun hz => he (by
            obtain ⟨h1, h2, h3⟩ := numP_pos hz
            have h4 := numP_int hz
            have h5 : f.nm.length = 10 := by rw [← h3]; exact nameP_len _
            have h6 := hnn.1 h5
            rw [h4] at h6
            rw [show m = numP f.nm by omega]
            exact h3)
          rw [if_pos hz] at hst
          refine Cd.cond_false (by rfl) (decide_eq_false (fun e => he (txt_eq_iff.1 e))) ?_
          refine Cd.skip ?_
          refine Cd.region ?_
          refine Ls.ev (some 13) (Ev.move (show Oper.op _ = Op.move (Operand.tmp 4) from rfl) (by rfl)) (by rfl) (by rfl) ?_
          refine Ls.ev (some 14) (Ev.addN (b := 1) (show Oper.op _ = Op.binOp BinOp.add 3 (Operand.tmp 13) (Operand.const (Value.int IntKind.i64 1)) 3 from rfl) (by rfl) (by rfl) (by omega)) (by rfl) (by rfl) ?_
          refine Ls.ev (some 4) (Ev.assign (show Oper.op _ = Op.assign (Operand.tmp 14) from rfl) (by rfl)) (by rfl) (by rfl) ?_
          refine Ls.nil ?_
          refine Ent.inv ((k + 1, (B, b), o)) ?_ ?_ ?_
          · (try dsimp only); exact ⟨⟨hlt, hst.symm⟩, by omega⟩
          · (repeat (first | exact trivial | refine ⟨by rfl, ?_⟩ | refine ⟨by simp only [List.length_append, List.length_cons, List.length_nil]; rfl, ?_⟩ | refine ⟨by push_cast; rfl, ?_⟩))
          · rfl
      · skip
        have hz : numP f.nm = 0 := Classical.byContradiction fun hz => hrg (by
          obtain ⟨h1, h2, h3⟩ := numP_pos hz
          have h4 := numP_int hz
          have h5 : f.nm.length = 10 := by rw [← h3]; exact nameP_len _
          have h6 := hnn.1 h5
          omega)
        rw [if_pos hz] at hst
        refine Cd.cut (ι := Unit) (fun _ => [(1, .pointer (some ⟨g1, 0, none⟩)), (3, .slice B o.length b), (4, .int .i64 k), (51, .bool false)]) (fun _ => [natR B b o, blk g1 43 [.slice (some ad) fs.length c, .int .i64 steps, .bool left.isSome, .int .i64 ((left.getD 0 : Nat) : Int)], rdF (some ad) fs]) (fun _ => True) ?_ ?_
        · skip
          refine Cd.region ?_
          refine Ls.ev (some 40) (Ev.move (show Oper.op _ = Op.move (Operand.tmp 6) from rfl) (by rfl)) (by rfl) (by rfl) ?_
          refine Ls.ev (some 41) (Ev.geq (show Oper.op _ = Op.binOp BinOp.geq 3 (Operand.tmp 40) (Operand.const (Value.int IntKind.i64 1)) 3 from rfl) (by rfl) (by rfl)) (by rfl) (by rfl) ?_
          refine Ls.ev (some 42) (Ev.move (show Oper.op _ = Op.move (Operand.tmp 41) from rfl) (by rfl)) (by rfl) (by rfl) ?_
          by_cases h1 : 1 ≤ n
          · skip
            refine Ent.known 42 true (by rfl) (by exact (decide_eq_true h1)) ?_
            refine Ls.ev (some 43) (Ev.move (show Oper.op _ = Op.move (Operand.tmp 6) from rfl) (by rfl)) (by rfl) (by rfl) ?_
            refine Ls.ev (some 44) (Ev.leq (show Oper.op _ = Op.binOp BinOp.leq 3 (Operand.tmp 43) (Operand.const (Value.int IntKind.i64 999999)) 3 from rfl) (by rfl) (by rfl)) (by rfl) (by rfl) ?_
            refine Ls.ev (some 45) (Ev.pickT (show Oper.op _ = Op.pick (Operand.tmp 42) (Operand.tmp 44) (Operand.const (Value.bool false)) from rfl) (by rfl) (by rfl)) (by rfl) (by rfl) ?_
            refine Ls.ev (some 46) (Ev.move (show Oper.op _ = Op.move (Operand.tmp 45) from rfl) (by rfl)) (by rfl) (by rfl) ?_
            refine Ent.known 46 false (by rfl) (by exact (decide_eq_false (show ¬ (n ≤ 999999) by omega))) ?_
            refine Ls.pass (some 47) (by rfl) (by rfl) ?_
            refine Ls.pass (some 48) (by rfl) (by rfl) ?_
            refine Ls.pass (some 49) (by rfl) (by rfl) ?_
            refine Ls.pass (some 50) (by rfl) (by rfl) ?_
            refine Ls.ev (some 51) (Ev.pickF (show Oper.op _ = Op.pick (Operand.tmp 46) (Operand.tmp 50) (Operand.const (Value.bool false)) from rfl) (by rfl) (by rfl)) (by rfl) (by rfl) ?_
            refine Ls.nil ?_
            refine Ent.inv (()) ?_ ?_ ?_
            · (try dsimp only); skip
            · (repeat (first | exact trivial | refine ⟨by rfl, ?_⟩ | refine ⟨by simp only [List.length_append, List.length_cons, List.length_nil]; rfl, ?_⟩ | refine ⟨by push_cast; rfl, ?_⟩))
            · rfl
          · skip
            refine Ent.known 42 false (by rfl) (by exact (decide_eq_false h1)) ?_
            refine Ls.pass (some 43) (by rfl) (by rfl) ?_
            refine Ls.pass (some 44) (by rfl) (by rfl) ?_
            refine Ls.ev (some 45) (Ev.pickF (show Oper.op _ = Op.pick (Operand.tmp 42) (Operand.tmp 44) (Operand.const (Value.bool false)) from rfl) (by rfl) (by rfl)) (by rfl) (by rfl) ?_
            refine Ls.ev (some 46) (Ev.move (show Oper.op _ = Op.move (Operand.tmp 45) from rfl) (by rfl)) (by rfl) (by rfl) ?_
            refine Ls.pass (some 47) (by rfl) (by rfl) ?_
            refine Ls.pass (some 48) (by rfl) (by rfl) ?_
            refine Ls.pass (some 49) (by rfl) (by rfl) ?_
            refine Ls.pass (some 50) (by rfl) (by rfl) ?_
            refine Ls.ev (some 51) (Ev.pickF (show Oper.op _ = Op.pick (Operand.tmp 46) (Operand.tmp 50) (Operand.const (Value.bool false)) from rfl) (by rfl) (by rfl)) (by rfl) (by rfl) ?_
            refine Ls.nil ?_
            refine Ent.inv (()) ?_ ?_ ?_
            · (try dsimp only); skip
            · (repeat (first | exact trivial | refine ⟨by rfl, ?_⟩ | refine ⟨by simp only [List.length_append, List.length_cons, List.length_nil]; rfl, ?_⟩ | refine ⟨by push_cast; rfl, ?_⟩))
            · rfl
        skip
        rintro _ -
        refine Cd.cond_false (by rfl) (rfl) ?_
        refine Cd.skip ?_
        refine Cd.region ?_
        refine Ls.ev (some 13) (Ev.move (show Oper.op _ = Op.move (Operand.tmp 4) from rfl) (by rfl)) (by rfl) (by rfl) ?_
        refine Ls.ev (some 14) (Ev.addN (b := 1) (show Oper.op _ = Op.binOp BinOp.add 3 (Operand.tmp 13) (Operand.const (Value.int IntKind.i64 1)) 3 from rfl) (by rfl) (by rfl) (by omega)) (by rfl) (by rfl) ?_
        refine Ls.ev (some 4) (Ev.assign (show Oper.op _ = Op.assign (Operand.tmp 14) from rfl) (by rfl)) (by rfl) (by rfl) ?_
        refine Ls.nil ?_
        refine Ent.inv ((k + 1, (B, b), o)) ?_ ?_ ?_
        · (try dsimp only); exact ⟨⟨hlt, hst.symm⟩, by omega⟩
        · (repeat (first | exact trivial | refine ⟨by rfl, ?_⟩ | refine ⟨by simp only [List.length_append, List.length_cons, List.length_nil]; rfl, ?_⟩ | refine ⟨by push_cast; rfl, ?_⟩))
        · rfl
  · skip
    have hge : fs.length ≤ k := by have := of_decide_eq_false h2; omega
    rw [List.take_of_length_le (by rw [List.length_map]; exact hge)] at ho
    subst ho
    refine Cd.exit ?_
    refine Cd.seq ?_
    refine Cd.region ?_
    refine Ls.ev (some 56) (Ev.move (show Oper.op _ = Op.move (Operand.tmp 3) from rfl) (by rfl)) (by rfl) (by rfl) ?_
    refine Ls.ev (some 2) (Ev.assign (show Oper.op _ = Op.assign (Operand.tmp 56) from rfl) (by rfl)) (by rfl) (by rfl) ?_
    refine Ls.nil ?_
    refine Cd.ret ?_
    refine Ent.ret ((B, b)) (trivial) (Res.tmp (by rfl) (by rfl)) ?_ [0] (by rfl) ?_
    · rfl
    · rfl
end Go.Proofs.YtceanciekadkeaaGreatDoor
/- walks: a log's Sync, Roll, Append -/
namespace Go.Proofs.YtceanciekadkeaaGreatDoor
open Go.RowKit
abbrev ptrV (g : Nat) : Value := .pointer (some ⟨g, 0, none⟩)
abbrev lgB (g d : Nat) (L : LgP) : Chunk := blk g 70 [ptrV d, .int .i64 L.seg, .bool L.dead]
abbrev rlgB (g d : Nat) (L : LgP) : Chunk := rblk g 70 [ptrV d, .int .i64 L.seg, .bool L.dead]
theorem done_sl (g d : Nat) (L : LgP) (e : Int) : Fn Tryz.prog 33 #[ptrV g, .int .i64 e] [lgB g d L] Unit (fun _ => .int .i64 e) (fun _ => [lgB g d { L with dead := L.dead || decide (e = 6) }]) (fun _ => True) := by
  obtain ⟨s, b⟩ := L
  cases b
  · refine Fn.enter Tryz.func33 rfl Tryz.ntmps33 (by rfl) ?_
    intro w0
    refine Cd.seq ?_
    refine Cd.region ?_
    refine Ls.ev (some 4) (Ev.assign (show Oper.op _ = Op.assign (Operand.const (Value.int IntKind.i64 0)) from rfl) (by rfl)) (by rfl) (by rfl) ?_
    refine Ls.nil ?_
    refine Cd.seq ?_
    refine Cd.region ?_
    refine Ls.ev (some 5) (Ev.move (show Oper.op _ = Op.move (Operand.tmp 0) from rfl) (by rfl)) (by rfl) (by rfl) ?_
    refine Ls.ev (some 6) (Ev.move (show Oper.op _ = Op.move (Operand.tmp 0) from rfl) (by rfl)) (by rfl) (by rfl) ?_
    refine Ls.ev (some 7) (Ev.nilCheck (show Oper.op _ = Op.nilCheck (Operand.tmp 6) from rfl) (by rfl)) (by rfl) (by rfl) ?_
    refine Ls.ev (some 8) (Ev.fieldAddr (k := 2) (show Oper.op _ = Op.fieldAddr 70 (Operand.tmp 7) 2 from rfl) (by rfl) (by kernel_rfl) (by rfl)) (by rfl) (by rfl) ?_
    refine Ls.ev (some 9) (Ev.load 0 (show Oper.op _ = Op.load 4 (Operand.tmp 8) from rfl) (by rfl) (by rfl) (by kernel_rfl) (by rfl)) (by rfl) (by rfl) ?_
    refine Ls.ev (some 10) (Ev.move (show Oper.op _ = Op.move (Operand.tmp 9) from rfl) (by rfl)) (by rfl) (by rfl) ?_
    refine Ent.known 10 false (by rfl) (by exact (rfl)) ?_
    refine Ls.ev (some 11) (Ev.move (show Oper.op _ = Op.move (Operand.tmp 1) from rfl) (by rfl)) (by rfl) (by rfl) ?_
    refine Ls.ev (some 12) (Ev.eql (show Oper.op _ = Op.binOp BinOp.eql 27 (Operand.tmp 11) (Operand.const (Value.int IntKind.i64 6)) 27 from rfl) (by rfl) (by rfl)) (by rfl) (by rfl) ?_
    refine Ls.ev (some 13) (Ev.pickF (show Oper.op _ = Op.pick (Operand.tmp 10) (Operand.const (Value.bool true)) (Operand.tmp 12) from rfl) (by rfl) (by rfl)) (by rfl) (by rfl) ?_
    refine Ls.ev (some 14) (Ev.nilCheck (show Oper.op _ = Op.nilCheck (Operand.tmp 5) from rfl) (by rfl)) (by rfl) (by rfl) ?_
    refine Ls.ev (some 15) (Ev.fieldAddr (k := 2) (show Oper.op _ = Op.fieldAddr 70 (Operand.tmp 14) 2 from rfl) (by rfl) (by kernel_rfl) (by rfl)) (by rfl) (by rfl) ?_
    refine Ls.does none (Does.store 0 (show Oper.op _ = Op.store 4 (Operand.tmp 15) (Operand.tmp 13) from rfl) (by rfl) (by rfl) (by rfl) (by kernel_rfl) (by rfl) (by kernel_rfl) (by rfl)) (by rfl) (by rfl) ?_
    intro _ _
    refine Ls.nil ?_
    refine Cd.seq ?_
    refine Cd.region ?_
    refine Ls.ev (some 16) (Ev.move (show Oper.op _ = Op.move (Operand.tmp 1) from rfl) (by rfl)) (by rfl) (by rfl) ?_
    refine Ls.ev (some 4) (Ev.assign (show Oper.op _ = Op.assign (Operand.tmp 16) from rfl) (by rfl)) (by rfl) (by rfl) ?_
    refine Ls.nil ?_
    skip
    refine Cd.ret ?_
    refine Ent.ret (()) (trivial) (Res.tmp (by rfl) (by rfl)) ?_ [0] (by rfl) ?_
    · rfl
    · rfl
  · refine Fn.enter Tryz.func33 rfl Tryz.ntmps33 (by rfl) ?_
    intro w0
    refine Cd.seq ?_
    refine Cd.region ?_
    refine Ls.ev (some 4) (Ev.assign (show Oper.op _ = Op.assign (Operand.const (Value.int IntKind.i64 0)) from rfl) (by rfl)) (by rfl) (by rfl) ?_
    refine Ls.nil ?_
    refine Cd.seq ?_
    refine Cd.region ?_
    refine Ls.ev (some 5) (Ev.move (show Oper.op _ = Op.move (Operand.tmp 0) from rfl) (by rfl)) (by rfl) (by rfl) ?_
    refine Ls.ev (some 6) (Ev.move (show Oper.op _ = Op.move (Operand.tmp 0) from rfl) (by rfl)) (by rfl) (by rfl) ?_
    refine Ls.ev (some 7) (Ev.nilCheck (show Oper.op _ = Op.nilCheck (Operand.tmp 6) from rfl) (by rfl)) (by rfl) (by rfl) ?_
    refine Ls.ev (some 8) (Ev.fieldAddr (k := 2) (show Oper.op _ = Op.fieldAddr 70 (Operand.tmp 7) 2 from rfl) (by rfl) (by kernel_rfl) (by rfl)) (by rfl) (by rfl) ?_
    refine Ls.ev (some 9) (Ev.load 0 (show Oper.op _ = Op.load 4 (Operand.tmp 8) from rfl) (by rfl) (by rfl) (by kernel_rfl) (by rfl)) (by rfl) (by rfl) ?_
    refine Ls.ev (some 10) (Ev.move (show Oper.op _ = Op.move (Operand.tmp 9) from rfl) (by rfl)) (by rfl) (by rfl) ?_
    refine Ent.known 10 true (by rfl) (by exact (rfl)) ?_
    refine Ls.pass (some 11) (by rfl) (by rfl) ?_
    refine Ls.pass (some 12) (by rfl) (by rfl) ?_
    refine Ls.ev (some 13) (Ev.pickT (show Oper.op _ = Op.pick (Operand.tmp 10) (Operand.const (Value.bool true)) (Operand.tmp 12) from rfl) (by rfl) (by rfl)) (by rfl) (by rfl) ?_
    refine Ls.ev (some 14) (Ev.nilCheck (show Oper.op _ = Op.nilCheck (Operand.tmp 5) from rfl) (by rfl)) (by rfl) (by rfl) ?_
    refine Ls.ev (some 15) (Ev.fieldAddr (k := 2) (show Oper.op _ = Op.fieldAddr 70 (Operand.tmp 14) 2 from rfl) (by rfl) (by kernel_rfl) (by rfl)) (by rfl) (by rfl) ?_
    refine Ls.does none (Does.store 0 (show Oper.op _ = Op.store 4 (Operand.tmp 15) (Operand.tmp 13) from rfl) (by rfl) (by rfl) (by rfl) (by kernel_rfl) (by rfl) (by kernel_rfl) (by rfl)) (by rfl) (by rfl) ?_
    intro _ _
    refine Ls.nil ?_
    refine Cd.seq ?_
    refine Cd.region ?_
    refine Ls.ev (some 16) (Ev.move (show Oper.op _ = Op.move (Operand.tmp 1) from rfl) (by rfl)) (by rfl) (by rfl) ?_
    refine Ls.ev (some 4) (Ev.assign (show Oper.op _ = Op.assign (Operand.tmp 16) from rfl) (by rfl)) (by rfl) (by rfl) ?_
    refine Ls.nil ?_
    skip
    refine Cd.ret ?_
    refine Ent.ret (()) (trivial) (Res.tmp (by rfl) (by rfl)) ?_ [0] (by rfl) ?_
    · rfl
    · rfl
theorem lsync_sl {D : DrS} {P : DrP} (h : Drv D P) (g : Nat) (L : LgP) (hL : L.seg ≤ 1000000) : Fn Tryz.prog 54 #[ptrV g] [lgB g D.d L, D.B, D.M, D.F, laidC] DrS (fun _ => .int .i64 (syncL P L).2.2) (fun D' => [lgB g D.d (syncL P L).2.1, D'.B, D'.M, D'.F]) (fun D' => Drv D' (syncL P L).1 ∧ D'.d = D.d ∧ D'.m = D.m) := by
  obtain ⟨s, b⟩ := L
  dsimp only at hL
  unfold syncL
  cases b
  · dsimp only
    rw [if_neg (by decide)]
    by_cases hs : 999999 < s
    · rw [if_pos (.inl hs)]
      refine Fn.enter Tryz.func54 rfl Tryz.ntmps54 (by rfl) ?_
      intro w0
      refine Cd.seq ?_
      refine Cd.region ?_
      refine Ls.ev (some 2) (Ev.assign (show Oper.op _ = Op.assign (Operand.const (Value.int IntKind.i64 0)) from rfl) (by rfl)) (by rfl) (by rfl) ?_
      refine Ls.nil ?_
      refine Cd.seq ?_
      refine Cd.seq ?_
      refine Cd.region ?_
      refine Ls.ev (some 3) (Ev.move (show Oper.op _ = Op.move (Operand.tmp 0) from rfl) (by rfl)) (by rfl) (by rfl) ?_
      refine Ls.ev (some 4) (Ev.nilCheck (show Oper.op _ = Op.nilCheck (Operand.tmp 3) from rfl) (by rfl)) (by rfl) (by rfl) ?_
      refine Ls.ev (some 5) (Ev.fieldAddr (k := 2) (show Oper.op _ = Op.fieldAddr 70 (Operand.tmp 4) 2 from rfl) (by rfl) (by kernel_rfl) (by rfl)) (by rfl) (by rfl) ?_
      refine Ls.ev (some 6) (Ev.load 0 (show Oper.op _ = Op.load 4 (Operand.tmp 5) from rfl) (by rfl) (by rfl) (by kernel_rfl) (by rfl)) (by rfl) (by rfl) ?_
      refine Ls.nil ?_
      refine Cd.cond_false (by rfl) (rfl) ?_
      refine Cd.skip ?_
      refine Cd.seq ?_
      refine Cd.seq ?_
      refine Cd.draw [] (by kernel_rfl) ?_
      refine Rg.ev 0 (by rfl) (fun _ h => h) (Ev.move (show Oper.op _ = Op.move (Operand.tmp 0) from rfl) (by rfl)) (by rfl) (some 7) (by rfl) (by kernel_rfl) (by kernel_rfl) (by kernel_rfl) (by kernel_rfl) ?_
      refine Rg.ev 1 (by rfl) (fun _ h => h) (Ev.nilCheck (show Oper.op _ = Op.nilCheck (Operand.tmp 7) from rfl) (by rfl)) (by rfl) (some 8) (by rfl) (by kernel_rfl) (by kernel_rfl) (by kernel_rfl) (by kernel_rfl) ?_
      refine Rg.ev 2 (by rfl) (fun _ h => h) (Ev.fieldAddr (k := 1) (show Oper.op _ = Op.fieldAddr 70 (Operand.tmp 8) 1 from rfl) (by rfl) (by kernel_rfl) (by rfl)) (by rfl) (some 9) (by rfl) (by kernel_rfl) (by kernel_rfl) (by kernel_rfl) (by kernel_rfl) ?_
      refine Rg.ev 3 (by rfl) (fun _ h => h) (Ev.load 0 (show Oper.op _ = Op.load 3 (Operand.tmp 9) from rfl) (by rfl) (by rfl) (by kernel_rfl) (by rfl)) (by rfl) (some 10) (by rfl) (by kernel_rfl) (by kernel_rfl) (by kernel_rfl) (by kernel_rfl) ?_
      refine Rg.ev 4 (by rfl) (fun _ h => h) (Ev.gtr (show Oper.op _ = Op.binOp BinOp.gtr 3 (Operand.tmp 10) (Operand.const (Value.int IntKind.i64 999999)) 3 from rfl) (by rfl) (by rfl)) (by rfl) (some 11) (by rfl) (by kernel_rfl) (by kernel_rfl) (by kernel_rfl) (by kernel_rfl) ?_
      refine Rg.ev 5 (by rfl) (fun _ h => h) (Ev.move (show Oper.op _ = Op.move (Operand.tmp 11) from rfl) (by rfl)) (by rfl) (some 12) (by rfl) (by kernel_rfl) (by kernel_rfl) (by kernel_rfl) (by kernel_rfl) ?_
      refine Ent.known 12 true (by rfl) (by exact (decide_eq_true (show (999999 : Int) < (s : Int) by omega))) ?_
      refine Rg.pass 6 (by rfl) (fun _ h => h) (by rfl) (some 13) (by rfl) (by kernel_rfl) (by kernel_rfl) (by kernel_rfl) (by kernel_rfl) ?_
      refine Rg.pass 7 (by rfl) (fun _ h => h) (by rfl) (some 14) (by rfl) (by kernel_rfl) (by kernel_rfl) (by kernel_rfl) (by kernel_rfl) ?_
      refine Rg.pass 8 (by rfl) (fun _ h => h) (by rfl) (some 15) (by rfl) (by kernel_rfl) (by kernel_rfl) (by kernel_rfl) (by kernel_rfl) ?_
      refine Rg.pass 9 (by rfl) (fun _ h => h) (by rfl) (some 16) (by rfl) (by kernel_rfl) (by kernel_rfl) (by kernel_rfl) (by kernel_rfl) ?_
      refine Rg.pass 10 (by rfl) (fun _ h => h) (by rfl) (some 17) (by rfl) (by kernel_rfl) (by kernel_rfl) (by kernel_rfl) (by kernel_rfl) ?_
      refine Rg.pass 11 (by rfl) (fun _ h => h) (by rfl) (some 18) (by rfl) (by kernel_rfl) (by kernel_rfl) (by kernel_rfl) (by kernel_rfl) ?_
      refine Rg.pass 12 (by rfl) (fun _ h => h) (by rfl) (some 19) (by rfl) (by kernel_rfl) (by kernel_rfl) (by kernel_rfl) (by kernel_rfl) ?_
      refine Rg.pass 13 (by rfl) (fun _ h => h) (by rfl) (some 20) (by rfl) (by kernel_rfl) (by kernel_rfl) (by kernel_rfl) (by kernel_rfl) ?_
      refine Rg.pass 14 (by rfl) (fun _ h => h) (by rfl) (some 21) (by rfl) (by kernel_rfl) (by kernel_rfl) (by kernel_rfl) (by kernel_rfl) ?_
      refine Rg.pass 15 (by rfl) (fun _ h => h) (by rfl) (some 22) (by rfl) (by kernel_rfl) (by kernel_rfl) (by kernel_rfl) (by kernel_rfl) ?_
      refine Rg.pass 16 (by rfl) (fun _ h => h) (by rfl) (some 23) (by rfl) (by kernel_rfl) (by kernel_rfl) (by kernel_rfl) (by kernel_rfl) ?_
      refine Rg.ev 17 (by rfl) (fun _ h => h) (Ev.pickT (show Oper.op _ = Op.pick (Operand.tmp 12) (Operand.const (Value.bool true)) (Operand.tmp 23) from rfl) (by rfl) (by rfl)) (by rfl) (some 24) (by rfl) (by kernel_rfl) (by kernel_rfl) (by kernel_rfl) (by kernel_rfl) ?_
      refine Rg.done (by kernel_rfl) ?_ _
      refine Cd.cond_true (by rfl) (rfl) ?_
      refine Cd.seq ?_
      refine Cd.region ?_
      refine Ls.ev (some 2) (Ev.assign (show Oper.op _ = Op.assign (Operand.const (Value.int IntKind.i64 0)) from rfl) (by rfl)) (by rfl) (by rfl) ?_
      refine Ls.nil ?_
      refine Cd.ret ?_
      refine Ent.ret (D) (⟨h, rfl, rfl⟩) (Res.tmp (by rfl) (by rfl)) ?_ [0, 1, 2, 3] (by rfl) ?_
      · rfl
      · rfl
    · by_cases hl : P.loose (nameP s) = 0
      · rw [if_pos (.inr hl)]
        refine Fn.enter Tryz.func54 rfl Tryz.ntmps54 (by rfl) ?_
        intro w0
        refine Cd.seq ?_
        refine Cd.region ?_
        refine Ls.ev (some 2) (Ev.assign (show Oper.op _ = Op.assign (Operand.const (Value.int IntKind.i64 0)) from rfl) (by rfl)) (by rfl) (by rfl) ?_
        refine Ls.nil ?_
        refine Cd.seq ?_
        refine Cd.seq ?_
        refine Cd.region ?_
        refine Ls.ev (some 3) (Ev.move (show Oper.op _ = Op.move (Operand.tmp 0) from rfl) (by rfl)) (by rfl) (by rfl) ?_
        refine Ls.ev (some 4) (Ev.nilCheck (show Oper.op _ = Op.nilCheck (Operand.tmp 3) from rfl) (by rfl)) (by rfl) (by rfl) ?_
        refine Ls.ev (some 5) (Ev.fieldAddr (k := 2) (show Oper.op _ = Op.fieldAddr 70 (Operand.tmp 4) 2 from rfl) (by rfl) (by kernel_rfl) (by rfl)) (by rfl) (by rfl) ?_
        refine Ls.ev (some 6) (Ev.load 0 (show Oper.op _ = Op.load 4 (Operand.tmp 5) from rfl) (by rfl) (by rfl) (by kernel_rfl) (by rfl)) (by rfl) (by rfl) ?_
        refine Ls.nil ?_
        refine Cd.cond_false (by rfl) (rfl) ?_
        refine Cd.skip ?_
        refine Cd.seq ?_
        refine Cd.seq ?_
        refine Cd.draw [] (by kernel_rfl) ?_
        refine Rg.ev 0 (by rfl) (fun _ h => h) (Ev.move (show Oper.op _ = Op.move (Operand.tmp 0) from rfl) (by rfl)) (by rfl) (some 7) (by rfl) (by kernel_rfl) (by kernel_rfl) (by kernel_rfl) (by kernel_rfl) ?_
        refine Rg.ev 1 (by rfl) (fun _ h => h) (Ev.nilCheck (show Oper.op _ = Op.nilCheck (Operand.tmp 7) from rfl) (by rfl)) (by rfl) (some 8) (by rfl) (by kernel_rfl) (by kernel_rfl) (by kernel_rfl) (by kernel_rfl) ?_
        refine Rg.ev 2 (by rfl) (fun _ h => h) (Ev.fieldAddr (k := 1) (show Oper.op _ = Op.fieldAddr 70 (Operand.tmp 8) 1 from rfl) (by rfl) (by kernel_rfl) (by rfl)) (by rfl) (some 9) (by rfl) (by kernel_rfl) (by kernel_rfl) (by kernel_rfl) (by kernel_rfl) ?_
        refine Rg.ev 3 (by rfl) (fun _ h => h) (Ev.load 0 (show Oper.op _ = Op.load 3 (Operand.tmp 9) from rfl) (by rfl) (by rfl) (by kernel_rfl) (by rfl)) (by rfl) (some 10) (by rfl) (by kernel_rfl) (by kernel_rfl) (by kernel_rfl) (by kernel_rfl) ?_
        refine Rg.ev 4 (by rfl) (fun _ h => h) (Ev.gtr (show Oper.op _ = Op.binOp BinOp.gtr 3 (Operand.tmp 10) (Operand.const (Value.int IntKind.i64 999999)) 3 from rfl) (by rfl) (by rfl)) (by rfl) (some 11) (by rfl) (by kernel_rfl) (by kernel_rfl) (by kernel_rfl) (by kernel_rfl) ?_
        refine Rg.ev 5 (by rfl) (fun _ h => h) (Ev.move (show Oper.op _ = Op.move (Operand.tmp 11) from rfl) (by rfl)) (by rfl) (some 12) (by rfl) (by kernel_rfl) (by kernel_rfl) (by kernel_rfl) (by kernel_rfl) ?_
        refine Ent.known 12 false (by rfl) (by exact (decide_eq_false (show ¬ ((999999 : Int) < (s : Int)) by omega))) ?_
        refine Rg.ev 6 (by rfl) (fun _ h => h) (Ev.move (show Oper.op _ = Op.move (Operand.tmp 0) from rfl) (by rfl)) (by rfl) (some 13) (by rfl) (by kernel_rfl) (by kernel_rfl) (by kernel_rfl) (by kernel_rfl) ?_
        refine Rg.ev 7 (by rfl) (fun _ h => h) (Ev.nilCheck (show Oper.op _ = Op.nilCheck (Operand.tmp 13) from rfl) (by rfl)) (by rfl) (some 14) (by rfl) (by kernel_rfl) (by kernel_rfl) (by kernel_rfl) (by kernel_rfl) ?_
        refine Rg.ev 8 (by rfl) (fun _ h => h) (Ev.fieldAddr (k := 0) (show Oper.op _ = Op.fieldAddr 70 (Operand.tmp 14) 0 from rfl) (by rfl) (by kernel_rfl) (by rfl)) (by rfl) (some 15) (by rfl) (by kernel_rfl) (by kernel_rfl) (by kernel_rfl) (by kernel_rfl) ?_
        refine Rg.ev 9 (by rfl) (fun _ h => h) (Ev.load 0 (show Oper.op _ = Op.load 23 (Operand.tmp 15) from rfl) (by rfl) (by rfl) (by kernel_rfl) (by rfl)) (by rfl) (some 16) (by rfl) (by kernel_rfl) (by kernel_rfl) (by kernel_rfl) (by kernel_rfl) ?_
        refine Rg.ev 10 (by rfl) (fun _ h => h) (Ev.move (show Oper.op _ = Op.move (Operand.tmp 0) from rfl) (by rfl)) (by rfl) (some 17) (by rfl) (by kernel_rfl) (by kernel_rfl) (by kernel_rfl) (by kernel_rfl) ?_
        refine Rg.ev 11 (by rfl) (fun _ h => h) (Ev.nilCheck (show Oper.op _ = Op.nilCheck (Operand.tmp 17) from rfl) (by rfl)) (by rfl) (some 18) (by rfl) (by kernel_rfl) (by kernel_rfl) (by kernel_rfl) (by kernel_rfl) ?_
        refine Rg.ev 12 (by rfl) (fun _ h => h) (Ev.fieldAddr (k := 1) (show Oper.op _ = Op.fieldAddr 70 (Operand.tmp 18) 1 from rfl) (by rfl) (by kernel_rfl) (by rfl)) (by rfl) (some 19) (by rfl) (by kernel_rfl) (by kernel_rfl) (by kernel_rfl) (by kernel_rfl) ?_
        refine Rg.ev 13 (by rfl) (fun _ h => h) (Ev.load 0 (show Oper.op _ = Op.load 3 (Operand.tmp 19) from rfl) (by rfl) (by rfl) (by kernel_rfl) (by rfl)) (by rfl) (some 20) (by rfl) (by kernel_rfl) (by kernel_rfl) (by kernel_rfl) (by kernel_rfl) ?_
        skip
        refine Rg.does 14 (by rfl) (by kernel_rfl) (Does.read (show Oper.op _ = Op.call { callee := Callee.value (Operand.func 28), args := #[Operand.tmp 20], argTypes := #[3] } from rfl) Tryz.func28 (by kernel_rfl) (by kernel_rfl) (name_sl s (by omega)) (by rfl) (by rfl) ⟨laidIn 4 (by rfl), trivial⟩) (by rfl) (some 21) (by rfl) (by exact fun _ _ h => h) ?_
        rintro _ -
        skip
        refine Rg.does 15 (by rfl) (by kernel_rfl) (Does.read (show Oper.op _ = Op.call { callee := Callee.value (Operand.func 25), args := #[Operand.tmp 16, Operand.tmp 21], argTypes := #[23, 9] } from rfl) Tryz.func25 (by kernel_rfl) (by kernel_rfl) (loose_sl h (nameP s) (nameP_good s).len) (by rfl) (by rfl) ⟨blkIn 1 (by rfl), mapIn 2 (by rfl), filIn 3 (by rfl), trivial⟩) (by rfl) (some 22) (by rfl) (by exact fun _ _ h => h) ?_
        rintro _ -
        refine Rg.ev 16 (by rfl) (fun _ h => h) (Ev.eql (show Oper.op _ = Op.binOp BinOp.eql 3 (Operand.tmp 22) (Operand.const (Value.int IntKind.i64 0)) 3 from rfl) (by rfl) (by rfl)) (by rfl) (some 23) (by rfl) (by kernel_rfl) (by kernel_rfl) (by kernel_rfl) (by kernel_rfl) ?_
        refine Rg.ev 17 (by rfl) (fun _ h => h) (Ev.pickF (show Oper.op _ = Op.pick (Operand.tmp 12) (Operand.const (Value.bool true)) (Operand.tmp 23) from rfl) (by rfl) (by rfl)) (by rfl) (some 24) (by rfl) (by kernel_rfl) (by kernel_rfl) (by kernel_rfl) (by kernel_rfl) ?_
        refine Rg.done (by kernel_rfl) ?_ _
        refine Cd.cond_true (by rfl) (decide_eq_true (by omega)) ?_
        refine Cd.seq ?_
        refine Cd.region ?_
        refine Ls.ev (some 2) (Ev.assign (show Oper.op _ = Op.assign (Operand.const (Value.int IntKind.i64 0)) from rfl) (by rfl)) (by rfl) (by rfl) ?_
        refine Ls.nil ?_
        refine Cd.ret ?_
        refine Ent.ret (D) (⟨h, rfl, rfl⟩) (Res.tmp (by rfl) (by rfl)) ?_ [0, 1, 2, 3] (by rfl) ?_
        · rfl
        · rfl
      · rw [if_neg (fun e => e.elim hs hl)]
        refine Fn.enter Tryz.func54 rfl Tryz.ntmps54 (by rfl) ?_
        intro w0
        refine Cd.seq ?_
        refine Cd.region ?_
        refine Ls.ev (some 2) (Ev.assign (show Oper.op _ = Op.assign (Operand.const (Value.int IntKind.i64 0)) from rfl) (by rfl)) (by rfl) (by rfl) ?_
        refine Ls.nil ?_
        refine Cd.seq ?_
        refine Cd.seq ?_
        refine Cd.region ?_
        refine Ls.ev (some 3) (Ev.move (show Oper.op _ = Op.move (Operand.tmp 0) from rfl) (by rfl)) (by rfl) (by rfl) ?_
        refine Ls.ev (some 4) (Ev.nilCheck (show Oper.op _ = Op.nilCheck (Operand.tmp 3) from rfl) (by rfl)) (by rfl) (by rfl) ?_
        refine Ls.ev (some 5) (Ev.fieldAddr (k := 2) (show Oper.op _ = Op.fieldAddr 70 (Operand.tmp 4) 2 from rfl) (by rfl) (by kernel_rfl) (by rfl)) (by rfl) (by rfl) ?_
        refine Ls.ev (some 6) (Ev.load 0 (show Oper.op _ = Op.load 4 (Operand.tmp 5) from rfl) (by rfl) (by rfl) (by kernel_rfl) (by rfl)) (by rfl) (by rfl) ?_
        refine Ls.nil ?_
        refine Cd.cond_false (by rfl) (rfl) ?_
        refine Cd.skip ?_
        refine Cd.seq ?_
        refine Cd.seq ?_
        refine Cd.draw [] (by kernel_rfl) ?_
        refine Rg.ev 0 (by rfl) (fun _ h => h) (Ev.move (show Oper.op _ = Op.move (Operand.tmp 0) from rfl) (by rfl)) (by rfl) (some 7) (by rfl) (by kernel_rfl) (by kernel_rfl) (by kernel_rfl) (by kernel_rfl) ?_
        refine Rg.ev 1 (by rfl) (fun _ h => h) (Ev.nilCheck (show Oper.op _ = Op.nilCheck (Operand.tmp 7) from rfl) (by rfl)) (by rfl) (some 8) (by rfl) (by kernel_rfl) (by kernel_rfl) (by kernel_rfl) (by kernel_rfl) ?_
        refine Rg.ev 2 (by rfl) (fun _ h => h) (Ev.fieldAddr (k := 1) (show Oper.op _ = Op.fieldAddr 70 (Operand.tmp 8) 1 from rfl) (by rfl) (by kernel_rfl) (by rfl)) (by rfl) (some 9) (by rfl) (by kernel_rfl) (by kernel_rfl) (by kernel_rfl) (by kernel_rfl) ?_
        refine Rg.ev 3 (by rfl) (fun _ h => h) (Ev.load 0 (show Oper.op _ = Op.load 3 (Operand.tmp 9) from rfl) (by rfl) (by rfl) (by kernel_rfl) (by rfl)) (by rfl) (some 10) (by rfl) (by kernel_rfl) (by kernel_rfl) (by kernel_rfl) (by kernel_rfl) ?_
        refine Rg.ev 4 (by rfl) (fun _ h => h) (Ev.gtr (show Oper.op _ = Op.binOp BinOp.gtr 3 (Operand.tmp 10) (Operand.const (Value.int IntKind.i64 999999)) 3 from rfl) (by rfl) (by rfl)) (by rfl) (some 11) (by rfl) (by kernel_rfl) (by kernel_rfl) (by kernel_rfl) (by kernel_rfl) ?_
        refine Rg.ev 5 (by rfl) (fun _ h => h) (Ev.move (show Oper.op _ = Op.move (Operand.tmp 11) from rfl) (by rfl)) (by rfl) (some 12) (by rfl) (by kernel_rfl) (by kernel_rfl) (by kernel_rfl) (by kernel_rfl) ?_
        refine Ent.known 12 false (by rfl) (by exact (decide_eq_false (show ¬ ((999999 : Int) < (s : Int)) by omega))) ?_
        refine Rg.ev 6 (by rfl) (fun _ h => h) (Ev.move (show Oper.op _ = Op.move (Operand.tmp 0) from rfl) (by rfl)) (by rfl) (some 13) (by rfl) (by kernel_rfl) (by kernel_rfl) (by kernel_rfl) (by kernel_rfl) ?_
        refine Rg.ev 7 (by rfl) (fun _ h => h) (Ev.nilCheck (show Oper.op _ = Op.nilCheck (Operand.tmp 13) from rfl) (by rfl)) (by rfl) (some 14) (by rfl) (by kernel_rfl) (by kernel_rfl) (by kernel_rfl) (by kernel_rfl) ?_
        refine Rg.ev 8 (by rfl) (fun _ h => h) (Ev.fieldAddr (k := 0) (show Oper.op _ = Op.fieldAddr 70 (Operand.tmp 14) 0 from rfl) (by rfl) (by kernel_rfl) (by rfl)) (by rfl) (some 15) (by rfl) (by kernel_rfl) (by kernel_rfl) (by kernel_rfl) (by kernel_rfl) ?_
        refine Rg.ev 9 (by rfl) (fun _ h => h) (Ev.load 0 (show Oper.op _ = Op.load 23 (Operand.tmp 15) from rfl) (by rfl) (by rfl) (by kernel_rfl) (by rfl)) (by rfl) (some 16) (by rfl) (by kernel_rfl) (by kernel_rfl) (by kernel_rfl) (by kernel_rfl) ?_
        refine Rg.ev 10 (by rfl) (fun _ h => h) (Ev.move (show Oper.op _ = Op.move (Operand.tmp 0) from rfl) (by rfl)) (by rfl) (some 17) (by rfl) (by kernel_rfl) (by kernel_rfl) (by kernel_rfl) (by kernel_rfl) ?_
        refine Rg.ev 11 (by rfl) (fun _ h => h) (Ev.nilCheck (show Oper.op _ = Op.nilCheck (Operand.tmp 17) from rfl) (by rfl)) (by rfl) (some 18) (by rfl) (by kernel_rfl) (by kernel_rfl) (by kernel_rfl) (by kernel_rfl) ?_
        refine Rg.ev 12 (by rfl) (fun _ h => h) (Ev.fieldAddr (k := 1) (show Oper.op _ = Op.fieldAddr 70 (Operand.tmp 18) 1 from rfl) (by rfl) (by kernel_rfl) (by rfl)) (by rfl) (some 19) (by rfl) (by kernel_rfl) (by kernel_rfl) (by kernel_rfl) (by kernel_rfl) ?_
        refine Rg.ev 13 (by rfl) (fun _ h => h) (Ev.load 0 (show Oper.op _ = Op.load 3 (Operand.tmp 19) from rfl) (by rfl) (by rfl) (by kernel_rfl) (by rfl)) (by rfl) (some 20) (by rfl) (by kernel_rfl) (by kernel_rfl) (by kernel_rfl) (by kernel_rfl) ?_
        skip
        refine Rg.does 14 (by rfl) (by kernel_rfl) (Does.read (show Oper.op _ = Op.call { callee := Callee.value (Operand.func 28), args := #[Operand.tmp 20], argTypes := #[3] } from rfl) Tryz.func28 (by kernel_rfl) (by kernel_rfl) (name_sl s (by omega)) (by rfl) (by rfl) ⟨laidIn 4 (by rfl), trivial⟩) (by rfl) (some 21) (by rfl) (by exact fun _ _ h => h) ?_
        rintro _ -
        skip
        refine Rg.does 15 (by rfl) (by kernel_rfl) (Does.read (show Oper.op _ = Op.call { callee := Callee.value (Operand.func 25), args := #[Operand.tmp 16, Operand.tmp 21], argTypes := #[23, 9] } from rfl) Tryz.func25 (by kernel_rfl) (by kernel_rfl) (loose_sl h (nameP s) (nameP_good s).len) (by rfl) (by rfl) ⟨blkIn 1 (by rfl), mapIn 2 (by rfl), filIn 3 (by rfl), trivial⟩) (by rfl) (some 22) (by rfl) (by exact fun _ _ h => h) ?_
        rintro _ -
        refine Rg.ev 16 (by rfl) (fun _ h => h) (Ev.eql (show Oper.op _ = Op.binOp BinOp.eql 3 (Operand.tmp 22) (Operand.const (Value.int IntKind.i64 0)) 3 from rfl) (by rfl) (by rfl)) (by rfl) (some 23) (by rfl) (by kernel_rfl) (by kernel_rfl) (by kernel_rfl) (by kernel_rfl) ?_
        refine Rg.ev 17 (by rfl) (fun _ h => h) (Ev.pickF (show Oper.op _ = Op.pick (Operand.tmp 12) (Operand.const (Value.bool true)) (Operand.tmp 23) from rfl) (by rfl) (by rfl)) (by rfl) (some 24) (by rfl) (by kernel_rfl) (by kernel_rfl) (by kernel_rfl) (by kernel_rfl) ?_
        refine Rg.done (by kernel_rfl) ?_ _
        refine Cd.cond_false (by rfl) (decide_eq_false (by omega)) ?_
        skip
        refine Cd.skip ?_
        refine Cd.seq ?_
        refine Cd.draw [10] (by kernel_rfl) ?_
        refine Rg.mv 0 (by rfl) (fun _ h => h) (show Oper.op _ = Op.move (Operand.tmp 0) from rfl) (by rfl) (by rfl) (some 25) (by rfl) (by kernel_rfl) (by kernel_rfl) (by kernel_rfl) (by kernel_rfl) ?_
        refine Rg.ev 1 (by rfl) (fun _ h => h) (Ev.move (show Oper.op _ = Op.move (Operand.tmp 0) from rfl) (by rfl)) (by rfl) (some 26) (by rfl) (by kernel_rfl) (by kernel_rfl) (by kernel_rfl) (by kernel_rfl) ?_
        refine Rg.ev 2 (by rfl) (fun _ h => h) (Ev.nilCheck (show Oper.op _ = Op.nilCheck (Operand.tmp 26) from rfl) (by rfl)) (by rfl) (some 27) (by rfl) (by kernel_rfl) (by kernel_rfl) (by kernel_rfl) (by kernel_rfl) ?_
        refine Rg.ev 3 (by rfl) (fun _ h => h) (Ev.fieldAddr (k := 0) (show Oper.op _ = Op.fieldAddr 70 (Operand.tmp 27) 0 from rfl) (by rfl) (by kernel_rfl) (by rfl)) (by rfl) (some 28) (by rfl) (by kernel_rfl) (by kernel_rfl) (by kernel_rfl) (by kernel_rfl) ?_
        refine Rg.ev 4 (by rfl) (fun _ h => h) (Ev.load 0 (show Oper.op _ = Op.load 23 (Operand.tmp 28) from rfl) (by rfl) (by rfl) (by kernel_rfl) (by rfl)) (by rfl) (some 29) (by rfl) (by kernel_rfl) (by kernel_rfl) (by kernel_rfl) (by kernel_rfl) ?_
        refine Rg.ev 5 (by rfl) (fun _ h => h) (Ev.move (show Oper.op _ = Op.move (Operand.tmp 0) from rfl) (by rfl)) (by rfl) (some 30) (by rfl) (by kernel_rfl) (by kernel_rfl) (by kernel_rfl) (by kernel_rfl) ?_
        refine Rg.ev 6 (by rfl) (fun _ h => h) (Ev.nilCheck (show Oper.op _ = Op.nilCheck (Operand.tmp 30) from rfl) (by rfl)) (by rfl) (some 31) (by rfl) (by kernel_rfl) (by kernel_rfl) (by kernel_rfl) (by kernel_rfl) ?_
        refine Rg.ev 7 (by rfl) (fun _ h => h) (Ev.fieldAddr (k := 1) (show Oper.op _ = Op.fieldAddr 70 (Operand.tmp 31) 1 from rfl) (by rfl) (by kernel_rfl) (by rfl)) (by rfl) (some 32) (by rfl) (by kernel_rfl) (by kernel_rfl) (by kernel_rfl) (by kernel_rfl) ?_
        refine Rg.ev 8 (by rfl) (fun _ h => h) (Ev.load 0 (show Oper.op _ = Op.load 3 (Operand.tmp 32) from rfl) (by rfl) (by rfl) (by kernel_rfl) (by rfl)) (by rfl) (some 33) (by rfl) (by kernel_rfl) (by kernel_rfl) (by kernel_rfl) (by kernel_rfl) ?_
        refine Rg.does 9 (by rfl) (by kernel_rfl) (Does.read (show Oper.op _ = Op.call { callee := Callee.value (Operand.func 28), args := #[Operand.tmp 33], argTypes := #[3] } from rfl) Tryz.func28 (by kernel_rfl) (by kernel_rfl) (name_sl s (by omega)) (by rfl) (by rfl) ⟨laidIn 4 (by rfl), trivial⟩) (by rfl) (some 34) (by rfl) (by exact fun _ _ h => h) ?_
        rintro _ -
        skip
        refine Rg.tail 10 [11] (by rfl) (by kernel_rfl) (Does.call [1, 2, 3, 0] (show Oper.op _ = Op.call { callee := Callee.value (Operand.func 70), args := #[Operand.tmp 29, Operand.tmp 34], argTypes := #[23, 9] } from rfl) Tryz.func70 (by kernel_rfl) (by kernel_rfl) (sync_sl h (nameP s) (nameP_good s)) (by rfl) (by rfl) (by rfl)) (by rfl) (some 35) (by rfl) (by kernel_rfl) (by kernel_rfl) ?_
        rintro D' ⟨h', hd, hm⟩
        skip
        refine Rg.tail 11 [] (by rfl) (by kernel_rfl) (Does.call [3, 0, 1, 2] (show Oper.op _ = Op.call { callee := Callee.value (Operand.func 33), args := #[Operand.tmp 25, Operand.tmp 35], argTypes := #[26, 27] } from rfl) Tryz.func33 (by kernel_rfl) (by kernel_rfl) (done_sl g D.d ⟨s, false⟩ (P.sync (nameP s)).2) (by rfl) (by rfl) (by rfl)) (by rfl) (some 36) (by rfl) (by kernel_rfl) (by kernel_rfl) ?_
        rintro _ -
        refine Rg.ev 12 (by rfl) (fun _ h => h) (Ev.assign (show Oper.op _ = Op.assign (Operand.tmp 36) from rfl) (by rfl)) (by rfl) (some 2) (by rfl) (by kernel_rfl) (by kernel_rfl) (by kernel_rfl) (by kernel_rfl) ?_
        refine Rg.done (by kernel_rfl) ?_ _
        refine Cd.ret ?_
        refine Ent.ret (D') (⟨h', hd, hm⟩) (Res.tmp (by rfl) (by rfl)) ?_ [0, 1, 2, 3] (by rfl) ?_
        · rfl
        · rfl
  · dsimp only
    rw [if_pos rfl]
    refine Fn.enter Tryz.func54 rfl Tryz.ntmps54 (by rfl) ?_
    intro w0
    refine Cd.seq ?_
    refine Cd.region ?_
    refine Ls.ev (some 2) (Ev.assign (show Oper.op _ = Op.assign (Operand.const (Value.int IntKind.i64 0)) from rfl) (by rfl)) (by rfl) (by rfl) ?_
    refine Ls.nil ?_
    refine Cd.seq ?_
    refine Cd.seq ?_
    refine Cd.region ?_
    refine Ls.ev (some 3) (Ev.move (show Oper.op _ = Op.move (Operand.tmp 0) from rfl) (by rfl)) (by rfl) (by rfl) ?_
    refine Ls.ev (some 4) (Ev.nilCheck (show Oper.op _ = Op.nilCheck (Operand.tmp 3) from rfl) (by rfl)) (by rfl) (by rfl) ?_
    refine Ls.ev (some 5) (Ev.fieldAddr (k := 2) (show Oper.op _ = Op.fieldAddr 70 (Operand.tmp 4) 2 from rfl) (by rfl) (by kernel_rfl) (by rfl)) (by rfl) (by rfl) ?_
    refine Ls.ev (some 6) (Ev.load 0 (show Oper.op _ = Op.load 4 (Operand.tmp 5) from rfl) (by rfl) (by rfl) (by kernel_rfl) (by rfl)) (by rfl) (by rfl) ?_
    refine Ls.nil ?_
    refine Cd.cond_true (by rfl) (rfl) ?_
    refine Cd.seq ?_
    refine Cd.region ?_
    refine Ls.ev (some 2) (Ev.assign (show Oper.op _ = Op.assign (Operand.const (Value.int IntKind.i64 6)) from rfl) (by rfl)) (by rfl) (by rfl) ?_
    refine Ls.nil ?_
    refine Cd.ret ?_
    refine Ent.ret (D) (⟨h, rfl, rfl⟩) (Res.tmp (by rfl) (by rfl)) ?_ [0, 1, 2, 3] (by rfl) ?_
    · rfl
    · rfl
theorem syncL_seg (P : DrP) (L : LgP) : (syncL P L).2.1.seg = L.seg := by
  unfold syncL
  split
  · rfl
  · split <;> rfl
theorem roll_sl {D : DrS} {P : DrP} (h : Drv D P) (g : Nat) (L : LgP) (hL : L.seg ≤ 1000000) : Fn Tryz.prog 32 #[ptrV g] [lgB g D.d L, D.B, D.M, D.F, laidC] DrS (fun _ => .tuple #[.int .i64 (rollL P L).2.2.1, .int .i64 (rollL P L).2.2.2]) (fun D' => [lgB g D.d (rollL P L).2.1, D'.B, D'.M, D'.F]) (fun D' => Drv D' (rollL P L).1 ∧ D'.d = D.d ∧ D'.m = D.m) := by
  have hc := lsync_sl h g L hL
  have hsg := syncL_seg P L
  unfold rollL
  generalize syncL P L = r at hc hsg ⊢
  obtain ⟨Q, ⟨s, b⟩, e⟩ := r
  dsimp only at hc hsg ⊢
  have hs : s ≤ 1000000 := by omega
  refine Fn.enter Tryz.func32 rfl Tryz.ntmps32 (by rfl) ?_
  intro w0
  refine Cd.seq ?_
  refine Cd.region ?_
  refine Ls.ev (some 2) (Ev.assign (show Oper.op _ = Op.assign (Operand.const (Value.int IntKind.i64 0)) from rfl) (by rfl)) (by rfl) (by rfl) ?_
  refine Ls.ev (some 3) (Ev.assign (show Oper.op _ = Op.assign (Operand.const (Value.int IntKind.i64 0)) from rfl) (by rfl)) (by rfl) (by rfl) ?_
  refine Ls.nil ?_
  refine Cd.seq ?_
  refine Cd.seq ?_
  refine Cd.region ?_
  refine Ls.ev (some 5) (Ev.move (show Oper.op _ = Op.move (Operand.tmp 0) from rfl) (by rfl)) (by rfl) (by rfl) ?_
  refine Ls.does (some 6) (Does.call [0, 1, 2, 3, 4] (show Oper.op _ = Op.call { callee := Callee.value (Operand.func 54), args := #[Operand.tmp 5], argTypes := #[26] } from rfl) Tryz.func54 (by kernel_rfl) (by kernel_rfl) (hc) (by rfl) (by rfl) (by rfl)) (by rfl) (by rfl) ?_
  rintro D' ⟨h', hd, hm⟩
  refine Ls.ev (some 4) (Ev.assign (show Oper.op _ = Op.assign (Operand.tmp 6) from rfl) (by rfl)) (by rfl) (by rfl) ?_
  refine Ls.nil ?_
  refine Cd.seq ?_
  refine Cd.region ?_
  refine Ls.ev (some 7) (Ev.move (show Oper.op _ = Op.move (Operand.tmp 4) from rfl) (by rfl)) (by rfl) (by rfl) ?_
  refine Ls.ev (some 8) (Ev.neq (show Oper.op _ = Op.binOp BinOp.neq 27 (Operand.tmp 7) (Operand.const (Value.int IntKind.i64 0)) 27 from rfl) (by rfl) (by rfl)) (by rfl) (by rfl) ?_
  refine Ls.nil ?_
  by_cases he : e = 0
  · skip
    rw [if_neg (fun h => h he)]
    have hmin : (if (999999 : Int) < (s : Int) then (999999 : Int) else (s : Int)) = ((min s 999999 : Nat) : Int) := by split <;> omega
    refine Cd.cond_false (by rfl) (decide_eq_false (show ¬ (e ≠ 0) from fun h => h he)) ?_
    refine Cd.skip ?_
    refine Cd.seq ?_
    refine Cd.region ?_
    refine Ls.ev (some 10) (Ev.move (show Oper.op _ = Op.move (Operand.tmp 0) from rfl) (by rfl)) (by rfl) (by rfl) ?_
    refine Ls.ev (some 11) (Ev.move (show Oper.op _ = Op.move (Operand.tmp 0) from rfl) (by rfl)) (by rfl) (by rfl) ?_
    refine Ls.ev (some 12) (Ev.nilCheck (show Oper.op _ = Op.nilCheck (Operand.tmp 11) from rfl) (by rfl)) (by rfl) (by rfl) ?_
    refine Ls.ev (some 13) (Ev.fieldAddr (k := 1) (show Oper.op _ = Op.fieldAddr 70 (Operand.tmp 12) 1 from rfl) (by rfl) (by kernel_rfl) (by rfl)) (by rfl) (by rfl) ?_
    refine Ls.ev (some 14) (Ev.load 0 (show Oper.op _ = Op.load 3 (Operand.tmp 13) from rfl) (by rfl) (by rfl) (by kernel_rfl) (by rfl)) (by rfl) (by rfl) ?_
    refine Ls.ev (some 15) (Ev.min (show Oper.op _ = Op.call { callee := Callee.builtin Builtin.min, args := #[Operand.tmp 14, Operand.const (Value.int IntKind.i64 999999)], argTypes := #[3, 3] } from rfl) (by rfl) (by rfl)) (by rfl) (by rfl) ?_
    rw [hmin]
    skip
    refine Ls.ev (some 16) (Ev.addN (b := 1) (show Oper.op _ = Op.binOp BinOp.add 3 (Operand.tmp 15) (Operand.const (Value.int IntKind.i64 1)) 3 from rfl) (by rfl) (by rfl) (by omega)) (by rfl) (by rfl) ?_
    refine Ls.ev (some 17) (Ev.nilCheck (show Oper.op _ = Op.nilCheck (Operand.tmp 10) from rfl) (by rfl)) (by rfl) (by rfl) ?_
    refine Ls.ev (some 18) (Ev.fieldAddr (k := 1) (show Oper.op _ = Op.fieldAddr 70 (Operand.tmp 17) 1 from rfl) (by rfl) (by kernel_rfl) (by rfl)) (by rfl) (by rfl) ?_
    refine Ls.does none (Does.store 0 (show Oper.op _ = Op.store 3 (Operand.tmp 18) (Operand.tmp 16) from rfl) (by rfl) (by rfl) (by rfl) (by kernel_rfl) (by rfl) (by kernel_rfl) (by rfl)) (by rfl) (by rfl) ?_
    intro _ _
    refine Ls.nil ?_
    refine Cd.seq ?_
    refine Cd.region ?_
    refine Ls.ev (some 19) (Ev.move (show Oper.op _ = Op.move (Operand.tmp 0) from rfl) (by rfl)) (by rfl) (by rfl) ?_
    refine Ls.ev (some 20) (Ev.nilCheck (show Oper.op _ = Op.nilCheck (Operand.tmp 19) from rfl) (by rfl)) (by rfl) (by rfl) ?_
    refine Ls.ev (some 21) (Ev.fieldAddr (k := 1) (show Oper.op _ = Op.fieldAddr 70 (Operand.tmp 20) 1 from rfl) (by rfl) (by kernel_rfl) (by rfl)) (by rfl) (by rfl) ?_
    refine Ls.ev (some 22) (Ev.load 0 (show Oper.op _ = Op.load 3 (Operand.tmp 21) from rfl) (by rfl) (by rfl) (by kernel_rfl) (by rfl)) (by rfl) (by rfl) ?_
    refine Ls.ev (some 2) (Ev.assign (show Oper.op _ = Op.assign (Operand.tmp 22) from rfl) (by rfl)) (by rfl) (by rfl) ?_
    refine Ls.ev (some 3) (Ev.assign (show Oper.op _ = Op.assign (Operand.const (Value.int IntKind.i64 0)) from rfl) (by rfl)) (by rfl) (by rfl) ?_
    refine Ls.nil ?_
    refine Cd.ret ?_
    refine Ent.ret (D') (⟨h', hd, hm⟩) (Res.tmp2 (by rfl) (by rfl) (by rfl)) ?_ [0, 1, 2, 3] (by rfl) ?_
    · rfl
    · rfl
  · skip
    rw [if_pos he]
    refine Cd.cond_true (by rfl) (decide_eq_true he) ?_
    refine Cd.seq ?_
    refine Cd.region ?_
    refine Ls.ev (some 9) (Ev.move (show Oper.op _ = Op.move (Operand.tmp 4) from rfl) (by rfl)) (by rfl) (by rfl) ?_
    refine Ls.ev (some 2) (Ev.assign (show Oper.op _ = Op.assign (Operand.const (Value.int IntKind.i64 0)) from rfl) (by rfl)) (by rfl) (by rfl) ?_
    refine Ls.ev (some 3) (Ev.assign (show Oper.op _ = Op.assign (Operand.tmp 9) from rfl) (by rfl)) (by rfl) (by rfl) ?_
    refine Ls.nil ?_
    refine Cd.ret ?_
    refine Ent.ret (D') (⟨h', hd, hm⟩) (Res.tmp2 (by rfl) (by rfl) (by rfl)) ?_ [0, 1, 2, 3] (by rfl) ?_
    · rfl
    · rfl
end Go.Proofs.YtceanciekadkeaaGreatDoor
/- walks: a log's Append, Drop -/
namespace Go.Proofs.YtceanciekadkeaaGreatDoor
open Go.RowKit
theorem seal_sl (A : Option Addr) (c : Nat) (l : List UInt8) (hn : l.length ≤ 4096) : Fn Tryz.prog 30 #[.slice A l.length c] [rdB A l] (Option Addr × Nat) (fun p => .tuple #[.slice p.1 (sealL l).length p.2, .int .i64 0]) (fun p => [rowB p.1 p.2 (sealL l)]) (fun _ => True) :=
  Fn.of_own (res := fun p => .tuple #[.slice p.1 (sealL l).length p.2, .int .i64 0]) fun w hs => seal_any A l.length c l w (sat_rd 0 rfl hs) hn
theorem seal_over (A : Option Addr) (c n : Nat) (hn : 4096 < n) : Fn Tryz.prog 30 #[.slice A n c] [] Unit (fun _ => .tuple #[.slice none 0 0, .int .i64 3]) (fun _ => []) (fun _ => True) := by
  refine Fn.enter Tryz.func30 rfl Tryz.ntmps30 (by rfl) ?_
  intro w0
  refine Cd.seq ?_
  refine Cd.region ?_
  refine Ls.ev (some 2) (Ev.assign (show Oper.op _ = Op.assign (Operand.const (Value.slice none 0 0)) from rfl) (by rfl)) (by rfl) (by rfl) ?_
  refine Ls.ev (some 3) (Ev.assign (show Oper.op _ = Op.assign (Operand.const (Value.int IntKind.i64 0)) from rfl) (by rfl)) (by rfl) (by rfl) ?_
  refine Ls.nil ?_
  refine Cd.seq ?_
  refine Cd.seq ?_
  refine Cd.region ?_
  refine Ls.ev (some 6) (Ev.move (show Oper.op _ = Op.move (Operand.tmp 0) from rfl) (by rfl)) (by rfl) (by rfl) ?_
  refine Ls.ev (some 7) (Ev.len (show Oper.op _ = Op.call { callee := Callee.builtin Builtin.len, args := #[Operand.tmp 6], argTypes := #[30] } from rfl) (by rfl) Tryz.underlying30) (by rfl) (by rfl) ?_
  refine Ls.ev (some 8) (Ev.gtr (show Oper.op _ = Op.binOp BinOp.gtr 3 (Operand.tmp 7) (Operand.const (Value.int IntKind.i64 4096)) 3 from rfl) (by rfl) (by rfl)) (by rfl) (by rfl) ?_
  refine Ls.nil ?_
  refine Cd.cond_true (by rfl) (decide_eq_true (by omega)) ?_
  refine Cd.seq ?_
  refine Cd.region ?_
  refine Ls.ev (some 2) (Ev.assign (show Oper.op _ = Op.assign (Operand.const (Value.slice none 0 0)) from rfl) (by rfl)) (by rfl) (by rfl) ?_
  refine Ls.ev (some 3) (Ev.assign (show Oper.op _ = Op.assign (Operand.const (Value.int IntKind.i64 3)) from rfl) (by rfl)) (by rfl) (by rfl) ?_
  refine Ls.nil ?_
  refine Cd.ret ?_
  refine Ent.ret (()) (trivial) (Res.tmp2 (by rfl) (by rfl) (by rfl)) ?_ [] (by rfl) ?_
  · rfl
  · rfl
theorem sealL_len (l : List UInt8) (h : l.length ≤ 4096) : (sealL l).length ≤ 4110 := by
  have := uintL_len64 (n := l.length) (by omega)
  rw [sealL_length]
  omega
theorem syncL_alive {P : DrP} {L : LgP} (hL : L.dead = false) (h : (syncL P L).2.2 = 0) : (syncL P L).2.1.dead = false := by
  unfold syncL at h ⊢
  rw [if_neg (by rw [hL]; decide)] at h ⊢
  split
  · exact hL
  · rename_i hn
    rw [if_neg hn] at h
    dsimp only at h ⊢
    rw [h]
    rfl
theorem rollL_alive {P : DrP} {L : LgP} (hL : L.dead = false) (h : (rollL P L).2.2.2 = 0) : (rollL P L).2.1.dead = false := by
  unfold rollL at h ⊢
  by_cases hs : (syncL P L).2.2 = 0
  · rw [if_neg (fun h => h hs)]
    exact syncL_alive hL hs
  · rw [if_pos hs] at h
    exact absurd h hs
theorem lappend_sl {D : DrS} {P : DrP} (h : Drv D P) (g : Nat) (L : LgP) (hL : L.seg ≤ 1000000) (A : Option Addr) (c : Nat) (p : List UInt8) : Fn Tryz.prog 11 #[ptrV g, .slice A p.length c] [lgB g D.d L, D.B, D.M, D.F, laidC, rdB A p] DrS (fun _ => .int .i64 (appL P L p).2.2) (fun D' => [lgB g D.d (appL P L p).2.1, D'.B, D'.M, D'.F]) (fun D' => Drv D' (appL P L p).1 ∧ D'.d = D.d ∧ D'.m = D.m) := by
  unfold appL
  by_cases hlong : 4096 < p.length
  · rw [if_pos hlong]
    refine Fn.enter Tryz.func11 rfl Tryz.ntmps11 (by rfl) ?_
    intro w0
    refine Cd.seq ?_
    refine Cd.region ?_
    refine Ls.ev (some 4) (Ev.assign (show Oper.op _ = Op.assign (Operand.const (Value.int IntKind.i64 0)) from rfl) (by rfl)) (by rfl) (by rfl) ?_
    refine Ls.nil ?_
    refine Cd.seq ?_
    refine Cd.region ?_
    refine Ls.ev (some 11) (Ev.move (show Oper.op _ = Op.move (Operand.tmp 1) from rfl) (by rfl)) (by rfl) (by rfl) ?_
    refine Ls.does (some 12) (Does.read (show Oper.op _ = Op.call { callee := Callee.value (Operand.func 30), args := #[Operand.tmp 11], argTypes := #[30] } from rfl) Tryz.func30 (by kernel_rfl) (by kernel_rfl) (seal_over A c p.length hlong) (by rfl) (by rfl) trivial) (by rfl) (by rfl) ?_
    rintro _ -
    refine Ls.ev (some 10) (Ev.move (show Oper.op _ = Op.move (Operand.tmp 12) from rfl) (by rfl)) (by rfl) (by rfl) ?_
    refine Ls.ev (some 13) (Ev.extract (show Oper.op _ = Op.extract (Operand.tmp 10) 0 from rfl) (by rfl) (by rfl)) (by rfl) (by rfl) ?_
    refine Ls.ev (some 14) (Ev.extract (show Oper.op _ = Op.extract (Operand.tmp 10) 1 from rfl) (by rfl) (by rfl)) (by rfl) (by rfl) ?_
    refine Ls.ev (some 5) (Ev.assign (show Oper.op _ = Op.assign (Operand.tmp 13) from rfl) (by rfl)) (by rfl) (by rfl) ?_
    refine Ls.ev (some 6) (Ev.assign (show Oper.op _ = Op.assign (Operand.tmp 14) from rfl) (by rfl)) (by rfl) (by rfl) ?_
    refine Ls.nil ?_
    refine Cd.seq ?_
    refine Cd.seq ?_
    refine Cd.region ?_
    refine Ls.ev (some 15) (Ev.move (show Oper.op _ = Op.move (Operand.tmp 6) from rfl) (by rfl)) (by rfl) (by rfl) ?_
    refine Ls.ev (some 16) (Ev.neq (show Oper.op _ = Op.binOp BinOp.neq 27 (Operand.tmp 15) (Operand.const (Value.int IntKind.i64 0)) 27 from rfl) (by rfl) (by rfl)) (by rfl) (by rfl) ?_
    refine Ls.nil ?_
    refine Cd.cond_true (by rfl) (decide_eq_true (show ((3 : Int) ≠ 0) by decide)) ?_
    refine Cd.seq ?_
    refine Cd.region ?_
    refine Ls.ev (some 17) (Ev.move (show Oper.op _ = Op.move (Operand.tmp 6) from rfl) (by rfl)) (by rfl) (by rfl) ?_
    refine Ls.ev (some 4) (Ev.assign (show Oper.op _ = Op.assign (Operand.tmp 17) from rfl) (by rfl)) (by rfl) (by rfl) ?_
    refine Ls.nil ?_
    refine Cd.ret ?_
    refine Ent.ret (D) (⟨h, rfl, rfl⟩) (Res.tmp (by rfl) (by rfl)) ?_ [0, 1, 2, 3] (by rfl) ?_
    · rfl
    · rfl
  rw [if_neg hlong]
  have hlong : p.length ≤ 4096 := by omega
  obtain ⟨s, b⟩ := L
  dsimp only at hL ⊢
  have hsl := sealL_len p hlong
  cases b
  rotate_left
  · rw [if_pos rfl]
    refine Fn.enter Tryz.func11 rfl Tryz.ntmps11 (by rfl) ?_
    intro w0
    refine Cd.seq ?_
    refine Cd.region ?_
    refine Ls.ev (some 4) (Ev.assign (show Oper.op _ = Op.assign (Operand.const (Value.int IntKind.i64 0)) from rfl) (by rfl)) (by rfl) (by rfl) ?_
    refine Ls.nil ?_
    refine Cd.seq ?_
    refine Cd.region ?_
    refine Ls.ev (some 11) (Ev.move (show Oper.op _ = Op.move (Operand.tmp 1) from rfl) (by rfl)) (by rfl) (by rfl) ?_
    refine Ls.does (some 12) (Does.readN (show Oper.op _ = Op.call { callee := Callee.value (Operand.func 30), args := #[Operand.tmp 11], argTypes := #[30] } from rfl) Tryz.func30 (by kernel_rfl) (by kernel_rfl) (seal_sl A c p hlong) (by rfl) (by rfl) ⟨ReadsIn.rd 5 (by rfl), trivial⟩ (fun _ => by rfl)) (by rfl) (by rfl) ?_
    rintro ⟨sA, sc⟩ -
    refine Ls.ev (some 10) (Ev.move (show Oper.op _ = Op.move (Operand.tmp 12) from rfl) (by rfl)) (by rfl) (by rfl) ?_
    refine Ls.ev (some 13) (Ev.extract (show Oper.op _ = Op.extract (Operand.tmp 10) 0 from rfl) (by rfl) (by rfl)) (by rfl) (by rfl) ?_
    refine Ls.ev (some 14) (Ev.extract (show Oper.op _ = Op.extract (Operand.tmp 10) 1 from rfl) (by rfl) (by rfl)) (by rfl) (by rfl) ?_
    refine Ls.ev (some 5) (Ev.assign (show Oper.op _ = Op.assign (Operand.tmp 13) from rfl) (by rfl)) (by rfl) (by rfl) ?_
    refine Ls.ev (some 6) (Ev.assign (show Oper.op _ = Op.assign (Operand.tmp 14) from rfl) (by rfl)) (by rfl) (by rfl) ?_
    refine Ls.nil ?_
    refine Cd.seq ?_
    refine Cd.seq ?_
    refine Cd.region ?_
    refine Ls.ev (some 15) (Ev.move (show Oper.op _ = Op.move (Operand.tmp 6) from rfl) (by rfl)) (by rfl) (by rfl) ?_
    refine Ls.ev (some 16) (Ev.neq (show Oper.op _ = Op.binOp BinOp.neq 27 (Operand.tmp 15) (Operand.const (Value.int IntKind.i64 0)) 27 from rfl) (by rfl) (by rfl)) (by rfl) (by rfl) ?_
    refine Ls.nil ?_
    refine Cd.cond_false (by rfl) (decide_eq_false (show ¬ ((0 : Int) ≠ 0) from fun h => h rfl)) ?_
    refine Cd.skip ?_
    refine Cd.seq ?_
    refine Cd.seq ?_
    refine Cd.region ?_
    refine Ls.ev (some 18) (Ev.move (show Oper.op _ = Op.move (Operand.tmp 0) from rfl) (by rfl)) (by rfl) (by rfl) ?_
    refine Ls.ev (some 19) (Ev.nilCheck (show Oper.op _ = Op.nilCheck (Operand.tmp 18) from rfl) (by rfl)) (by rfl) (by rfl) ?_
    refine Ls.ev (some 20) (Ev.fieldAddr (k := 2) (show Oper.op _ = Op.fieldAddr 70 (Operand.tmp 19) 2 from rfl) (by rfl) (by kernel_rfl) (by rfl)) (by rfl) (by rfl) ?_
    refine Ls.ev (some 21) (Ev.load 1 (show Oper.op _ = Op.load 4 (Operand.tmp 20) from rfl) (by rfl) (by rfl) (by kernel_rfl) (by rfl)) (by rfl) (by rfl) ?_
    refine Ls.nil ?_
    refine Cd.cond_true (by rfl) (rfl) ?_
    refine Cd.seq ?_
    refine Cd.region ?_
    refine Ls.ev (some 4) (Ev.assign (show Oper.op _ = Op.assign (Operand.const (Value.int IntKind.i64 6)) from rfl) (by rfl)) (by rfl) (by rfl) ?_
    refine Ls.nil ?_
    refine Cd.ret ?_
    refine Ent.ret (D) (⟨h, rfl, rfl⟩) (Res.tmp (by rfl) (by rfl)) ?_ [1, 2, 3, 4] (by rfl) ?_
    · rfl
    · rfl
  rw [if_neg (by decide)]
  by_cases hs : s ≤ 999999
  rotate_left
  · have hz : sizeL P ⟨s, false⟩ = 0 := if_neg hs
    rw [hz, if_neg (fun e => absurd e.1 (by omega))]
    unfold putL
    dsimp only
    rw [if_pos (by omega)]
    refine Fn.enter Tryz.func11 rfl Tryz.ntmps11 (by rfl) ?_
    intro w0
    refine Cd.seq ?_
    refine Cd.region ?_
    refine Ls.ev (some 4) (Ev.assign (show Oper.op _ = Op.assign (Operand.const (Value.int IntKind.i64 0)) from rfl) (by rfl)) (by rfl) (by rfl) ?_
    refine Ls.nil ?_
    refine Cd.seq ?_
    refine Cd.region ?_
    refine Ls.ev (some 11) (Ev.move (show Oper.op _ = Op.move (Operand.tmp 1) from rfl) (by rfl)) (by rfl) (by rfl) ?_
    refine Ls.does (some 12) (Does.readN (show Oper.op _ = Op.call { callee := Callee.value (Operand.func 30), args := #[Operand.tmp 11], argTypes := #[30] } from rfl) Tryz.func30 (by kernel_rfl) (by kernel_rfl) (seal_sl A c p hlong) (by rfl) (by rfl) ⟨ReadsIn.rd 5 (by rfl), trivial⟩ (fun _ => by rfl)) (by rfl) (by rfl) ?_
    rintro ⟨sA, sc⟩ -
    refine Ls.ev (some 10) (Ev.move (show Oper.op _ = Op.move (Operand.tmp 12) from rfl) (by rfl)) (by rfl) (by rfl) ?_
    refine Ls.ev (some 13) (Ev.extract (show Oper.op _ = Op.extract (Operand.tmp 10) 0 from rfl) (by rfl) (by rfl)) (by rfl) (by rfl) ?_
    refine Ls.ev (some 14) (Ev.extract (show Oper.op _ = Op.extract (Operand.tmp 10) 1 from rfl) (by rfl) (by rfl)) (by rfl) (by rfl) ?_
    refine Ls.ev (some 5) (Ev.assign (show Oper.op _ = Op.assign (Operand.tmp 13) from rfl) (by rfl)) (by rfl) (by rfl) ?_
    refine Ls.ev (some 6) (Ev.assign (show Oper.op _ = Op.assign (Operand.tmp 14) from rfl) (by rfl)) (by rfl) (by rfl) ?_
    refine Ls.nil ?_
    refine Cd.seq ?_
    refine Cd.seq ?_
    refine Cd.region ?_
    refine Ls.ev (some 15) (Ev.move (show Oper.op _ = Op.move (Operand.tmp 6) from rfl) (by rfl)) (by rfl) (by rfl) ?_
    refine Ls.ev (some 16) (Ev.neq (show Oper.op _ = Op.binOp BinOp.neq 27 (Operand.tmp 15) (Operand.const (Value.int IntKind.i64 0)) 27 from rfl) (by rfl) (by rfl)) (by rfl) (by rfl) ?_
    refine Ls.nil ?_
    refine Cd.cond_false (by rfl) (decide_eq_false (show ¬ ((0 : Int) ≠ 0) from fun h => h rfl)) ?_
    refine Cd.skip ?_
    refine Cd.seq ?_
    refine Cd.seq ?_
    refine Cd.region ?_
    refine Ls.ev (some 18) (Ev.move (show Oper.op _ = Op.move (Operand.tmp 0) from rfl) (by rfl)) (by rfl) (by rfl) ?_
    refine Ls.ev (some 19) (Ev.nilCheck (show Oper.op _ = Op.nilCheck (Operand.tmp 18) from rfl) (by rfl)) (by rfl) (by rfl) ?_
    refine Ls.ev (some 20) (Ev.fieldAddr (k := 2) (show Oper.op _ = Op.fieldAddr 70 (Operand.tmp 19) 2 from rfl) (by rfl) (by kernel_rfl) (by rfl)) (by rfl) (by rfl) ?_
    refine Ls.ev (some 21) (Ev.load 1 (show Oper.op _ = Op.load 4 (Operand.tmp 20) from rfl) (by rfl) (by rfl) (by kernel_rfl) (by rfl)) (by rfl) (by rfl) ?_
    refine Ls.nil ?_
    refine Cd.cond_false (by rfl) (rfl) ?_
    refine Cd.skip ?_
    refine Cd.seq ?_
    refine Cd.region ?_
    refine Ls.ev (some 7) (Ev.assign (show Oper.op _ = Op.assign (Operand.const (Value.int IntKind.i64 0)) from rfl) (by rfl)) (by rfl) (by rfl) ?_
    refine Ls.nil ?_
    refine Cd.seq ?_
    refine Cd.seq ?_
    refine Cd.region ?_
    refine Ls.ev (some 22) (Ev.move (show Oper.op _ = Op.move (Operand.tmp 0) from rfl) (by rfl)) (by rfl) (by rfl) ?_
    refine Ls.ev (some 23) (Ev.nilCheck (show Oper.op _ = Op.nilCheck (Operand.tmp 22) from rfl) (by rfl)) (by rfl) (by rfl) ?_
    refine Ls.ev (some 24) (Ev.fieldAddr (k := 1) (show Oper.op _ = Op.fieldAddr 70 (Operand.tmp 23) 1 from rfl) (by rfl) (by kernel_rfl) (by rfl)) (by rfl) (by rfl) ?_
    refine Ls.ev (some 25) (Ev.load 1 (show Oper.op _ = Op.load 3 (Operand.tmp 24) from rfl) (by rfl) (by rfl) (by kernel_rfl) (by rfl)) (by rfl) (by rfl) ?_
    refine Ls.ev (some 26) (Ev.leq (show Oper.op _ = Op.binOp BinOp.leq 3 (Operand.tmp 25) (Operand.const (Value.int IntKind.i64 999999)) 3 from rfl) (by rfl) (by rfl)) (by rfl) (by rfl) ?_
    refine Ls.nil ?_
    refine Cd.cond_false (by rfl) (decide_eq_false (show ¬ ((s : Int) ≤ 999999) by omega)) ?_
    refine Cd.skip ?_
    refine Cd.seq ?_
    refine Cd.seq ?_
    refine Cd.region ?_
    refine Ls.ev (some 37) (Ev.move (show Oper.op _ = Op.move (Operand.tmp 7) from rfl) (by rfl)) (by rfl) (by rfl) ?_
    refine Ls.ev (some 38) (Ev.gtr (show Oper.op _ = Op.binOp BinOp.gtr 3 (Operand.tmp 37) (Operand.const (Value.int IntKind.i64 0)) 3 from rfl) (by rfl) (by rfl)) (by rfl) (by rfl) ?_
    refine Ls.ev (some 39) (Ev.move (show Oper.op _ = Op.move (Operand.tmp 38) from rfl) (by rfl)) (by rfl) (by rfl) ?_
    refine Ent.known 39 false (by rfl) (by exact (rfl)) ?_
    refine Ls.pass (some 40) (by rfl) (by rfl) ?_
    refine Ls.pass (some 41) (by rfl) (by rfl) ?_
    refine Ls.pass (some 42) (by rfl) (by rfl) ?_
    refine Ls.pass (some 43) (by rfl) (by rfl) ?_
    refine Ls.pass (some 44) (by rfl) (by rfl) ?_
    refine Ls.ev (some 45) (Ev.pickF (show Oper.op _ = Op.pick (Operand.tmp 39) (Operand.tmp 44) (Operand.const (Value.bool false)) from rfl) (by rfl) (by rfl)) (by rfl) (by rfl) ?_
    refine Ls.nil ?_
    skip
    refine Cd.cond_false (by rfl) (rfl) ?_
    refine Cd.skip ?_
    refine Cd.seq ?_
    refine Cd.seq ?_
    refine Cd.region ?_
    refine Ls.ev (some 54) (Ev.move (show Oper.op _ = Op.move (Operand.tmp 0) from rfl) (by rfl)) (by rfl) (by rfl) ?_
    refine Ls.ev (some 55) (Ev.nilCheck (show Oper.op _ = Op.nilCheck (Operand.tmp 54) from rfl) (by rfl)) (by rfl) (by rfl) ?_
    refine Ls.ev (some 56) (Ev.fieldAddr (k := 1) (show Oper.op _ = Op.fieldAddr 70 (Operand.tmp 55) 1 from rfl) (by rfl) (by kernel_rfl) (by rfl)) (by rfl) (by rfl) ?_
    refine Ls.ev (some 57) (Ev.load 1 (show Oper.op _ = Op.load 3 (Operand.tmp 56) from rfl) (by rfl) (by rfl) (by kernel_rfl) (by rfl)) (by rfl) (by rfl) ?_
    refine Ls.ev (some 58) (Ev.gtr (show Oper.op _ = Op.binOp BinOp.gtr 3 (Operand.tmp 57) (Operand.const (Value.int IntKind.i64 999999)) 3 from rfl) (by rfl) (by rfl)) (by rfl) (by rfl) ?_
    refine Ls.nil ?_
    refine Cd.cond_true (by rfl) (decide_eq_true (show (999999 : Int) < (s : Int) by omega)) ?_
    refine Cd.seq ?_
    refine Cd.region ?_
    refine Ls.ev (some 4) (Ev.assign (show Oper.op _ = Op.assign (Operand.const (Value.int IntKind.i64 5)) from rfl) (by rfl)) (by rfl) (by rfl) ?_
    refine Ls.nil ?_
    refine Cd.ret ?_
    refine Ent.ret (D) (⟨h, rfl, rfl⟩) (Res.tmp (by rfl) (by rfl)) ?_ [1, 2, 3, 4] (by rfl) ?_
    · rfl
    · rfl
  have hz : sizeL P ⟨s, false⟩ = (P.bytes (nameP s)).length := if_pos hs
  rw [hz]
  have hszl := size_sl h (nameP s) (nameP_good s).len
  have hbl : (P.bytes (nameP s)).length ≤ 262144 := by
    unfold DrP.bytes
    cases hf : P.find (nameP s) with
    | none => exact Nat.zero_le _
    | some f => exact h.ok.size _ (findG_some hf).1
  generalize (P.bytes (nameP s)).length = z at hszl hbl ⊢
  by_cases hroll : 0 < z ∧ 1024 < z + (sealL p).length
  · rw [if_pos hroll]
    have hr := roll_sl h g ⟨s, false⟩ hL
    have hrseg : (rollL P ⟨s, false⟩).2.1.seg ≤ 1000000 := by
      unfold rollL
      split
      · rw [syncL_seg]
        exact hL
      · show min _ _ + 1 ≤ _
        omega
    have hrd : (rollL P ⟨s, false⟩).2.2.2 = 0 → (rollL P ⟨s, false⟩).2.1.dead = false := rollL_alive rfl
    generalize rollL P ⟨s, false⟩ = r at hr hrseg hrd ⊢
    obtain ⟨Q, ⟨s2, b2⟩, nn, e⟩ := r
    dsimp only at hr hrseg hrd ⊢
    refine Fn.enter Tryz.func11 rfl Tryz.ntmps11 (by rfl) ?_
    intro w0
    refine Cd.seq ?_
    refine Cd.region ?_
    refine Ls.ev (some 4) (Ev.assign (show Oper.op _ = Op.assign (Operand.const (Value.int IntKind.i64 0)) from rfl) (by rfl)) (by rfl) (by rfl) ?_
    refine Ls.nil ?_
    refine Cd.seq ?_
    refine Cd.region ?_
    refine Ls.ev (some 11) (Ev.move (show Oper.op _ = Op.move (Operand.tmp 1) from rfl) (by rfl)) (by rfl) (by rfl) ?_
    refine Ls.does (some 12) (Does.readN (show Oper.op _ = Op.call { callee := Callee.value (Operand.func 30), args := #[Operand.tmp 11], argTypes := #[30] } from rfl) Tryz.func30 (by kernel_rfl) (by kernel_rfl) (seal_sl A c p hlong) (by rfl) (by rfl) ⟨ReadsIn.rd 5 (by rfl), trivial⟩ (fun _ => by rfl)) (by rfl) (by rfl) ?_
    rintro ⟨sA, sc⟩ -
    refine Ent.see 0 (by rfl) ?_
    refine Ls.ev (some 10) (Ev.move (show Oper.op _ = Op.move (Operand.tmp 12) from rfl) (by rfl)) (by rfl) (by rfl) ?_
    refine Ls.ev (some 13) (Ev.extract (show Oper.op _ = Op.extract (Operand.tmp 10) 0 from rfl) (by rfl) (by rfl)) (by rfl) (by rfl) ?_
    refine Ls.ev (some 14) (Ev.extract (show Oper.op _ = Op.extract (Operand.tmp 10) 1 from rfl) (by rfl) (by rfl)) (by rfl) (by rfl) ?_
    refine Ls.ev (some 5) (Ev.assign (show Oper.op _ = Op.assign (Operand.tmp 13) from rfl) (by rfl)) (by rfl) (by rfl) ?_
    refine Ls.ev (some 6) (Ev.assign (show Oper.op _ = Op.assign (Operand.tmp 14) from rfl) (by rfl)) (by rfl) (by rfl) ?_
    refine Ls.nil ?_
    refine Cd.seq ?_
    refine Cd.seq ?_
    refine Cd.region ?_
    refine Ls.ev (some 15) (Ev.move (show Oper.op _ = Op.move (Operand.tmp 6) from rfl) (by rfl)) (by rfl) (by rfl) ?_
    refine Ls.ev (some 16) (Ev.neq (show Oper.op _ = Op.binOp BinOp.neq 27 (Operand.tmp 15) (Operand.const (Value.int IntKind.i64 0)) 27 from rfl) (by rfl) (by rfl)) (by rfl) (by rfl) ?_
    refine Ls.nil ?_
    refine Cd.cond_false (by rfl) (decide_eq_false (show ¬ ((0 : Int) ≠ 0) from fun h => h rfl)) ?_
    refine Cd.skip ?_
    refine Cd.seq ?_
    refine Cd.seq ?_
    refine Cd.region ?_
    refine Ls.ev (some 18) (Ev.move (show Oper.op _ = Op.move (Operand.tmp 0) from rfl) (by rfl)) (by rfl) (by rfl) ?_
    refine Ls.ev (some 19) (Ev.nilCheck (show Oper.op _ = Op.nilCheck (Operand.tmp 18) from rfl) (by rfl)) (by rfl) (by rfl) ?_
    refine Ls.ev (some 20) (Ev.fieldAddr (k := 2) (show Oper.op _ = Op.fieldAddr 70 (Operand.tmp 19) 2 from rfl) (by rfl) (by kernel_rfl) (by rfl)) (by rfl) (by rfl) ?_
    refine Ls.ev (some 21) (Ev.load 1 (show Oper.op _ = Op.load 4 (Operand.tmp 20) from rfl) (by rfl) (by rfl) (by kernel_rfl) (by rfl)) (by rfl) (by rfl) ?_
    refine Ls.nil ?_
    refine Cd.cond_false (by rfl) (rfl) ?_
    refine Cd.skip ?_
    refine Cd.seq ?_
    refine Cd.region ?_
    refine Ls.ev (some 7) (Ev.assign (show Oper.op _ = Op.assign (Operand.const (Value.int IntKind.i64 0)) from rfl) (by rfl)) (by rfl) (by rfl) ?_
    refine Ls.nil ?_
    refine Cd.seq ?_
    refine Cd.seq ?_
    refine Cd.region ?_
    refine Ls.ev (some 22) (Ev.move (show Oper.op _ = Op.move (Operand.tmp 0) from rfl) (by rfl)) (by rfl) (by rfl) ?_
    refine Ls.ev (some 23) (Ev.nilCheck (show Oper.op _ = Op.nilCheck (Operand.tmp 22) from rfl) (by rfl)) (by rfl) (by rfl) ?_
    refine Ls.ev (some 24) (Ev.fieldAddr (k := 1) (show Oper.op _ = Op.fieldAddr 70 (Operand.tmp 23) 1 from rfl) (by rfl) (by kernel_rfl) (by rfl)) (by rfl) (by rfl) ?_
    refine Ls.ev (some 25) (Ev.load 1 (show Oper.op _ = Op.load 3 (Operand.tmp 24) from rfl) (by rfl) (by rfl) (by kernel_rfl) (by rfl)) (by rfl) (by rfl) ?_
    refine Ls.ev (some 26) (Ev.leq (show Oper.op _ = Op.binOp BinOp.leq 3 (Operand.tmp 25) (Operand.const (Value.int IntKind.i64 999999)) 3 from rfl) (by rfl) (by rfl)) (by rfl) (by rfl) ?_
    refine Ls.nil ?_
    refine Cd.cond_true (by rfl) (decide_eq_true (show (s : Int) ≤ 999999 by omega)) ?_
    refine Cd.draw [] (by kernel_rfl) ?_
    refine Rg.ev 0 (by rfl) (fun _ h => h) (Ev.move (show Oper.op _ = Op.move (Operand.tmp 0) from rfl) (by rfl)) (by rfl) (some 27) (by rfl) (by kernel_rfl) (by kernel_rfl) (by kernel_rfl) (by kernel_rfl) ?_
    refine Rg.ev 1 (by rfl) (fun _ h => h) (Ev.nilCheck (show Oper.op _ = Op.nilCheck (Operand.tmp 27) from rfl) (by rfl)) (by rfl) (some 28) (by rfl) (by kernel_rfl) (by kernel_rfl) (by kernel_rfl) (by kernel_rfl) ?_
    refine Rg.ev 2 (by rfl) (fun _ h => h) (Ev.fieldAddr (k := 0) (show Oper.op _ = Op.fieldAddr 70 (Operand.tmp 28) 0 from rfl) (by rfl) (by kernel_rfl) (by rfl)) (by rfl) (some 29) (by rfl) (by kernel_rfl) (by kernel_rfl) (by kernel_rfl) (by kernel_rfl) ?_
    refine Rg.ev 3 (by rfl) (fun _ h => h) (Ev.load 1 (show Oper.op _ = Op.load 23 (Operand.tmp 29) from rfl) (by rfl) (by rfl) (by kernel_rfl) (by rfl)) (by rfl) (some 30) (by rfl) (by kernel_rfl) (by kernel_rfl) (by kernel_rfl) (by kernel_rfl) ?_
    refine Rg.ev 4 (by rfl) (fun _ h => h) (Ev.move (show Oper.op _ = Op.move (Operand.tmp 0) from rfl) (by rfl)) (by rfl) (some 31) (by rfl) (by kernel_rfl) (by kernel_rfl) (by kernel_rfl) (by kernel_rfl) ?_
    refine Rg.ev 5 (by rfl) (fun _ h => h) (Ev.nilCheck (show Oper.op _ = Op.nilCheck (Operand.tmp 31) from rfl) (by rfl)) (by rfl) (some 32) (by rfl) (by kernel_rfl) (by kernel_rfl) (by kernel_rfl) (by kernel_rfl) ?_
    refine Rg.ev 6 (by rfl) (fun _ h => h) (Ev.fieldAddr (k := 1) (show Oper.op _ = Op.fieldAddr 70 (Operand.tmp 32) 1 from rfl) (by rfl) (by kernel_rfl) (by rfl)) (by rfl) (some 33) (by rfl) (by kernel_rfl) (by kernel_rfl) (by kernel_rfl) (by kernel_rfl) ?_
    refine Rg.ev 7 (by rfl) (fun _ h => h) (Ev.load 1 (show Oper.op _ = Op.load 3 (Operand.tmp 33) from rfl) (by rfl) (by rfl) (by kernel_rfl) (by rfl)) (by rfl) (some 34) (by rfl) (by kernel_rfl) (by kernel_rfl) (by kernel_rfl) (by kernel_rfl) ?_
    refine Rg.does 8 (by rfl) (by kernel_rfl) (Does.read (show Oper.op _ = Op.call { callee := Callee.value (Operand.func 28), args := #[Operand.tmp 34], argTypes := #[3] } from rfl) Tryz.func28 (by kernel_rfl) (by kernel_rfl) (name_sl s (by omega)) (by rfl) (by rfl) ⟨laidIn 5 (by rfl), trivial⟩) (by rfl) (some 35) (by rfl) (by exact fun _ _ h => h) ?_
    rintro _ -
    skip
    refine Rg.does 9 (by rfl) (by kernel_rfl) (Does.read (show Oper.op _ = Op.call { callee := Callee.value (Operand.func 31), args := #[Operand.tmp 30, Operand.tmp 35], argTypes := #[23, 9] } from rfl) Tryz.func31 (by kernel_rfl) (by kernel_rfl) (hszl) (by rfl) (by rfl) ⟨blkIn 2 (by rfl), mapIn 3 (by rfl), filIn 4 (by rfl), trivial⟩) (by rfl) (some 36) (by rfl) (by exact fun _ _ h => h) ?_
    rintro _ -
    refine Rg.ev 10 (by rfl) (fun _ h => h) (Ev.assign (show Oper.op _ = Op.assign (Operand.tmp 36) from rfl) (by rfl)) (by rfl) (some 7) (by rfl) (by kernel_rfl) (by kernel_rfl) (by kernel_rfl) (by kernel_rfl) ?_
    refine Rg.done (by kernel_rfl) ?_ _
    refine Cd.seq ?_
    refine Cd.seq ?_
    refine Cd.region ?_
    refine Ls.ev (some 37) (Ev.move (show Oper.op _ = Op.move (Operand.tmp 7) from rfl) (by rfl)) (by rfl) (by rfl) ?_
    refine Ls.ev (some 38) (Ev.gtr (show Oper.op _ = Op.binOp BinOp.gtr 3 (Operand.tmp 37) (Operand.const (Value.int IntKind.i64 0)) 3 from rfl) (by rfl) (by rfl)) (by rfl) (by rfl) ?_
    refine Ls.ev (some 39) (Ev.move (show Oper.op _ = Op.move (Operand.tmp 38) from rfl) (by rfl)) (by rfl) (by rfl) ?_
    refine Ent.known 39 true (by rfl) (by exact (decide_eq_true (by omega))) ?_
    refine Ls.ev (some 40) (Ev.move (show Oper.op _ = Op.move (Operand.tmp 7) from rfl) (by rfl)) (by rfl) (by rfl) ?_
    refine Ls.ev (some 41) (Ev.move (show Oper.op _ = Op.move (Operand.tmp 5) from rfl) (by rfl)) (by rfl) (by rfl) ?_
    refine Ls.ev (some 42) (Ev.len (show Oper.op _ = Op.call { callee := Callee.builtin Builtin.len, args := #[Operand.tmp 41], argTypes := #[30] } from rfl) (by rfl) Tryz.underlying30) (by rfl) (by rfl) ?_
    refine Ls.ev (some 43) (Ev.addI (show Oper.op _ = Op.binOp BinOp.add 3 (Operand.tmp 40) (Operand.tmp 42) 3 from rfl) (by rfl) (by rfl) (by omega)) (by rfl) (by rfl) ?_
    refine Ls.ev (some 44) (Ev.gtr (show Oper.op _ = Op.binOp BinOp.gtr 3 (Operand.tmp 43) (Operand.const (Value.int IntKind.i64 1024)) 3 from rfl) (by rfl) (by rfl)) (by rfl) (by rfl) ?_
    refine Ls.ev (some 45) (Ev.pickT (show Oper.op _ = Op.pick (Operand.tmp 39) (Operand.tmp 44) (Operand.const (Value.bool false)) from rfl) (by rfl) (by rfl)) (by rfl) (by rfl) ?_
    refine Ls.nil ?_
    skip
    refine Cd.cond_true (by rfl) (decide_eq_true (by omega)) ?_
    refine Cd.seq ?_
    refine Cd.region ?_
    refine Ls.ev (some 47) (Ev.move (show Oper.op _ = Op.move (Operand.tmp 0) from rfl) (by rfl)) (by rfl) (by rfl) ?_
    refine Ls.does (some 48) (Does.call [1, 2, 3, 4, 5, 5, 0] (show Oper.op _ = Op.call { callee := Callee.value (Operand.func 32), args := #[Operand.tmp 47], argTypes := #[26] } from rfl) Tryz.func32 (by kernel_rfl) (by kernel_rfl) (hr) (by rfl) (by rfl) (by rfl)) (by rfl) (by rfl) ?_
    rintro D' ⟨h', hd, hm⟩
    refine Ls.ev (some 46) (Ev.move (show Oper.op _ = Op.move (Operand.tmp 48) from rfl) (by rfl)) (by rfl) (by rfl) ?_
    refine Ls.ev (some 49) (Ev.extract (show Oper.op _ = Op.extract (Operand.tmp 46) 0 from rfl) (by rfl) (by rfl)) (by rfl) (by rfl) ?_
    refine Ls.ev (some 50) (Ev.extract (show Oper.op _ = Op.extract (Operand.tmp 46) 1 from rfl) (by rfl) (by rfl)) (by rfl) (by rfl) ?_
    refine Ls.ev (some 8) (Ev.assign (show Oper.op _ = Op.assign (Operand.tmp 49) from rfl) (by rfl)) (by rfl) (by rfl) ?_
    refine Ls.ev (some 9) (Ev.assign (show Oper.op _ = Op.assign (Operand.tmp 50) from rfl) (by rfl)) (by rfl) (by rfl) ?_
    refine Ls.nil ?_
    refine Cd.seq ?_
    refine Cd.region ?_
    refine Ls.ev (some 51) (Ev.move (show Oper.op _ = Op.move (Operand.tmp 9) from rfl) (by rfl)) (by rfl) (by rfl) ?_
    refine Ls.ev (some 52) (Ev.neq (show Oper.op _ = Op.binOp BinOp.neq 27 (Operand.tmp 51) (Operand.const (Value.int IntKind.i64 0)) 27 from rfl) (by rfl) (by rfl)) (by rfl) (by rfl) ?_
    refine Ls.nil ?_
    by_cases he : e = 0
    rotate_left
    · skip
      rw [if_pos he]
      refine Cd.cond_true (by rfl) (decide_eq_true he) ?_
      refine Cd.seq ?_
      refine Cd.region ?_
      refine Ls.ev (some 53) (Ev.move (show Oper.op _ = Op.move (Operand.tmp 9) from rfl) (by rfl)) (by rfl) (by rfl) ?_
      refine Ls.ev (some 4) (Ev.assign (show Oper.op _ = Op.assign (Operand.tmp 53) from rfl) (by rfl)) (by rfl) (by rfl) ?_
      refine Ls.nil ?_
      refine Cd.ret ?_
      refine Ent.ret (D') (⟨h', hd, hm⟩) (Res.tmp (by rfl) (by rfl)) ?_ [0, 1, 2, 3] (by rfl) ?_
      · rfl
      · rfl
    skip
    rw [if_neg (fun h => h he)]
    obtain rfl := hrd he
    refine Cd.cond_false (by rfl) (decide_eq_false (show ¬ (e ≠ 0) from fun h => h he)) ?_
    refine Cd.skip ?_
    refine Cd.seq ?_
    refine Cd.seq ?_
    refine Cd.region ?_
    refine Ls.ev (some 54) (Ev.move (show Oper.op _ = Op.move (Operand.tmp 0) from rfl) (by rfl)) (by rfl) (by rfl) ?_
    refine Ls.ev (some 55) (Ev.nilCheck (show Oper.op _ = Op.nilCheck (Operand.tmp 54) from rfl) (by rfl)) (by rfl) (by rfl) ?_
    refine Ls.ev (some 56) (Ev.fieldAddr (k := 1) (show Oper.op _ = Op.fieldAddr 70 (Operand.tmp 55) 1 from rfl) (by rfl) (by kernel_rfl) (by rfl)) (by rfl) (by rfl) ?_
    refine Ls.ev (some 57) (Ev.load 0 (show Oper.op _ = Op.load 3 (Operand.tmp 56) from rfl) (by rfl) (by rfl) (by kernel_rfl) (by rfl)) (by rfl) (by rfl) ?_
    refine Ls.ev (some 58) (Ev.gtr (show Oper.op _ = Op.binOp BinOp.gtr 3 (Operand.tmp 57) (Operand.const (Value.int IntKind.i64 999999)) 3 from rfl) (by rfl) (by rfl)) (by rfl) (by rfl) ?_
    refine Ls.nil ?_
    unfold putL
    dsimp only
    by_cases hs2 : 999999 < s2
    · skip
      rw [if_pos hs2]
      refine Cd.cond_true (by rfl) (decide_eq_true (show (999999 : Int) < (s2 : Int) by omega)) ?_
      refine Cd.seq ?_
      refine Cd.region ?_
      refine Ls.ev (some 4) (Ev.assign (show Oper.op _ = Op.assign (Operand.const (Value.int IntKind.i64 5)) from rfl) (by rfl)) (by rfl) (by rfl) ?_
      refine Ls.nil ?_
      refine Cd.ret ?_
      refine Ent.ret (D') (⟨h', hd, hm⟩) (Res.tmp (by rfl) (by rfl)) ?_ [0, 1, 2, 3] (by rfl) ?_
      · rfl
      · rfl
    · skip
      rw [if_neg hs2]
      rw [← hd]
      refine Cd.cond_false (by rfl) (decide_eq_false (show ¬ ((999999 : Int) < (s2 : Int)) by omega)) ?_
      skip
      refine Cd.skip ?_
      refine Cd.seq ?_
      refine Cd.draw [11] (by kernel_rfl) ?_
      refine Rg.mv 0 (by rfl) (fun _ h => h) (show Oper.op _ = Op.move (Operand.tmp 0) from rfl) (by rfl) (by rfl) (some 59) (by rfl) (by kernel_rfl) (by kernel_rfl) (by kernel_rfl) (by kernel_rfl) ?_
      refine Rg.ev 1 (by rfl) (fun _ h => h) (Ev.move (show Oper.op _ = Op.move (Operand.tmp 0) from rfl) (by rfl)) (by rfl) (some 60) (by rfl) (by kernel_rfl) (by kernel_rfl) (by kernel_rfl) (by kernel_rfl) ?_
      refine Rg.ev 2 (by rfl) (fun _ h => h) (Ev.nilCheck (show Oper.op _ = Op.nilCheck (Operand.tmp 60) from rfl) (by rfl)) (by rfl) (some 61) (by rfl) (by kernel_rfl) (by kernel_rfl) (by kernel_rfl) (by kernel_rfl) ?_
      refine Rg.ev 3 (by rfl) (fun _ h => h) (Ev.fieldAddr (k := 0) (show Oper.op _ = Op.fieldAddr 70 (Operand.tmp 61) 0 from rfl) (by rfl) (by kernel_rfl) (by rfl)) (by rfl) (some 62) (by rfl) (by kernel_rfl) (by kernel_rfl) (by kernel_rfl) (by kernel_rfl) ?_
      refine Rg.ev 4 (by rfl) (fun _ h => h) (Ev.load 0 (show Oper.op _ = Op.load 23 (Operand.tmp 62) from rfl) (by rfl) (by rfl) (by kernel_rfl) (by rfl)) (by rfl) (some 63) (by rfl) (by kernel_rfl) (by kernel_rfl) (by kernel_rfl) (by kernel_rfl) ?_
      refine Rg.ev 5 (by rfl) (fun _ h => h) (Ev.move (show Oper.op _ = Op.move (Operand.tmp 0) from rfl) (by rfl)) (by rfl) (some 64) (by rfl) (by kernel_rfl) (by kernel_rfl) (by kernel_rfl) (by kernel_rfl) ?_
      refine Rg.ev 6 (by rfl) (fun _ h => h) (Ev.nilCheck (show Oper.op _ = Op.nilCheck (Operand.tmp 64) from rfl) (by rfl)) (by rfl) (some 65) (by rfl) (by kernel_rfl) (by kernel_rfl) (by kernel_rfl) (by kernel_rfl) ?_
      refine Rg.ev 7 (by rfl) (fun _ h => h) (Ev.fieldAddr (k := 1) (show Oper.op _ = Op.fieldAddr 70 (Operand.tmp 65) 1 from rfl) (by rfl) (by kernel_rfl) (by rfl)) (by rfl) (some 66) (by rfl) (by kernel_rfl) (by kernel_rfl) (by kernel_rfl) (by kernel_rfl) ?_
      refine Rg.ev 8 (by rfl) (fun _ h => h) (Ev.load 0 (show Oper.op _ = Op.load 3 (Operand.tmp 66) from rfl) (by rfl) (by rfl) (by kernel_rfl) (by rfl)) (by rfl) (some 67) (by rfl) (by kernel_rfl) (by kernel_rfl) (by kernel_rfl) (by kernel_rfl) ?_
      refine Rg.ev 10 (by rfl) (fun _ h => h) (Ev.move (show Oper.op _ = Op.move (Operand.tmp 5) from rfl) (by rfl)) (by rfl) (some 69) (by rfl) (by kernel_rfl) (by kernel_rfl) (by kernel_rfl) (by kernel_rfl) ?_
      refine Rg.does 9 (by rfl) (by kernel_rfl) (Does.read (show Oper.op _ = Op.call { callee := Callee.value (Operand.func 28), args := #[Operand.tmp 67], argTypes := #[3] } from rfl) Tryz.func28 (by kernel_rfl) (by kernel_rfl) (name_sl s2 (by omega)) (by rfl) (by rfl) ⟨laidIn 4 (by rfl), trivial⟩) (by rfl) (some 68) (by rfl) (by exact fun _ _ h => h) ?_
      rintro _ -
      skip
      refine Rg.tail 11 [12] (by rfl) (by kernel_rfl) (Does.call [1, 2, 3, 5, 0] (show Oper.op _ = Op.call { callee := Callee.value (Operand.func 34), args := #[Operand.tmp 63, Operand.tmp 68, Operand.tmp 69], argTypes := #[23, 9, 30] } from rfl) Tryz.func34 (by kernel_rfl) (by kernel_rfl) (append_sl h' (nameP s2) (nameP_good s2) sA sc (sealL p) (by omega)) (by rfl) (by rfl) (by rfl)) (by rfl) (some 70) (by rfl) (by kernel_rfl) (by kernel_rfl) ?_
      rintro E' ⟨h2, hd2, hm2⟩
      skip
      refine Rg.tail 12 [] (by rfl) (by kernel_rfl) (Does.call [3, 0, 1, 2] (show Oper.op _ = Op.call { callee := Callee.value (Operand.func 33), args := #[Operand.tmp 59, Operand.tmp 70], argTypes := #[26, 27] } from rfl) Tryz.func33 (by kernel_rfl) (by kernel_rfl) (done_sl g D'.d ⟨s2, false⟩ (Q.append (nameP s2) (sealL p)).2) (by rfl) (by rfl) (by rfl)) (by rfl) (some 71) (by rfl) (by kernel_rfl) (by kernel_rfl) ?_
      rintro _ -
      refine Rg.ev 13 (by rfl) (fun _ h => h) (Ev.assign (show Oper.op _ = Op.assign (Operand.tmp 71) from rfl) (by rfl)) (by rfl) (some 4) (by rfl) (by kernel_rfl) (by kernel_rfl) (by kernel_rfl) (by kernel_rfl) ?_
      refine Rg.done (by kernel_rfl) ?_ _
      refine Cd.ret ?_
      refine Ent.ret (E') (⟨h2, hd2, hm2.trans hm⟩) (Res.tmp (by rfl) (by rfl)) ?_ [0, 1, 2, 3] (by rfl) ?_
      · rfl
      · rfl
  · rw [if_neg hroll]
    unfold putL
    dsimp only
    rw [if_neg (by omega)]
    refine Fn.enter Tryz.func11 rfl Tryz.ntmps11 (by rfl) ?_
    intro w0
    refine Cd.seq ?_
    refine Cd.region ?_
    refine Ls.ev (some 4) (Ev.assign (show Oper.op _ = Op.assign (Operand.const (Value.int IntKind.i64 0)) from rfl) (by rfl)) (by rfl) (by rfl) ?_
    refine Ls.nil ?_
    refine Cd.seq ?_
    refine Cd.region ?_
    refine Ls.ev (some 11) (Ev.move (show Oper.op _ = Op.move (Operand.tmp 1) from rfl) (by rfl)) (by rfl) (by rfl) ?_
    refine Ls.does (some 12) (Does.readN (show Oper.op _ = Op.call { callee := Callee.value (Operand.func 30), args := #[Operand.tmp 11], argTypes := #[30] } from rfl) Tryz.func30 (by kernel_rfl) (by kernel_rfl) (seal_sl A c p hlong) (by rfl) (by rfl) ⟨ReadsIn.rd 5 (by rfl), trivial⟩ (fun _ => by rfl)) (by rfl) (by rfl) ?_
    rintro ⟨sA, sc⟩ -
    refine Ent.see 0 (by rfl) ?_
    refine Ls.ev (some 10) (Ev.move (show Oper.op _ = Op.move (Operand.tmp 12) from rfl) (by rfl)) (by rfl) (by rfl) ?_
    refine Ls.ev (some 13) (Ev.extract (show Oper.op _ = Op.extract (Operand.tmp 10) 0 from rfl) (by rfl) (by rfl)) (by rfl) (by rfl) ?_
    refine Ls.ev (some 14) (Ev.extract (show Oper.op _ = Op.extract (Operand.tmp 10) 1 from rfl) (by rfl) (by rfl)) (by rfl) (by rfl) ?_
    refine Ls.ev (some 5) (Ev.assign (show Oper.op _ = Op.assign (Operand.tmp 13) from rfl) (by rfl)) (by rfl) (by rfl) ?_
    refine Ls.ev (some 6) (Ev.assign (show Oper.op _ = Op.assign (Operand.tmp 14) from rfl) (by rfl)) (by rfl) (by rfl) ?_
    refine Ls.nil ?_
    refine Cd.seq ?_
    refine Cd.seq ?_
    refine Cd.region ?_
    refine Ls.ev (some 15) (Ev.move (show Oper.op _ = Op.move (Operand.tmp 6) from rfl) (by rfl)) (by rfl) (by rfl) ?_
    refine Ls.ev (some 16) (Ev.neq (show Oper.op _ = Op.binOp BinOp.neq 27 (Operand.tmp 15) (Operand.const (Value.int IntKind.i64 0)) 27 from rfl) (by rfl) (by rfl)) (by rfl) (by rfl) ?_
    refine Ls.nil ?_
    refine Cd.cond_false (by rfl) (decide_eq_false (show ¬ ((0 : Int) ≠ 0) from fun h => h rfl)) ?_
    refine Cd.skip ?_
    refine Cd.seq ?_
    refine Cd.seq ?_
    refine Cd.region ?_
    refine Ls.ev (some 18) (Ev.move (show Oper.op _ = Op.move (Operand.tmp 0) from rfl) (by rfl)) (by rfl) (by rfl) ?_
    refine Ls.ev (some 19) (Ev.nilCheck (show Oper.op _ = Op.nilCheck (Operand.tmp 18) from rfl) (by rfl)) (by rfl) (by rfl) ?_
    refine Ls.ev (some 20) (Ev.fieldAddr (k := 2) (show Oper.op _ = Op.fieldAddr 70 (Operand.tmp 19) 2 from rfl) (by rfl) (by kernel_rfl) (by rfl)) (by rfl) (by rfl) ?_
    refine Ls.ev (some 21) (Ev.load 1 (show Oper.op _ = Op.load 4 (Operand.tmp 20) from rfl) (by rfl) (by rfl) (by kernel_rfl) (by rfl)) (by rfl) (by rfl) ?_
    refine Ls.nil ?_
    refine Cd.cond_false (by rfl) (rfl) ?_
    refine Cd.skip ?_
    refine Cd.seq ?_
    refine Cd.region ?_
    refine Ls.ev (some 7) (Ev.assign (show Oper.op _ = Op.assign (Operand.const (Value.int IntKind.i64 0)) from rfl) (by rfl)) (by rfl) (by rfl) ?_
    refine Ls.nil ?_
    refine Cd.seq ?_
    refine Cd.seq ?_
    refine Cd.region ?_
    refine Ls.ev (some 22) (Ev.move (show Oper.op _ = Op.move (Operand.tmp 0) from rfl) (by rfl)) (by rfl) (by rfl) ?_
    refine Ls.ev (some 23) (Ev.nilCheck (show Oper.op _ = Op.nilCheck (Operand.tmp 22) from rfl) (by rfl)) (by rfl) (by rfl) ?_
    refine Ls.ev (some 24) (Ev.fieldAddr (k := 1) (show Oper.op _ = Op.fieldAddr 70 (Operand.tmp 23) 1 from rfl) (by rfl) (by kernel_rfl) (by rfl)) (by rfl) (by rfl) ?_
    refine Ls.ev (some 25) (Ev.load 1 (show Oper.op _ = Op.load 3 (Operand.tmp 24) from rfl) (by rfl) (by rfl) (by kernel_rfl) (by rfl)) (by rfl) (by rfl) ?_
    refine Ls.ev (some 26) (Ev.leq (show Oper.op _ = Op.binOp BinOp.leq 3 (Operand.tmp 25) (Operand.const (Value.int IntKind.i64 999999)) 3 from rfl) (by rfl) (by rfl)) (by rfl) (by rfl) ?_
    refine Ls.nil ?_
    refine Cd.cond_true (by rfl) (decide_eq_true (show (s : Int) ≤ 999999 by omega)) ?_
    refine Cd.draw [] (by kernel_rfl) ?_
    refine Rg.ev 0 (by rfl) (fun _ h => h) (Ev.move (show Oper.op _ = Op.move (Operand.tmp 0) from rfl) (by rfl)) (by rfl) (some 27) (by rfl) (by kernel_rfl) (by kernel_rfl) (by kernel_rfl) (by kernel_rfl) ?_
    refine Rg.ev 1 (by rfl) (fun _ h => h) (Ev.nilCheck (show Oper.op _ = Op.nilCheck (Operand.tmp 27) from rfl) (by rfl)) (by rfl) (some 28) (by rfl) (by kernel_rfl) (by kernel_rfl) (by kernel_rfl) (by kernel_rfl) ?_
    refine Rg.ev 2 (by rfl) (fun _ h => h) (Ev.fieldAddr (k := 0) (show Oper.op _ = Op.fieldAddr 70 (Operand.tmp 28) 0 from rfl) (by rfl) (by kernel_rfl) (by rfl)) (by rfl) (some 29) (by rfl) (by kernel_rfl) (by kernel_rfl) (by kernel_rfl) (by kernel_rfl) ?_
    refine Rg.ev 3 (by rfl) (fun _ h => h) (Ev.load 1 (show Oper.op _ = Op.load 23 (Operand.tmp 29) from rfl) (by rfl) (by rfl) (by kernel_rfl) (by rfl)) (by rfl) (some 30) (by rfl) (by kernel_rfl) (by kernel_rfl) (by kernel_rfl) (by kernel_rfl) ?_
    refine Rg.ev 4 (by rfl) (fun _ h => h) (Ev.move (show Oper.op _ = Op.move (Operand.tmp 0) from rfl) (by rfl)) (by rfl) (some 31) (by rfl) (by kernel_rfl) (by kernel_rfl) (by kernel_rfl) (by kernel_rfl) ?_
    refine Rg.ev 5 (by rfl) (fun _ h => h) (Ev.nilCheck (show Oper.op _ = Op.nilCheck (Operand.tmp 31) from rfl) (by rfl)) (by rfl) (some 32) (by rfl) (by kernel_rfl) (by kernel_rfl) (by kernel_rfl) (by kernel_rfl) ?_
    refine Rg.ev 6 (by rfl) (fun _ h => h) (Ev.fieldAddr (k := 1) (show Oper.op _ = Op.fieldAddr 70 (Operand.tmp 32) 1 from rfl) (by rfl) (by kernel_rfl) (by rfl)) (by rfl) (some 33) (by rfl) (by kernel_rfl) (by kernel_rfl) (by kernel_rfl) (by kernel_rfl) ?_
    refine Rg.ev 7 (by rfl) (fun _ h => h) (Ev.load 1 (show Oper.op _ = Op.load 3 (Operand.tmp 33) from rfl) (by rfl) (by rfl) (by kernel_rfl) (by rfl)) (by rfl) (some 34) (by rfl) (by kernel_rfl) (by kernel_rfl) (by kernel_rfl) (by kernel_rfl) ?_
    refine Rg.does 8 (by rfl) (by kernel_rfl) (Does.read (show Oper.op _ = Op.call { callee := Callee.value (Operand.func 28), args := #[Operand.tmp 34], argTypes := #[3] } from rfl) Tryz.func28 (by kernel_rfl) (by kernel_rfl) (name_sl s (by omega)) (by rfl) (by rfl) ⟨laidIn 5 (by rfl), trivial⟩) (by rfl) (some 35) (by rfl) (by exact fun _ _ h => h) ?_
    rintro _ -
    skip
    refine Rg.does 9 (by rfl) (by kernel_rfl) (Does.read (show Oper.op _ = Op.call { callee := Callee.value (Operand.func 31), args := #[Operand.tmp 30, Operand.tmp 35], argTypes := #[23, 9] } from rfl) Tryz.func31 (by kernel_rfl) (by kernel_rfl) (hszl) (by rfl) (by rfl) ⟨blkIn 2 (by rfl), mapIn 3 (by rfl), filIn 4 (by rfl), trivial⟩) (by rfl) (some 36) (by rfl) (by exact fun _ _ h => h) ?_
    rintro _ -
    refine Rg.ev 10 (by rfl) (fun _ h => h) (Ev.assign (show Oper.op _ = Op.assign (Operand.tmp 36) from rfl) (by rfl)) (by rfl) (some 7) (by rfl) (by kernel_rfl) (by kernel_rfl) (by kernel_rfl) (by kernel_rfl) ?_
    refine Rg.done (by kernel_rfl) ?_ _
    refine Cd.seq ?_
    refine Cd.seq ?_
    refine Cd.region ?_
    refine Ls.ev (some 37) (Ev.move (show Oper.op _ = Op.move (Operand.tmp 7) from rfl) (by rfl)) (by rfl) (by rfl) ?_
    refine Ls.ev (some 38) (Ev.gtr (show Oper.op _ = Op.binOp BinOp.gtr 3 (Operand.tmp 37) (Operand.const (Value.int IntKind.i64 0)) 3 from rfl) (by rfl) (by rfl)) (by rfl) (by rfl) ?_
    refine Ls.ev (some 39) (Ev.move (show Oper.op _ = Op.move (Operand.tmp 38) from rfl) (by rfl)) (by rfl) (by rfl) ?_
    refine Ent.pick [1, 2, 3, 4, 5, 0] (by rfl) ?_
    by_cases hz0 : z = 0
    · skip
      refine Ent.known 39 false (by rfl) (by exact (decide_eq_false (by omega))) ?_
      refine Ls.pass (some 40) (by rfl) (by rfl) ?_
      refine Ls.pass (some 41) (by rfl) (by rfl) ?_
      refine Ls.pass (some 42) (by rfl) (by rfl) ?_
      refine Ls.pass (some 43) (by rfl) (by rfl) ?_
      refine Ls.pass (some 44) (by rfl) (by rfl) ?_
      refine Ls.ev (some 45) (Ev.pickF (show Oper.op _ = Op.pick (Operand.tmp 39) (Operand.tmp 44) (Operand.const (Value.bool false)) from rfl) (by rfl) (by rfl)) (by rfl) (by rfl) ?_
      refine Ls.nil ?_
      skip
      refine Cd.cond_false (by rfl) (rfl) ?_
      refine Cd.skip ?_
      refine Cd.seq ?_
      refine Cd.seq ?_
      refine Cd.region ?_
      refine Ls.ev (some 54) (Ev.move (show Oper.op _ = Op.move (Operand.tmp 0) from rfl) (by rfl)) (by rfl) (by rfl) ?_
      refine Ls.ev (some 55) (Ev.nilCheck (show Oper.op _ = Op.nilCheck (Operand.tmp 54) from rfl) (by rfl)) (by rfl) (by rfl) ?_
      refine Ls.ev (some 56) (Ev.fieldAddr (k := 1) (show Oper.op _ = Op.fieldAddr 70 (Operand.tmp 55) 1 from rfl) (by rfl) (by kernel_rfl) (by rfl)) (by rfl) (by rfl) ?_
      refine Ls.ev (some 57) (Ev.load 0 (show Oper.op _ = Op.load 3 (Operand.tmp 56) from rfl) (by rfl) (by rfl) (by kernel_rfl) (by rfl)) (by rfl) (by rfl) ?_
      refine Ls.ev (some 58) (Ev.gtr (show Oper.op _ = Op.binOp BinOp.gtr 3 (Operand.tmp 57) (Operand.const (Value.int IntKind.i64 999999)) 3 from rfl) (by rfl) (by rfl)) (by rfl) (by rfl) ?_
      refine Ls.nil ?_
      refine Cd.cond_false (by rfl) (decide_eq_false (show ¬ ((999999 : Int) < (s : Int)) by omega)) ?_
      skip
      refine Cd.skip ?_
      refine Cd.seq ?_
      refine Cd.draw [11] (by kernel_rfl) ?_
      refine Rg.mv 0 (by rfl) (fun _ h => h) (show Oper.op _ = Op.move (Operand.tmp 0) from rfl) (by rfl) (by rfl) (some 59) (by rfl) (by kernel_rfl) (by kernel_rfl) (by kernel_rfl) (by kernel_rfl) ?_
      refine Rg.ev 1 (by rfl) (fun _ h => h) (Ev.move (show Oper.op _ = Op.move (Operand.tmp 0) from rfl) (by rfl)) (by rfl) (some 60) (by rfl) (by kernel_rfl) (by kernel_rfl) (by kernel_rfl) (by kernel_rfl) ?_
      refine Rg.ev 2 (by rfl) (fun _ h => h) (Ev.nilCheck (show Oper.op _ = Op.nilCheck (Operand.tmp 60) from rfl) (by rfl)) (by rfl) (some 61) (by rfl) (by kernel_rfl) (by kernel_rfl) (by kernel_rfl) (by kernel_rfl) ?_
      refine Rg.ev 3 (by rfl) (fun _ h => h) (Ev.fieldAddr (k := 0) (show Oper.op _ = Op.fieldAddr 70 (Operand.tmp 61) 0 from rfl) (by rfl) (by kernel_rfl) (by rfl)) (by rfl) (some 62) (by rfl) (by kernel_rfl) (by kernel_rfl) (by kernel_rfl) (by kernel_rfl) ?_
      refine Rg.ev 4 (by rfl) (fun _ h => h) (Ev.load 0 (show Oper.op _ = Op.load 23 (Operand.tmp 62) from rfl) (by rfl) (by rfl) (by kernel_rfl) (by rfl)) (by rfl) (some 63) (by rfl) (by kernel_rfl) (by kernel_rfl) (by kernel_rfl) (by kernel_rfl) ?_
      refine Rg.ev 5 (by rfl) (fun _ h => h) (Ev.move (show Oper.op _ = Op.move (Operand.tmp 0) from rfl) (by rfl)) (by rfl) (some 64) (by rfl) (by kernel_rfl) (by kernel_rfl) (by kernel_rfl) (by kernel_rfl) ?_
      refine Rg.ev 6 (by rfl) (fun _ h => h) (Ev.nilCheck (show Oper.op _ = Op.nilCheck (Operand.tmp 64) from rfl) (by rfl)) (by rfl) (some 65) (by rfl) (by kernel_rfl) (by kernel_rfl) (by kernel_rfl) (by kernel_rfl) ?_
      refine Rg.ev 7 (by rfl) (fun _ h => h) (Ev.fieldAddr (k := 1) (show Oper.op _ = Op.fieldAddr 70 (Operand.tmp 65) 1 from rfl) (by rfl) (by kernel_rfl) (by rfl)) (by rfl) (some 66) (by rfl) (by kernel_rfl) (by kernel_rfl) (by kernel_rfl) (by kernel_rfl) ?_
      refine Rg.ev 8 (by rfl) (fun _ h => h) (Ev.load 0 (show Oper.op _ = Op.load 3 (Operand.tmp 66) from rfl) (by rfl) (by rfl) (by kernel_rfl) (by rfl)) (by rfl) (some 67) (by rfl) (by kernel_rfl) (by kernel_rfl) (by kernel_rfl) (by kernel_rfl) ?_
      refine Rg.ev 10 (by rfl) (fun _ h => h) (Ev.move (show Oper.op _ = Op.move (Operand.tmp 5) from rfl) (by rfl)) (by rfl) (some 69) (by rfl) (by kernel_rfl) (by kernel_rfl) (by kernel_rfl) (by kernel_rfl) ?_
      refine Rg.does 9 (by rfl) (by kernel_rfl) (Does.read (show Oper.op _ = Op.call { callee := Callee.value (Operand.func 28), args := #[Operand.tmp 67], argTypes := #[3] } from rfl) Tryz.func28 (by kernel_rfl) (by kernel_rfl) (name_sl s (by omega)) (by rfl) (by rfl) ⟨laidIn 4 (by rfl), trivial⟩) (by rfl) (some 68) (by rfl) (by exact fun _ _ h => h) ?_
      rintro _ -
      skip
      refine Rg.tail 11 [12] (by rfl) (by kernel_rfl) (Does.call [1, 2, 3, 5, 0] (show Oper.op _ = Op.call { callee := Callee.value (Operand.func 34), args := #[Operand.tmp 63, Operand.tmp 68, Operand.tmp 69], argTypes := #[23, 9, 30] } from rfl) Tryz.func34 (by kernel_rfl) (by kernel_rfl) (append_sl h (nameP s) (nameP_good s) sA sc (sealL p) (by omega)) (by rfl) (by rfl) (by rfl)) (by rfl) (some 70) (by rfl) (by kernel_rfl) (by kernel_rfl) ?_
      rintro E' ⟨h2, hd2, hm2⟩
      skip
      refine Rg.tail 12 [] (by rfl) (by kernel_rfl) (Does.call [3, 0, 1, 2] (show Oper.op _ = Op.call { callee := Callee.value (Operand.func 33), args := #[Operand.tmp 59, Operand.tmp 70], argTypes := #[26, 27] } from rfl) Tryz.func33 (by kernel_rfl) (by kernel_rfl) (done_sl g D.d ⟨s, false⟩ (P.append (nameP s) (sealL p)).2) (by rfl) (by rfl) (by rfl)) (by rfl) (some 71) (by rfl) (by kernel_rfl) (by kernel_rfl) ?_
      rintro _ -
      refine Rg.ev 13 (by rfl) (fun _ h => h) (Ev.assign (show Oper.op _ = Op.assign (Operand.tmp 71) from rfl) (by rfl)) (by rfl) (some 4) (by rfl) (by kernel_rfl) (by kernel_rfl) (by kernel_rfl) (by kernel_rfl) ?_
      refine Rg.done (by kernel_rfl) ?_ _
      refine Cd.ret ?_
      refine Ent.ret (E') (⟨h2, hd2, hm2⟩) (Res.tmp (by rfl) (by rfl)) ?_ [0, 1, 2, 3] (by rfl) ?_
      · rfl
      · rfl
    · skip
      refine Ent.known 39 true (by rfl) (by exact (decide_eq_true (by omega))) ?_
      refine Ls.ev (some 40) (Ev.move (show Oper.op _ = Op.move (Operand.tmp 7) from rfl) (by rfl)) (by rfl) (by rfl) ?_
      refine Ls.ev (some 41) (Ev.move (show Oper.op _ = Op.move (Operand.tmp 5) from rfl) (by rfl)) (by rfl) (by rfl) ?_
      refine Ls.ev (some 42) (Ev.len (show Oper.op _ = Op.call { callee := Callee.builtin Builtin.len, args := #[Operand.tmp 41], argTypes := #[30] } from rfl) (by rfl) Tryz.underlying30) (by rfl) (by rfl) ?_
      refine Ls.ev (some 43) (Ev.addI (show Oper.op _ = Op.binOp BinOp.add 3 (Operand.tmp 40) (Operand.tmp 42) 3 from rfl) (by rfl) (by rfl) (by omega)) (by rfl) (by rfl) ?_
      refine Ls.ev (some 44) (Ev.gtr (show Oper.op _ = Op.binOp BinOp.gtr 3 (Operand.tmp 43) (Operand.const (Value.int IntKind.i64 1024)) 3 from rfl) (by rfl) (by rfl)) (by rfl) (by rfl) ?_
      refine Ls.ev (some 45) (Ev.pickT (show Oper.op _ = Op.pick (Operand.tmp 39) (Operand.tmp 44) (Operand.const (Value.bool false)) from rfl) (by rfl) (by rfl)) (by rfl) (by rfl) ?_
      refine Ls.nil ?_
      skip
      refine Cd.cond_false (by rfl) (decide_eq_false (by omega)) ?_
      refine Cd.skip ?_
      refine Cd.seq ?_
      refine Cd.seq ?_
      refine Cd.region ?_
      refine Ls.ev (some 54) (Ev.move (show Oper.op _ = Op.move (Operand.tmp 0) from rfl) (by rfl)) (by rfl) (by rfl) ?_
      refine Ls.ev (some 55) (Ev.nilCheck (show Oper.op _ = Op.nilCheck (Operand.tmp 54) from rfl) (by rfl)) (by rfl) (by rfl) ?_
      refine Ls.ev (some 56) (Ev.fieldAddr (k := 1) (show Oper.op _ = Op.fieldAddr 70 (Operand.tmp 55) 1 from rfl) (by rfl) (by kernel_rfl) (by rfl)) (by rfl) (by rfl) ?_
      refine Ls.ev (some 57) (Ev.load 0 (show Oper.op _ = Op.load 3 (Operand.tmp 56) from rfl) (by rfl) (by rfl) (by kernel_rfl) (by rfl)) (by rfl) (by rfl) ?_
      refine Ls.ev (some 58) (Ev.gtr (show Oper.op _ = Op.binOp BinOp.gtr 3 (Operand.tmp 57) (Operand.const (Value.int IntKind.i64 999999)) 3 from rfl) (by rfl) (by rfl)) (by rfl) (by rfl) ?_
      refine Ls.nil ?_
      refine Cd.cond_false (by rfl) (decide_eq_false (show ¬ ((999999 : Int) < (s : Int)) by omega)) ?_
      skip
      refine Cd.skip ?_
      refine Cd.seq ?_
      refine Cd.draw [11] (by kernel_rfl) ?_
      refine Rg.mv 0 (by rfl) (fun _ h => h) (show Oper.op _ = Op.move (Operand.tmp 0) from rfl) (by rfl) (by rfl) (some 59) (by rfl) (by kernel_rfl) (by kernel_rfl) (by kernel_rfl) (by kernel_rfl) ?_
      refine Rg.ev 1 (by rfl) (fun _ h => h) (Ev.move (show Oper.op _ = Op.move (Operand.tmp 0) from rfl) (by rfl)) (by rfl) (some 60) (by rfl) (by kernel_rfl) (by kernel_rfl) (by kernel_rfl) (by kernel_rfl) ?_
      refine Rg.ev 2 (by rfl) (fun _ h => h) (Ev.nilCheck (show Oper.op _ = Op.nilCheck (Operand.tmp 60) from rfl) (by rfl)) (by rfl) (some 61) (by rfl) (by kernel_rfl) (by kernel_rfl) (by kernel_rfl) (by kernel_rfl) ?_
      refine Rg.ev 3 (by rfl) (fun _ h => h) (Ev.fieldAddr (k := 0) (show Oper.op _ = Op.fieldAddr 70 (Operand.tmp 61) 0 from rfl) (by rfl) (by kernel_rfl) (by rfl)) (by rfl) (some 62) (by rfl) (by kernel_rfl) (by kernel_rfl) (by kernel_rfl) (by kernel_rfl) ?_
      refine Rg.ev 4 (by rfl) (fun _ h => h) (Ev.load 0 (show Oper.op _ = Op.load 23 (Operand.tmp 62) from rfl) (by rfl) (by rfl) (by kernel_rfl) (by rfl)) (by rfl) (some 63) (by rfl) (by kernel_rfl) (by kernel_rfl) (by kernel_rfl) (by kernel_rfl) ?_
      refine Rg.ev 5 (by rfl) (fun _ h => h) (Ev.move (show Oper.op _ = Op.move (Operand.tmp 0) from rfl) (by rfl)) (by rfl) (some 64) (by rfl) (by kernel_rfl) (by kernel_rfl) (by kernel_rfl) (by kernel_rfl) ?_
      refine Rg.ev 6 (by rfl) (fun _ h => h) (Ev.nilCheck (show Oper.op _ = Op.nilCheck (Operand.tmp 64) from rfl) (by rfl)) (by rfl) (some 65) (by rfl) (by kernel_rfl) (by kernel_rfl) (by kernel_rfl) (by kernel_rfl) ?_
      refine Rg.ev 7 (by rfl) (fun _ h => h) (Ev.fieldAddr (k := 1) (show Oper.op _ = Op.fieldAddr 70 (Operand.tmp 65) 1 from rfl) (by rfl) (by kernel_rfl) (by rfl)) (by rfl) (some 66) (by rfl) (by kernel_rfl) (by kernel_rfl) (by kernel_rfl) (by kernel_rfl) ?_
      refine Rg.ev 8 (by rfl) (fun _ h => h) (Ev.load 0 (show Oper.op _ = Op.load 3 (Operand.tmp 66) from rfl) (by rfl) (by rfl) (by kernel_rfl) (by rfl)) (by rfl) (some 67) (by rfl) (by kernel_rfl) (by kernel_rfl) (by kernel_rfl) (by kernel_rfl) ?_
      refine Rg.ev 10 (by rfl) (fun _ h => h) (Ev.move (show Oper.op _ = Op.move (Operand.tmp 5) from rfl) (by rfl)) (by rfl) (some 69) (by rfl) (by kernel_rfl) (by kernel_rfl) (by kernel_rfl) (by kernel_rfl) ?_
      refine Rg.does 9 (by rfl) (by kernel_rfl) (Does.read (show Oper.op _ = Op.call { callee := Callee.value (Operand.func 28), args := #[Operand.tmp 67], argTypes := #[3] } from rfl) Tryz.func28 (by kernel_rfl) (by kernel_rfl) (name_sl s (by omega)) (by rfl) (by rfl) ⟨laidIn 4 (by rfl), trivial⟩) (by rfl) (some 68) (by rfl) (by exact fun _ _ h => h) ?_
      rintro _ -
      skip
      refine Rg.tail 11 [12] (by rfl) (by kernel_rfl) (Does.call [1, 2, 3, 5, 0] (show Oper.op _ = Op.call { callee := Callee.value (Operand.func 34), args := #[Operand.tmp 63, Operand.tmp 68, Operand.tmp 69], argTypes := #[23, 9, 30] } from rfl) Tryz.func34 (by kernel_rfl) (by kernel_rfl) (append_sl h (nameP s) (nameP_good s) sA sc (sealL p) (by omega)) (by rfl) (by rfl) (by rfl)) (by rfl) (some 70) (by rfl) (by kernel_rfl) (by kernel_rfl) ?_
      rintro E' ⟨h2, hd2, hm2⟩
      skip
      refine Rg.tail 12 [] (by rfl) (by kernel_rfl) (Does.call [3, 0, 1, 2] (show Oper.op _ = Op.call { callee := Callee.value (Operand.func 33), args := #[Operand.tmp 59, Operand.tmp 70], argTypes := #[26, 27] } from rfl) Tryz.func33 (by kernel_rfl) (by kernel_rfl) (done_sl g D.d ⟨s, false⟩ (P.append (nameP s) (sealL p)).2) (by rfl) (by rfl) (by rfl)) (by rfl) (some 71) (by rfl) (by kernel_rfl) (by kernel_rfl) ?_
      rintro _ -
      refine Rg.ev 13 (by rfl) (fun _ h => h) (Ev.assign (show Oper.op _ = Op.assign (Operand.tmp 71) from rfl) (by rfl)) (by rfl) (some 4) (by rfl) (by kernel_rfl) (by kernel_rfl) (by kernel_rfl) (by kernel_rfl) ?_
      refine Rg.done (by kernel_rfl) ?_ _
      refine Cd.ret ?_
      refine Ent.ret (E') (⟨h2, hd2, hm2⟩) (Res.tmp (by rfl) (by rfl)) ?_ [0, 1, 2, 3] (by rfl) ?_
      · rfl
      · rfl
end Go.Proofs.YtceanciekadkeaaGreatDoor
/- slices of slices of bytes, over pieces -/
namespace Go.Proofs.YtceanciekadkeaaGreatDoor
open Go.RowKit
/-- A slice of bytes as it lies. -/
structure ByS where
  A : Option Addr
  c : Nat
  l : List UInt8
  deriving Inhabited
abbrev ByS.v (s : ByS) : Value := .slice s.A s.l.length s.c
abbrev ByS.R (s : ByS) : Chunk := row s.A s.l.length s.c 5 1 (u8s s.l)
abbrev ByS.r (s : ByS) : Chunk := rd s.A s.l.length 1 (u8s s.l)
abbrev payW (A : Option Addr) (c : Nat) (S : List ByS) : Chunk := row A S.length c 30 1 (S.map ByS.v)
abbrev payX (S : List ByS) : Chunk := starx (S.map ByS.R)
abbrev rdV (A : Option Addr) (S : List ByS) : Chunk := rd A S.length 1 (S.map ByS.v)
abbrev payR (S : List ByS) : Chunk := stars (S.map ByS.r)
theorem payIn {Γ : Ctx} {H : List Chunk} {S : List ByS} (i : Nat) (hi : H[i]? = some (payX S)) : ∀ w, Sat Γ H w → (payR S).holds w := fun w hs C hC => by
  have hw := hs.mem hi
  obtain ⟨s, hsm, rfl⟩ := List.mem_map.1 hC
  exact ⟨rfl, row_rd.1 w (hw.1 s.R (List.mem_map_of_mem hsm))⟩
theorem rpayIn {Γ : Ctx} {H : List Chunk} {S : List ByS} (i : Nat) (hi : H[i]? = some (payR S)) : ∀ w, Sat Γ H w → (payR S).holds w := fun _ hs => hs.mem hi
theorem Ev.loadV {Γ : Ctx} {N : Frm} {P : Program} {E : Env} {H : List Chunk} {o : Oper} {x : Operand} {t n k : Nat} {ad : Addr} {S : List ByS} {s : ByS} (ho : o.op = .load t x) (hx : E.ev x = some (.pointer (some (ad.add (k * 1))))) (hi : ReadsIn Γ H 1 (some ad) n (S.map ByS.v)) (ht : one P t = true) (hu : S[k]? = some s) : Ev Γ N P E H o s.v :=
  .loadOf ho hx fun w hs => by
    have hh : Reads w w.heap.size 1 (some ad) n (S.map ByS.v) := hi w hs
    have hk : k < S.length := (List.getElem?_eq_some_iff.1 hu).1
    have := hh.1
    exact run_loadVar_one ht (rd_cell hh (by simp at this; omega) (show (S.map ByS.v)[k * 1]? = some s.v by rw [Nat.mul_one, List.getElem?_map, hu]; rfl))
theorem payGet {Γ : Ctx} {H : List Chunk} {w : World} {S : List ByS} {s : ByS} (i : Nat) (hi : H[i]? = some (payR S)) (hs : s ∈ S) (h : Sat Γ H w) : Sat Γ (s.r :: H) w := Sat.stars_get hi (List.mem_map_of_mem hs) h
theorem paySee {Γ : Ctx} {H : List Chunk} {w : World} {S : List ByS} (i : Nat) (hi : H[i]? = some (payX S)) (h : Sat Γ H w) : Sat Γ (H.set i (payR S)) w := h.see hi rfl (fun w hw C hC => by
    obtain ⟨s, hsm, rfl⟩ := List.mem_map.1 hC
    exact ⟨rfl, row_rd.1 w (hw.1 s.R (List.mem_map_of_mem hsm))⟩) (fun k ⟨C, hC, hk⟩ => by
    obtain ⟨s, hsm, rfl⟩ := List.mem_map.1 hC
    exact ⟨s.R, List.mem_map_of_mem hsm, hk.2⟩)
end Go.Proofs.YtceanciekadkeaaGreatDoor
/- walks: frame.Scan over pieces; wal.Open -/
namespace Go.Proofs.YtceanciekadkeaaGreatDoor
open Go.RowKit
theorem rows_of {w : World} {base : Nat} : ∀ {vs : List Value} {ls : List (List UInt8)}, OwnRows w base vs ls → ∃ S : List ByS, S.map ByS.l = ls ∧ S.map ByS.v = vs ∧ (∀ s ∈ S, Own w base 5 1 s.A s.l.length s.c (u8s s.l))
  | [], [], _ => ⟨[], rfl, rfl, fun _ h => absurd h List.not_mem_nil⟩
  | [], _ :: _, h => absurd h.len (by simp)
  | _ :: _, [], h => absurd h.len (by simp)
  | v :: vs, l :: ls, h => by
    obtain ⟨A, c, rfl, ho⟩ := h.row 0 v l rfl rfl
    obtain ⟨S, h1, h2, h3⟩ := rows_of (vs := vs) (ls := ls) ⟨by simpa using h.len, fun i v' l' hv hl => h.row (i + 1) v' l' (by simpa using hv) (by simpa using hl), fun i j v1 v2 g g' hij hv hv' => h.apart (i + 1) (j + 1) v1 v2 g g' (by omega) (by simpa using hv) (by simpa using hv')⟩
    exact ⟨⟨A, c, l⟩ :: S, by rw [List.map_cons, h1], by rw [List.map_cons, h2], fun s hs => (List.mem_cons.1 hs).elim (fun e => e ▸ ho) (h3 s)⟩
theorem sat_rows {w w' : World} {H : List Chunk} {A : Option Addr} {c : Nat} {vs : List Value} {ls : List (List UInt8)} (hb : Below w.heap.size w w') (ho : Own w' w.heap.size 30 1 A ls.length c vs) (hr : OwnRows w' w.heap.size vs ls) :
    ∃ S : List ByS, S.map ByS.l = ls ∧ Sat ⟨w, H⟩ [payW A c S, payX S] w' := by
  obtain ⟨S, rfl, rfl, h3⟩ := rows_of hr
  rw [List.length_map] at ho
  have hap : (S.map ByS.R).Pairwise apart := by
    rw [List.pairwise_iff_getElem]
    intro i j hi hj hij _ k hk hk'
    rw [List.length_map] at hi hj
    rw [List.getElem_map] at hk hk'
    have := hr.apart i j _ _ k k hij (show (S.map ByS.v)[i]? = some S[i].v by rw [List.getElem?_map, List.getElem?_eq_getElem hi]; rfl) (show (S.map ByS.v)[j]? = some S[j].v by rw [List.getElem?_map, List.getElem?_eq_getElem hj]; rfl) hk hk'
    exact absurd this (Nat.lt_irrefl _)
  refine ⟨S, rfl, Upd.of_below hb, ⟨fun D hD => ?_, List.pairwise_pair.2 fun _ k hk hk' => ?_⟩, fun D hD => ?_⟩
  · rcases List.mem_cons.1 hD with rfl | hD
    · exact ho.mono (Nat.zero_le _)
    · obtain rfl := List.mem_singleton.1 hD
      refine ⟨fun C hC => ?_, hap⟩
      obtain ⟨s, hs, rfl⟩ := List.mem_map.1 hC
      exact (h3 s hs).mono (Nat.zero_le _)
  · obtain ⟨C, hC, hk'⟩ := hk'
    obtain ⟨s, hs, rfl⟩ := List.mem_map.1 hC
    exact hr.off ho (by decide) (List.mem_map_of_mem hs) k hk' hk
  · rcases List.mem_cons.1 hD with rfl | hD
    · intro k hk hlt
      have := (ho.ge k hk).1
      dsimp only at hlt
      omega
    · obtain rfl := List.mem_singleton.1 hD
      rintro k ⟨C, hC, hk⟩ hlt
      obtain ⟨s, hs, rfl⟩ := List.mem_map.1 hC
      have := ((h3 s hs).ge k hk).1
      dsimp only at hlt
      omega
theorem scan_sl (A : Option Addr) (c : Nat) (l : List UInt8) (hl : l.length ≤ 1048576) (hc : l.length ≤ c ∧ c ≤ maxLen) : Fn Tryz.prog 29 #[.slice A l.length c] [rdB A l] ((Option Addr × Nat) × List ByS) (fun p => .tuple #[.slice p.1.1 p.2.length p.1.2, .int .i64 (scanF l).2]) (fun p => [payW p.1.1 p.1.2 p.2, payX p.2]) (fun p => p.2.map ByS.l = (scanF l).1) := fun w hs => by
  refine (scan_any A l.length c l w (sat_rd 0 rfl hs) hc.1 hc.2 (by omega)).mono ?_
  rintro e w' ⟨D, d, vs, rfl, ho, hr, hb⟩
  obtain ⟨S, h1, h2⟩ := sat_rows (H := [rdB A l]) hb ho hr
  refine ⟨((D, d), S), h1, ?_, h2⟩
  dsimp only
  rw [← h1, List.length_map]
section
variable {Γ : Ctx} {H : List Chunk} {w : World}
theorem starx_join {a b : List Chunk} (ha : ∀ C ∈ a, C.excl = true) (hb : ∀ C ∈ b, C.excl = true) (h : Sat Γ (starx a :: starx b :: H) w) : Sat Γ (starx (a ++ b) :: H) w := by
  have h1 := Sat.starx_open h
  have h2 : Sat Γ (starx b :: (a ++ H)) w := h1.perm (by
    show (a ++ ([starx b] ++ H)).Perm ([starx b] ++ (a ++ H))
    exact List.perm_append_comm_assoc _ _ _)
  have h3 := Sat.starx_open h2
  refine Sat.starx_close (fun C hC => (List.mem_append.1 hC).elim (ha C) (hb C)) (h3.perm ?_)
  rw [List.append_assoc]
  exact List.perm_append_comm_assoc _ _ _
theorem pay_join {a b : List ByS} (h : Sat Γ (payX a :: payX b :: H) w) : Sat Γ (payX (a ++ b) :: H) w := by
  show Sat Γ (starx ((a ++ b).map ByS.R) :: H) w
  rw [List.map_append]
  exact starx_join (fun C hC => by obtain ⟨_, _, rfl⟩ := List.mem_map.1 hC; rfl) (fun C hC => by obtain ⟨_, _, rfl⟩ := List.mem_map.1 hC; rfl) h
end
theorem elem_pay : Elem Tryz.prog 22 30 1 24 := elem_of (by kernel_rfl)
theorem one_pay (S : List ByS) : ∀ u ∈ S.map ByS.v, u.oneCell' = true := fun u hu => by
  obtain ⟨x, _, rfl⟩ := List.mem_map.1 hu
  rfl
theorem payN_snoc (P : DrP) (fr : Nat) (ns : List Nat) (n : Nat) : payN P fr (ns ++ [n]) = payN P fr ns ++ if fr ≤ n then P.segB n else [] := by
  unfold payN
  rw [List.flatMap_append, List.flatMap_singleton]
theorem open_bad (d : Value) (fr : Int) (hf : fr < 1 ∨ 999999 < fr) : Fn Tryz.prog 9 #[d, .int .i64 fr] [] Unit (fun _ => .tuple #[.pointer none, .slice none 0 0, .int .i64 1]) (fun _ => []) (fun _ => True) := by
  refine Fn.enter Tryz.func9 rfl Tryz.ntmps9 (by rfl) ?_
  intro w0
  refine Cd.seq ?_
  refine Cd.region ?_
  refine Ls.ev (some 4) (Ev.assign (show Oper.op _ = Op.assign (Operand.const (Value.pointer none)) from rfl) (by rfl)) (by rfl) (by rfl) ?_
  refine Ls.ev (some 5) (Ev.assign (show Oper.op _ = Op.assign (Operand.const (Value.slice none 0 0)) from rfl) (by rfl)) (by rfl) (by rfl) ?_
  refine Ls.ev (some 6) (Ev.assign (show Oper.op _ = Op.assign (Operand.const (Value.int IntKind.i64 0)) from rfl) (by rfl)) (by rfl) (by rfl) ?_
  refine Ls.nil ?_
  refine Cd.seq ?_
  refine Cd.seq ?_
  refine Cd.region ?_
  refine Ls.ev (some 15) (Ev.move (show Oper.op _ = Op.move (Operand.tmp 1) from rfl) (by rfl)) (by rfl) (by rfl) ?_
  refine Ls.ev (some 16) (Ev.lss (show Oper.op _ = Op.binOp BinOp.lss 3 (Operand.tmp 15) (Operand.const (Value.int IntKind.i64 1)) 3 from rfl) (by rfl) (by rfl)) (by rfl) (by rfl) ?_
  refine Ls.ev (some 17) (Ev.move (show Oper.op _ = Op.move (Operand.tmp 16) from rfl) (by rfl)) (by rfl) (by rfl) ?_
  by_cases h1 : fr < 1
  · skip
    refine Ent.known 17 true (by rfl) (by exact (decide_eq_true h1)) ?_
    refine Ls.pass (some 18) (by rfl) (by rfl) ?_
    refine Ls.pass (some 19) (by rfl) (by rfl) ?_
    refine Ls.ev (some 20) (Ev.pickT (show Oper.op _ = Op.pick (Operand.tmp 17) (Operand.const (Value.bool true)) (Operand.tmp 19) from rfl) (by rfl) (by rfl)) (by rfl) (by rfl) ?_
    refine Ls.nil ?_
    skip
    refine Cd.cond_true (by rfl) (rfl) ?_
    refine Cd.seq ?_
    refine Cd.region ?_
    refine Ls.ev (some 4) (Ev.assign (show Oper.op _ = Op.assign (Operand.const (Value.pointer none)) from rfl) (by rfl)) (by rfl) (by rfl) ?_
    refine Ls.ev (some 5) (Ev.assign (show Oper.op _ = Op.assign (Operand.const (Value.slice none 0 0)) from rfl) (by rfl)) (by rfl) (by rfl) ?_
    refine Ls.ev (some 6) (Ev.assign (show Oper.op _ = Op.assign (Operand.const (Value.int IntKind.i64 1)) from rfl) (by rfl)) (by rfl) (by rfl) ?_
    refine Ls.nil ?_
    refine Cd.ret ?_
    refine Ent.ret (()) (trivial) (Res.tmp3 (by rfl) (by rfl) (by rfl) (by rfl)) ?_ [] (by rfl) ?_
    · rfl
    · rfl
  · skip
    refine Ent.known 17 false (by rfl) (by exact (decide_eq_false h1)) ?_
    refine Ls.ev (some 18) (Ev.move (show Oper.op _ = Op.move (Operand.tmp 1) from rfl) (by rfl)) (by rfl) (by rfl) ?_
    refine Ls.ev (some 19) (Ev.gtr (show Oper.op _ = Op.binOp BinOp.gtr 3 (Operand.tmp 18) (Operand.const (Value.int IntKind.i64 999999)) 3 from rfl) (by rfl) (by rfl)) (by rfl) (by rfl) ?_
    refine Ls.ev (some 20) (Ev.pickF (show Oper.op _ = Op.pick (Operand.tmp 17) (Operand.const (Value.bool true)) (Operand.tmp 19) from rfl) (by rfl) (by rfl)) (by rfl) (by rfl) ?_
    refine Ls.nil ?_
    skip
    refine Cd.cond_true (by rfl) (decide_eq_true (hf.resolve_left h1)) ?_
    refine Cd.seq ?_
    refine Cd.region ?_
    refine Ls.ev (some 4) (Ev.assign (show Oper.op _ = Op.assign (Operand.const (Value.pointer none)) from rfl) (by rfl)) (by rfl) (by rfl) ?_
    refine Ls.ev (some 5) (Ev.assign (show Oper.op _ = Op.assign (Operand.const (Value.slice none 0 0)) from rfl) (by rfl)) (by rfl) (by rfl) ?_
    refine Ls.ev (some 6) (Ev.assign (show Oper.op _ = Op.assign (Operand.const (Value.int IntKind.i64 1)) from rfl) (by rfl)) (by rfl) (by rfl) ?_
    refine Ls.nil ?_
    refine Cd.ret ?_
    refine Ent.ret (()) (trivial) (Res.tmp3 (by rfl) (by rfl) (by rfl) (by rfl)) ?_ [] (by rfl) ?_
    · rfl
    · rfl
theorem open_sl {D : DrS} {P : DrP} (h : Drv D P) (fr : Nat) (hf1 : 1 ≤ fr) (hf2 : fr ≤ 999999) : Fn Tryz.prog 9 #[D.ptr, .int .i64 fr] [D.rB, D.rM, D.rF, laidC] (Nat × (Option Addr × Nat) × List ByS) (fun p => .tuple #[ptrV p.1, .slice p.2.1.1 p.2.2.length p.2.1.2, .int .i64 0]) (fun p => [lgB p.1 D.d ⟨P.seg fr, false⟩, payW p.2.1.1 p.2.1.2 p.2.2, payX p.2.2]) (fun p => p.2.2.map ByS.l = P.pay fr) := by
  have hsg := segs_sl h
  have hln : (segsP P).length ≤ 256 := by
    have := segsN_len (P.fs.map FiP.nm)
    rw [List.length_map] at this
    have h2 := h.ok.len
    show (segsN _).length ≤ _
    omega
  have hmem : ∀ n ∈ segsP P, 1 ≤ n ∧ n ≤ 999999 ∧ ∃ f, P.find (nameP n) = some f := fun n hn => by
    obtain ⟨a, b, hc⟩ := segsN_mem hn
    obtain ⟨f, hf, he⟩ := List.mem_map.1 hc
    exact ⟨a, b, f, by rw [← he]; exact findG_mem h.ok.rise hf⟩
  unfold DrP.seg DrP.pay
  generalize segsP P = ns at hsg hln hmem ⊢
  refine Fn.enter Tryz.func9 rfl Tryz.ntmps9 (by rfl) ?_
  intro w0
  refine Cd.seq ?_
  refine Cd.region ?_
  refine Ls.ev (some 4) (Ev.assign (show Oper.op _ = Op.assign (Operand.const (Value.pointer none)) from rfl) (by rfl)) (by rfl) (by rfl) ?_
  refine Ls.ev (some 5) (Ev.assign (show Oper.op _ = Op.assign (Operand.const (Value.slice none 0 0)) from rfl) (by rfl)) (by rfl) (by rfl) ?_
  refine Ls.ev (some 6) (Ev.assign (show Oper.op _ = Op.assign (Operand.const (Value.int IntKind.i64 0)) from rfl) (by rfl)) (by rfl) (by rfl) ?_
  refine Ls.nil ?_
  refine Cd.seq ?_
  refine Cd.seq ?_
  refine Cd.region ?_
  refine Ls.ev (some 15) (Ev.move (show Oper.op _ = Op.move (Operand.tmp 1) from rfl) (by rfl)) (by rfl) (by rfl) ?_
  refine Ls.ev (some 16) (Ev.lss (show Oper.op _ = Op.binOp BinOp.lss 3 (Operand.tmp 15) (Operand.const (Value.int IntKind.i64 1)) 3 from rfl) (by rfl) (by rfl)) (by rfl) (by rfl) ?_
  refine Ls.ev (some 17) (Ev.move (show Oper.op _ = Op.move (Operand.tmp 16) from rfl) (by rfl)) (by rfl) (by rfl) ?_
  refine Ent.known 17 false (by rfl) (by exact (decide_eq_false (by omega))) ?_
  refine Ls.ev (some 18) (Ev.move (show Oper.op _ = Op.move (Operand.tmp 1) from rfl) (by rfl)) (by rfl) (by rfl) ?_
  refine Ls.ev (some 19) (Ev.gtr (show Oper.op _ = Op.binOp BinOp.gtr 3 (Operand.tmp 18) (Operand.const (Value.int IntKind.i64 999999)) 3 from rfl) (by rfl) (by rfl)) (by rfl) (by rfl) ?_
  refine Ls.ev (some 20) (Ev.pickF (show Oper.op _ = Op.pick (Operand.tmp 17) (Operand.const (Value.bool true)) (Operand.tmp 19) from rfl) (by rfl) (by rfl)) (by rfl) (by rfl) ?_
  refine Ls.nil ?_
  skip
  refine Cd.cond_false (by rfl) (decide_eq_false (by omega)) ?_
  refine Cd.skip ?_
  refine Cd.seq ?_
  refine Cd.region ?_
  refine Ls.ev (some 21) (Ev.move (show Oper.op _ = Op.move (Operand.tmp 0) from rfl) (by rfl)) (by rfl) (by rfl) ?_
  refine Ls.ev (some 22) (Ev.move (show Oper.op _ = Op.move (Operand.tmp 1) from rfl) (by rfl)) (by rfl) (by rfl) ?_
  refine Ls.ev (some 23) (Ev.buildP (pl := [(0, 1), (1, 1), (2, 1)]) (zs := [.pointer none, .int .i64 0, .bool false]) (show Oper.op _ = Op.build 70 #[(0, Operand.tmp 21), (1, Operand.tmp 22)] from rfl) (by rfl) (by kernel_rfl) (by rfl)) (by rfl) (by rfl) ?_
  refine Ls.does (some 24) (Does.box (show Oper.op _ = Op.box 70 (Operand.tmp 23) from rfl) (by rfl)) (by rfl) (by rfl) ?_
  intro g1 _
  refine Ls.ev (some 7) (Ev.assign (show Oper.op _ = Op.assign (Operand.tmp 24) from rfl) (by rfl)) (by rfl) (by rfl) ?_
  refine Ls.nil ?_
  refine Cd.seq ?_
  refine Cd.region ?_
  refine Ls.ev (some 8) (Ev.assign (show Oper.op _ = Op.assign (Operand.const (Value.slice none 0 0)) from rfl) (by rfl)) (by rfl) (by rfl) ?_
  refine Ls.nil ?_
  refine Cd.seq ?_
  refine Cd.seq ?_
  refine Cd.region ?_
  refine Ls.ev (some 25) (Ev.move (show Oper.op _ = Op.move (Operand.tmp 0) from rfl) (by rfl)) (by rfl) (by rfl) ?_
  refine Ls.does (some 26) (Does.readN (show Oper.op _ = Op.call { callee := Callee.value (Operand.func 26), args := #[Operand.tmp 25], argTypes := #[23] } from rfl) Tryz.func26 (by kernel_rfl) (by kernel_rfl) (hsg) (by rfl) (by rfl) ⟨rblkIn 1 (by rfl), rmapIn_ 2 (by rfl), laidIn 4 (by rfl), trivial⟩ (fun _ => by rfl)) (by rfl) (by rfl) ?_
  rintro ⟨sA, sc⟩ -
  refine Ent.see 0 (by rfl) ?_
  refine Ent.nil 30 1 ?_
  refine Ent.map (fun w hs => hs.starx_nil) ?_
  refine Ent.pick [1, 0, 3, 2, 4, 5, 6, 7] (by rfl) ?_
  skip
  refine Ls.ev (some 27) (Ev.len (show Oper.op _ = Op.call { callee := Callee.builtin Builtin.len, args := #[Operand.tmp 26], argTypes := #[35] } from rfl) (by rfl) Tryz.underlying35) (by rfl) (by rfl) ?_
  refine Ls.ev (some 28) (Ev.move (show Oper.op _ = Op.move (Operand.const (Value.int IntKind.i64 0)) from rfl) (by rfl)) (by rfl) (by rfl) ?_
  refine Ls.nil ?_
  refine Cd.block ?_
  refine Cd.loop (ι := Nat × Nat × (Option Addr × Nat) × List ByS) (fun p => [(0, D.ptr), (1, .int .i64 fr), (7, ptrV g1), (8, .slice p.2.2.1.1 p.2.2.2.length p.2.2.1.2), (26, .slice sA ns.length sc), (27, .int .i64 ns.length), (28, .int .i64 p.1)]) (fun p => [payW p.2.2.1.1 p.2.2.1.2 p.2.2.2, payX p.2.2.2, lgB g1 D.d ⟨p.2.1, false⟩, rd sA ns.length 1 (nats ns), D.rB, D.rM, D.rF, laidC]) (fun p => p.1 ≤ ns.length ∧ p.2.1 = (ns.take p.1).foldl segA fr ∧ p.2.2.2.map ByS.l = payN P fr (ns.take p.1) ∧ p.2.2.2.length ≤ 60000 * p.1) (fun p => ns.length - p.1) ((0, fr, (none, 0), [])) (⟨Nat.zero_le _, rfl, rfl, Nat.le_refl _⟩) ?_ rfl ?_
  · (repeat (first | exact trivial | refine ⟨by rfl, ?_⟩))
  rintro ⟨k, sg, ⟨A, c⟩, S⟩ ⟨hk, hsg, hS, hSl⟩
  dsimp only at hk hsg hS hSl ⊢
  have hsb : sg ≤ 1000000 := by
    rw [hsg]
    exact (foldl_seg_le (by omega) (fun n hn => (hmem n (List.mem_of_mem_take hn)).2.1)).1
  refine Cd.seq ?_
  refine Cd.region ?_
  refine Ls.ev (some 29) (Ev.lss (show Oper.op _ = Op.binOp BinOp.lss 3 (Operand.tmp 28) (Operand.tmp 27) 3 from rfl) (by rfl) (by rfl)) (by rfl) (by rfl) ?_
  refine Ls.nil ?_
  refine Cd.seq ?_
  refine Cd.cond _ (by rfl) (fun h2 => ?_) (fun h2 => ?_)
  · skip
    have hlt : k < ns.length := by have := of_decide_eq_true h2; omega
    obtain ⟨n, hn⟩ := get_of_lt hlt
    obtain ⟨hn1, hn2, f, hfd⟩ := hmem n (List.mem_of_getElem? hn)
    have hst : (ns.take (k + 1)).foldl segA fr = segA sg n := by
      rw [List.take_add_one, hn, hsg]
      show (_ ++ [n]).foldl segA fr = _
      rw [List.foldl_append]
      rfl
    have hpt : payN P fr (ns.take (k + 1)) = S.map ByS.l ++ if fr ≤ n then P.segB n else [] := by
      rw [List.take_add_one, hn, hS]
      exact payN_snoc P fr _ n
    have hmx : (if (sg : Int) < ((n + 1 : Nat) : Int) then ((n + 1 : Nat) : Int) else (sg : Int)) = ((segA sg n : Nat) : Int) := by
      unfold segA
      split <;> omega
    refine Ent.rdSome 3 (by rfl) (by omega) (fun ad had => ?_)
    subst had
    refine Cd.skip ?_
    refine Cd.seq ?_
    refine Cd.block ?_
    refine Cd.seq ?_
    refine Cd.region ?_
    refine Ls.ev (some 30) (Ev.indexAt (sz := 1) (show Oper.op _ = Op.indexAddr 35 (Operand.tmp 26) (Operand.tmp 28) from rfl) (by rfl) (by rfl) Tryz.underlying35 (by kernel_rfl) (by omega)) (by rfl) (by rfl) ?_
    refine Ls.ev (some 31) (Ev.loadNat (show Oper.op _ = Op.load 3 (Operand.tmp 30) from rfl) (by rfl) (ReadsIn.rd 3 (by rfl)) (by kernel_rfl) hn) (by rfl) (by rfl) ?_
    refine Ls.ev (some 10) (Ev.assign (show Oper.op _ = Op.assign (Operand.tmp 31) from rfl) (by rfl)) (by rfl) (by rfl) ?_
    refine Ls.nil ?_
    refine Cd.seq ?_
    refine Cd.region ?_
    refine Ls.ev (some 32) (Ev.move (show Oper.op _ = Op.move (Operand.tmp 7) from rfl) (by rfl)) (by rfl) (by rfl) ?_
    refine Ls.ev (some 33) (Ev.move (show Oper.op _ = Op.move (Operand.tmp 7) from rfl) (by rfl)) (by rfl) (by rfl) ?_
    refine Ls.ev (some 34) (Ev.nilCheck (show Oper.op _ = Op.nilCheck (Operand.tmp 33) from rfl) (by rfl)) (by rfl) (by rfl) ?_
    refine Ls.ev (some 35) (Ev.fieldAddr (k := 1) (show Oper.op _ = Op.fieldAddr 70 (Operand.tmp 34) 1 from rfl) (by rfl) (by kernel_rfl) (by rfl)) (by rfl) (by rfl) ?_
    refine Ls.ev (some 36) (Ev.load 2 (show Oper.op _ = Op.load 3 (Operand.tmp 35) from rfl) (by rfl) (by rfl) (by kernel_rfl) (by rfl)) (by rfl) (by rfl) ?_
    refine Ls.ev (some 37) (Ev.move (show Oper.op _ = Op.move (Operand.tmp 10) from rfl) (by rfl)) (by rfl) (by rfl) ?_
    refine Ls.ev (some 38) (Ev.addN (b := 1) (show Oper.op _ = Op.binOp BinOp.add 3 (Operand.tmp 37) (Operand.const (Value.int IntKind.i64 1)) 3 from rfl) (by rfl) (by rfl) (by omega)) (by rfl) (by rfl) ?_
    refine Ls.ev (some 39) (Ev.max (show Oper.op _ = Op.call { callee := Callee.builtin Builtin.max, args := #[Operand.tmp 36, Operand.tmp 38], argTypes := #[3, 3] } from rfl) (by rfl) (by rfl)) (by rfl) (by rfl) ?_
    rw [hmx]
    refine Ls.ev (some 40) (Ev.nilCheck (show Oper.op _ = Op.nilCheck (Operand.tmp 32) from rfl) (by rfl)) (by rfl) (by rfl) ?_
    refine Ls.ev (some 41) (Ev.fieldAddr (k := 1) (show Oper.op _ = Op.fieldAddr 70 (Operand.tmp 40) 1 from rfl) (by rfl) (by kernel_rfl) (by rfl)) (by rfl) (by rfl) ?_
    refine Ls.does none (Does.store 2 (show Oper.op _ = Op.store 3 (Operand.tmp 41) (Operand.tmp 39) from rfl) (by rfl) (by rfl) (by rfl) (by kernel_rfl) (by rfl) (by kernel_rfl) (by rfl)) (by rfl) (by rfl) ?_
    intro _ _
    refine Ls.nil ?_
    refine Cd.seq ?_
    refine Cd.region ?_
    refine Ls.ev (some 42) (Ev.move (show Oper.op _ = Op.move (Operand.tmp 10) from rfl) (by rfl)) (by rfl) (by rfl) ?_
    refine Ls.ev (some 43) (Ev.move (show Oper.op _ = Op.move (Operand.tmp 1) from rfl) (by rfl)) (by rfl) (by rfl) ?_
    refine Ls.ev (some 44) (Ev.geq (show Oper.op _ = Op.binOp BinOp.geq 3 (Operand.tmp 42) (Operand.tmp 43) 3 from rfl) (by rfl) (by rfl)) (by rfl) (by rfl) ?_
    refine Ls.nil ?_
    by_cases hfn : fr ≤ n
    · skip
      rw [if_pos hfn] at hpt
      have hb : P.bytes (nameP n) = f.b := by unfold DrP.bytes; rw [hfd]
      have hfb := h.ok.size f (findG_some hfd).1
      refine Cd.cond_true (by rfl) (decide_eq_true (by omega)) ?_
      refine Cd.seq ?_
      refine Cd.region ?_
      refine Ls.ev (some 46) (Ev.move (show Oper.op _ = Op.move (Operand.tmp 0) from rfl) (by rfl)) (by rfl) (by rfl) ?_
      refine Ls.ev (some 47) (Ev.move (show Oper.op _ = Op.move (Operand.tmp 10) from rfl) (by rfl)) (by rfl) (by rfl) ?_
      refine Ls.does (some 48) (Does.read (show Oper.op _ = Op.call { callee := Callee.value (Operand.func 28), args := #[Operand.tmp 47], argTypes := #[3] } from rfl) Tryz.func28 (by kernel_rfl) (by kernel_rfl) (name_sl n hn2) (by rfl) (by rfl) ⟨laidIn 7 (by rfl), trivial⟩) (by rfl) (by rfl) ?_
      rintro _ -
      skip
      refine Ls.does (some 49) (Does.readN (show Oper.op _ = Op.call { callee := Callee.value (Operand.func 27), args := #[Operand.tmp 46, Operand.tmp 48], argTypes := #[23, 9] } from rfl) Tryz.func27 (by kernel_rfl) (by kernel_rfl) (read_sl h (nameP n) (nameP_good n) hfd) (by rfl) (by rfl) ⟨rblkIn 4 (by rfl), rmapIn_ 5 (by rfl), filRin 6 (by rfl), trivial⟩ (fun _ => by rfl)) (by rfl) (by rfl) ?_
      rintro ⟨bA, bc⟩ -
      refine Ent.fact 0 (by rfl) (p := f.b.length ≤ bc ∧ bc ≤ maxLen) (fun w hw => ⟨Own.le hw, Own.capLe hw⟩) (fun hbc => ?_)
      refine Ent.see 0 (by rfl) ?_
      refine Ls.ev (some 45) (Ev.move (show Oper.op _ = Op.move (Operand.tmp 49) from rfl) (by rfl)) (by rfl) (by rfl) ?_
      refine Ls.ev (some 50) (Ev.extract (show Oper.op _ = Op.extract (Operand.tmp 45) 0 from rfl) (by rfl) (by rfl)) (by rfl) (by rfl) ?_
      refine Ls.ev (some 51) (Ev.extract (show Oper.op _ = Op.extract (Operand.tmp 45) 1 from rfl) (by rfl) (by rfl)) (by rfl) (by rfl) ?_
      refine Ls.ev (some 11) (Ev.assign (show Oper.op _ = Op.assign (Operand.tmp 50) from rfl) (by rfl)) (by rfl) (by rfl) ?_
      refine Ls.ev (some 12) (Ev.assign (show Oper.op _ = Op.assign (Operand.tmp 51) from rfl) (by rfl)) (by rfl) (by rfl) ?_
      refine Ls.nil ?_
      refine Cd.seq ?_
      refine Cd.region ?_
      refine Ls.ev (some 53) (Ev.move (show Oper.op _ = Op.move (Operand.tmp 11) from rfl) (by rfl)) (by rfl) (by rfl) ?_
      refine Ls.does (some 54) (Does.readN (show Oper.op _ = Op.call { callee := Callee.value (Operand.func 29), args := #[Operand.tmp 53], argTypes := #[30] } from rfl) Tryz.func29 (by kernel_rfl) (by kernel_rfl) (scan_sl bA bc f.b (by omega) hbc) (by rfl) (by rfl) ⟨ReadsIn.rd 0 (by rfl), trivial⟩ (fun _ => by rfl)) (by rfl) (by rfl) ?_
      rintro ⟨⟨qA, qc⟩, S2⟩ hS2
      dsimp only at hS2 ⊢
      have hS2l : S2.length ≤ 60000 := by
        have h1 := (scanF_size f.b)
        have h2 : S2.length = (scanF f.b).1.length := by rw [← hS2, List.length_map]
        omega
      refine Ent.see 0 (by rfl) ?_
      refine Ls.ev (some 52) (Ev.move (show Oper.op _ = Op.move (Operand.tmp 54) from rfl) (by rfl)) (by rfl) (by rfl) ?_
      refine Ls.ev (some 55) (Ev.extract (show Oper.op _ = Op.extract (Operand.tmp 52) 0 from rfl) (by rfl) (by rfl)) (by rfl) (by rfl) ?_
      refine Ls.ev (some 56) (Ev.extract (show Oper.op _ = Op.extract (Operand.tmp 52) 1 from rfl) (by rfl) (by rfl)) (by rfl) (by rfl) ?_
      refine Ls.ev (some 13) (Ev.assign (show Oper.op _ = Op.assign (Operand.tmp 55) from rfl) (by rfl)) (by rfl) (by rfl) ?_
      refine Ls.ev (some 14) (Ev.assign (show Oper.op _ = Op.assign (Operand.tmp 56) from rfl) (by rfl)) (by rfl) (by rfl) ?_
      refine Ls.nil ?_
      refine Cd.region ?_
      refine Ls.ev (some 57) (Ev.move (show Oper.op _ = Op.move (Operand.tmp 8) from rfl) (by rfl)) (by rfl) (by rfl) ?_
      refine Ls.ev (some 58) (Ev.move (show Oper.op _ = Op.move (Operand.tmp 13) from rfl) (by rfl)) (by rfl) (by rfl) ?_
      refine Ls.does (some 59) (Does.app (xs := S.map ByS.v) (news := S2.map ByS.v) 3 (show Oper.op _ = Op.call { callee := Callee.builtin Builtin.append, args := #[Operand.tmp 57, Operand.tmp 58], argTypes := #[22, 22] } from rfl) (by rfl) (by rfl) (by rfl) (ReadsIn.rd 0 (by rfl)) elem_pay (one_pay _) (by omega)) (by rfl) (by rfl) ?_
      rintro r -
      refine Ls.ev (some 8) (Ev.assign (show Oper.op _ = Op.assign (Operand.tmp 59) from rfl) (by rfl)) (by rfl) (by rfl) ?_
      refine Ls.nil ?_
      refine Cd.region ?_
      refine Ls.ev (some 60) (Ev.addN (b := 1) (show Oper.op _ = Op.binOp BinOp.add 3 (Operand.tmp 28) (Operand.const (Value.int IntKind.i64 1)) 3 from rfl) (by rfl) (by rfl) (by omega)) (by rfl) (by rfl) ?_
      refine Ls.ev (some 28) (Ev.move (show Oper.op _ = Op.move (Operand.tmp 60) from rfl) (by rfl)) (by rfl) (by rfl) ?_
      refine Ls.nil ?_
      refine Ent.pick [4, 1, 3, 5, 6, 7, 8, 9, 10] (by rfl) ?_
      refine Ent.map (fun w hs => pay_join hs) ?_
      refine Ent.pick [1, 0, 2, 3, 4, 5, 6, 7] (by rfl) ?_
      refine Ent.inv ((k + 1, segA sg n, (r.1, r.2), S ++ S2)) ?_ ?_ ?_
      · (try dsimp only); exact ⟨⟨hlt, hst.symm, by rw [List.map_append, hS2, hpt, DrP.segB, hb], by rw [List.length_append]; omega⟩, by omega⟩
      · (repeat (first | exact trivial | refine ⟨by rfl, ?_⟩ | refine ⟨by simp only [List.length_append, List.length_cons, List.length_nil]; rfl, ?_⟩ | refine ⟨by push_cast; rfl, ?_⟩ | refine ⟨by (show some (Value.slice _ _ _) = some (Value.slice _ _ _); rw [List.length_append]; rfl), ?_⟩))
      · (show [_, _, _, _, _, _, _, _] = [_, _, _, _, _, _, _, _]; dsimp only [payW]; rw [List.length_append, List.map_append]; rfl)
    · skip
      rw [if_neg hfn, List.append_nil] at hpt
      refine Cd.cond_false (by rfl) (decide_eq_false (by omega)) ?_
      refine Cd.skip ?_
      refine Cd.region ?_
      refine Ls.ev (some 60) (Ev.addN (b := 1) (show Oper.op _ = Op.binOp BinOp.add 3 (Operand.tmp 28) (Operand.const (Value.int IntKind.i64 1)) 3 from rfl) (by rfl) (by rfl) (by omega)) (by rfl) (by rfl) ?_
      refine Ls.ev (some 28) (Ev.move (show Oper.op _ = Op.move (Operand.tmp 60) from rfl) (by rfl)) (by rfl) (by rfl) ?_
      refine Ls.nil ?_
      refine Ent.inv ((k + 1, segA sg n, (A, c), S)) ?_ ?_ ?_
      · (try dsimp only); exact ⟨⟨hlt, hst.symm, hpt.symm, by omega⟩, by omega⟩
      · (repeat (first | exact trivial | refine ⟨by rfl, ?_⟩ | refine ⟨by simp only [List.length_append, List.length_cons, List.length_nil]; rfl, ?_⟩ | refine ⟨by push_cast; rfl, ?_⟩))
      · rfl
  · skip
    have hge : ns.length ≤ k := by have := of_decide_eq_false h2; omega
    rw [List.take_of_length_le hge] at hsg hS
    subst hsg
    refine Cd.exit ?_
    refine Cd.seq ?_
    refine Cd.region ?_
    refine Ls.ev (some 61) (Ev.move (show Oper.op _ = Op.move (Operand.tmp 7) from rfl) (by rfl)) (by rfl) (by rfl) ?_
    refine Ls.ev (some 62) (Ev.move (show Oper.op _ = Op.move (Operand.tmp 8) from rfl) (by rfl)) (by rfl) (by rfl) ?_
    refine Ls.ev (some 4) (Ev.assign (show Oper.op _ = Op.assign (Operand.tmp 61) from rfl) (by rfl)) (by rfl) (by rfl) ?_
    refine Ls.ev (some 5) (Ev.assign (show Oper.op _ = Op.assign (Operand.tmp 62) from rfl) (by rfl)) (by rfl) (by rfl) ?_
    refine Ls.ev (some 6) (Ev.assign (show Oper.op _ = Op.assign (Operand.const (Value.int IntKind.i64 0)) from rfl) (by rfl)) (by rfl) (by rfl) ?_
    refine Ls.nil ?_
    refine Cd.ret ?_
    refine Ent.ret ((g1, (A, c), S)) (hS) (Res.tmp3 (by rfl) (by rfl) (by rfl) (by rfl)) ?_ [2, 0, 1] (by rfl) ?_
    · rfl
    · rfl
end Go.Proofs.YtceanciekadkeaaGreatDoor
/- A text's bytes as a slice. -/
namespace Go.Proofs.YtceanciekadkeaaGreatDoor
section
variable {Γ : Ctx} {N : Frm} {P : Program} {E : Env} {H : List Chunk} {o : Oper} {x : Operand}
theorem Sat.under {w w' : World} (h : Sat Γ H w) (hu : Upd (fun _ => False) w w') {C : Chunk} (hh : C.holds w') (hf : ∀ k, C.foot k → w.heap.size ≤ k) : Sat Γ (C :: H) w' := by
  have hlt : ∀ C ∈ H, ∀ k, C.foot k → k < w.heap.size := fun C hC k hk => C.lt w k (h.sat.1 C hC) hk
  refine ⟨h.upd.trans hu (fun _ _ h => h.elim), ⟨fun D hD => ?_, List.Pairwise.cons (fun D hD _ k hk hk' => ?_) h.sat.2⟩, fun D hD => ?_⟩
  · rcases List.mem_cons.1 hD with rfl | hD
    · exact hh
    · exact D.loc w _ hu.size (fun k hk => hu.block k (hlt D hD k hk) (fun h => h)) (h.sat.1 D hD)
  · have := hlt D hD k hk'
    have := hf k hk
    omega
  · rcases List.mem_cons.1 hD with rfl | hD
    · intro k hk hk'
      have := hf k hk
      exact absurd h.upd.size (by omega)
    · exact h.fits D hD
theorem Does.bytesOf {s d e : TypeId} {u : TypeDesc} {l : List UInt8} (ho : o.op = .convert s d x) (hx : E.ev x = some (.string ⟨l.toArray⟩)) (hs : P.underlying s = some u) (hd : P.underlying d = some (.slice e)) (he : P.underlying e = some (.int .u8)) (hl : l.length ≤ maxLen) :
    Does Γ N P E H o (Nat × Nat) (fun p => .slice (some ⟨p.1, 0, none⟩) l.length p.2) (fun p => rd (some ⟨p.1, 0, none⟩) l.length 1 (u8s l) :: H) (fun p => l.length ≤ p.2 ∧ p.2 ≤ maxLen) := .of fun ρ hρ w hsat => by
  have hrun := Lib.run_convert_string_bytes w s d e (⟨l.toArray⟩ : ByteArray) hs hd he
  have hsz : (⟨l.toArray⟩ : ByteArray).size = l.length := rfl
  rw [hsz] at hrun
  refine ⟨(w.heap.size, grownCap w l.length 0 e), Lib.bytesWorld w e ⟨l.toArray⟩, ⟨grownCap_ge _ _ _ _, grownCap_le_maxLen _ _ _ _ hl⟩, ?_, .inl (by simp [execOp, ho, hρ x _ hx, hrun])⟩
  have hu : Upd (fun _ => False) w (Lib.bytesWorld w e ⟨l.toArray⟩) := ⟨rfl, rfl, rfl, by rw [Lib.bytesWorld_size]; omega, fun k hk _ => Lib.bytesWorld_at_old w e _ k hk⟩
  refine hsat.under hu (C := rd (some ⟨w.heap.size, 0, none⟩) l.length 1 (u8s l)) ⟨by simp [u8s], fun hn0 => ⟨_, rfl, by rw [Lib.bytesWorld_size]; exact Nat.lt_succ_self _, fun j v hv => ?_⟩⟩ (fun k hk => ?_)
  · have hj : j < l.length := by
      have := (List.getElem?_eq_some_iff.1 hv).1
      simpa [u8s] using this
    have hc := Lib.bytesWorld_cell w e (⟨l.toArray⟩ : ByteArray) j hj
    rw [add_at, Nat.zero_add]
    rw [hc]
    rw [← hv]
    simp [u8s, List.getD, List.getElem?_eq_getElem hj]
  · obtain rfl : w.heap.size = k := by simpa [blockOf] using hk.2
    exact Nat.le_refl _
theorem Res.cell_tmp2 {fn : Func} {p q r t n g m u : Nat} {cs vs : List Value} {v v' : Value} (i : Nat) (h : fn.results = #[.cell p t, .tmp q, .tmp r]) (hp : E.get p = some (.pointer (some ⟨g, m, none⟩))) (hi : H[i]? = some (blk g u cs)) (ht : agg P t n = true) (hv : rangeOf cs m n = vs) (hn : vs.length = n) (hq : E.get q = some v) (hr' : E.get r = some v') : Res Γ N P fn E H (.tuple #[.agg vs.toArray, v, v']) := fun a w hr hs => by
  simp [results, h, hr.get p _ hp, hr.get q _ hq, hr.get r _ hr', asAddr, run_cell i hs hi ht hv hn]
end
end Go.Proofs.YtceanciekadkeaaGreatDoor
