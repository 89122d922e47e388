/-
  Texts joined: JdE, SlS, JdF, JdG, JdH, SlY, JdI, JdJ.
-/
import Derived.Test.YtegjoabfoddadaaMJdL1f
import Derived.Test.YtegjoabfoddadaaMJdL1g
import Derived.WideKeyEntry
/- route.Check over pieces; grid.New -/
namespace Go.Proofs.Ytegjoabfoddadaa
open Go.RowKit
theorem cellsE_step {m : MapP} {l : List Int} {k : Nat} {x : Int} (h : l[k]? = some x) : cellsE m (l.drop k) = if isM m x then (if freeM m x then cellsE m (l.drop (k + 1)) else 132) else 121 := by
  obtain ⟨hk, rfl⟩ := List.getElem?_eq_some_iff.1 h
  rw [List.drop_eq_getElem_cons hk, cellsE]
theorem stepsE_step {m : MapP} {l : List Int} {k : Nat} {x y : Int} (hx : l[k]? = some x) (hy : l[k + 1]? = some y) : stepsE m (l.drop k) = if nearM m x y then stepsE m (l.drop (k + 1)) else 131 := by
  obtain ⟨hk, rfl⟩ := List.getElem?_eq_some_iff.1 hx
  obtain ⟨hk2, rfl⟩ := List.getElem?_eq_some_iff.1 hy
  rw [List.drop_eq_getElem_cons hk, List.drop_eq_getElem_cons hk2, stepsE]
theorem stepsE_end {m : MapP} {l : List Int} (h : l.length ≤ 1) : stepsE m l = 0 := by
  cases l with
  | nil => rfl
  | cons a r =>
    cases r with
    | nil => rfl
    | cons b r => simp at h
theorem check_of {m : MapP} {s : Int} {l : List Int} : checkR m ⟨s, l⟩ = if l.length = 0 ∨ 24 < l.length then 130 else if s < 0 ∨ 1073741824 - ((l.length : Int) - 1) < s then 122 else if cellsE m l ≠ 0 then cellsE m l else stepsE m l := rfl
section
variable (G : GrS) (m : MapP) (hm : goodM m = true)
include hm
theorem check_sl (x : RtS) : Fn Try.prog 51 #[.pointer (some ⟨G.g, 0, none⟩), .agg x.enc.toArray] [G.b m, G.r m, x.rd] Unit (fun _ => .int .i64 (checkR m x.p)) (fun _ => []) (fun _ => True) := by
  have hpl := place_sl G m hm
  have hfr := free_sl G m hm
  have hnr := near_sl G m hm
  obtain ⟨s, A, c, l⟩ := x
  dsimp only [RtS.enc, RtS.rd, RtS.p]
  rw [check_of]
  refine Fn.enter Try.func51 rfl Try.ntmps51 (by rfl) ?_
  intro w0
  skip
  refine Cd.seq ?_
  refine Cd.region ?_
  refine Ls.does (some 3) (Does.box (show Oper.op _ = Op.box 41 (Operand.tmp 1) from rfl) (by rfl)) (by rfl) (by rfl) ?_
  intro g1 _
  refine Ls.ev (some 4) (Ev.assign (show Oper.op _ = Op.assign (Operand.const (Value.int IntKind.i64 0)) from rfl) (by rfl)) (by rfl) (by rfl) ?_
  refine Ls.nil ?_
  refine Cd.seq ?_
  refine Cd.region ?_
  refine Ls.ev (some 12) (Ev.fieldAddr (k := 1) (show Oper.op _ = Op.fieldAddr 41 (Operand.tmp 3) 1 from rfl) (by rfl) (by kernel_rfl) (by rfl)) (by rfl) (by rfl) ?_
  refine Ls.ev (some 13) (Ev.load 0 (show Oper.op _ = Op.load 22 (Operand.tmp 12) from rfl) (by rfl) (by rfl) (by kernel_rfl) (by rfl)) (by rfl) (by rfl) ?_
  refine Ls.ev (some 14) (Ev.len (show Oper.op _ = Op.call { callee := Callee.builtin Builtin.len, args := #[Operand.tmp 13], argTypes := #[22] } from rfl) (by rfl) Try.underlying22) (by rfl) (by rfl) ?_
  refine Ls.ev (some 5) (Ev.assign (show Oper.op _ = Op.assign (Operand.tmp 14) from rfl) (by rfl)) (by rfl) (by rfl) ?_
  refine Ls.nil ?_
  refine Cd.seq ?_
  refine Cd.block ?_
  refine Cd.seq ?_
  refine Cd.cut (ι := Unit) (fun _ => [(0, .pointer (some ⟨G.g, 0, none⟩)), (3, .pointer (some ⟨g1, 0, none⟩)), (5, .int .i64 l.length), (15, .bool (decide (l.length = 0 ∨ 24 < l.length)))]) (fun _ => [blk g1 41 [.int .i64 s, .slice A l.length c], rdI A l, G.b m, G.r m]) (fun _ => True) ?_ ?_
  · skip
    refine Cd.region ?_
    refine Ls.ev (some 16) (Ev.move (show Oper.op _ = Op.move (Operand.tmp 5) from rfl) (by rfl)) (by rfl) (by rfl) ?_
    refine Ls.ev (some 17) (Ev.eql (show Oper.op _ = Op.binOp BinOp.eql 3 (Operand.tmp 16) (Operand.const (Value.int IntKind.i64 0)) 3 from rfl) (by rfl) (by rfl)) (by rfl) (by rfl) ?_
    refine Ls.ev (some 18) (Ev.move (show Oper.op _ = Op.move (Operand.tmp 17) from rfl) (by rfl)) (by rfl) (by rfl) ?_
    refine Ent.split 18 (by rfl) (fun hT1 => ?_) (fun hT1 => ?_)
    · first | have hT1 := of_decide_eq_false hT1 | have hT1 := of_not_decide_false hT1 | skip
      refine Ls.ev (some 19) (Ev.move (show Oper.op _ = Op.move (Operand.tmp 5) from rfl) (by rfl)) (by rfl) (by rfl) ?_
      refine Ls.ev (some 20) (Ev.gtr (show Oper.op _ = Op.binOp BinOp.gtr 3 (Operand.tmp 19) (Operand.const (Value.int IntKind.i64 24)) 3 from rfl) (by rfl) (by rfl)) (by rfl) (by rfl) ?_
      refine Ls.ev (some 21) (Ev.pickF (show Oper.op _ = Op.pick (Operand.tmp 18) (Operand.const (Value.bool true)) (Operand.tmp 20) from rfl) (by rfl) (by rfl)) (by rfl) (by rfl) ?_
      refine Ls.ev (some 15) (Ev.assign (show Oper.op _ = Op.assign (Operand.tmp 21) from rfl) (by rfl)) (by rfl) (by rfl) ?_
      refine Ls.nil ?_
      refine Ent.pick [0, 3, 1, 2] (by rfl) ?_
      refine Ent.inv () ?_ ?_ ?_
      · exact trivial
      · (repeat (first | exact trivial | refine ⟨by rfl, ?_⟩ | refine ⟨by simp only [List.length_append, List.length_cons, List.length_nil]; rfl, ?_⟩ | refine ⟨by push_cast; rfl, ?_⟩ | refine ⟨by (show some (Value.bool _) = some (Value.bool _); congr 2; first | rfl | exact (decide_eq_true (by omega)).symm | exact (decide_eq_false (by omega)).symm | exact decide_eq_decide.2 (by omega)), ?_⟩))
      · rfl
    · first | have hT1 := of_decide_eq_true hT1 | have hT1 := of_not_decide_true hT1 | skip
      refine Ls.pass (some 19) (by rfl) (by rfl) ?_
      refine Ls.pass (some 20) (by rfl) (by rfl) ?_
      refine Ls.ev (some 21) (Ev.pickT (show Oper.op _ = Op.pick (Operand.tmp 18) (Operand.const (Value.bool true)) (Operand.tmp 20) from rfl) (by rfl) (by rfl)) (by rfl) (by rfl) ?_
      refine Ls.ev (some 15) (Ev.assign (show Oper.op _ = Op.assign (Operand.tmp 21) from rfl) (by rfl)) (by rfl) (by rfl) ?_
      refine Ls.nil ?_
      refine Ent.pick [0, 3, 1, 2] (by rfl) ?_
      refine Ent.inv () ?_ ?_ ?_
      · exact trivial
      · (repeat (first | exact trivial | refine ⟨by rfl, ?_⟩ | refine ⟨by simp only [List.length_append, List.length_cons, List.length_nil]; rfl, ?_⟩ | refine ⟨by push_cast; rfl, ?_⟩ | refine ⟨by (show some (Value.bool _) = some (Value.bool _); congr 2; first | rfl | exact (decide_eq_true (by omega)).symm | exact (decide_eq_false (by omega)).symm | exact decide_eq_decide.2 (by omega)), ?_⟩))
      · rfl
  skip
  rintro _ -
  refine Cd.cond _ (by rfl) (fun h1 => ?_) (fun h1 => ?_)
  · skip
    rw [if_pos (of_decide_eq_true h1)]
    refine Cd.seq ?_
    refine Cd.region ?_
    refine Ls.ev (some 4) (Ev.assign (show Oper.op _ = Op.assign (Operand.const (Value.int IntKind.i64 130)) from rfl) (by rfl)) (by rfl) (by rfl) ?_
    refine Ls.nil ?_
    refine Cd.ret ?_
    refine Ent.ret (()) (trivial) (Res.tmp (by rfl) (by rfl)) ?_ [] (by rfl) ?_
    · rfl
    · rfl
  · skip
    have h1 := of_decide_eq_false h1
    rw [if_neg h1]
    refine Cd.seq ?_
    refine Cd.cut (ι := Unit) (fun _ => [(0, .pointer (some ⟨G.g, 0, none⟩)), (3, .pointer (some ⟨g1, 0, none⟩)), (5, .int .i64 l.length), (22, .bool (decide (s < 0 ∨ 1073741824 - ((l.length : Int) - 1) < s)))]) (fun _ => [blk g1 41 [.int .i64 s, .slice A l.length c], rdI A l, G.b m, G.r m]) (fun _ => True) ?_ ?_
    · skip
      refine Cd.region ?_
      refine Ls.ev (some 23) (Ev.fieldAddr (k := 0) (show Oper.op _ = Op.fieldAddr 41 (Operand.tmp 3) 0 from rfl) (by rfl) (by kernel_rfl) (by rfl)) (by rfl) (by rfl) ?_
      refine Ls.ev (some 24) (Ev.load 0 (show Oper.op _ = Op.load 3 (Operand.tmp 23) from rfl) (by rfl) (by rfl) (by kernel_rfl) (by rfl)) (by rfl) (by rfl) ?_
      refine Ls.ev (some 25) (Ev.lss (show Oper.op _ = Op.binOp BinOp.lss 3 (Operand.tmp 24) (Operand.const (Value.int IntKind.i64 0)) 3 from rfl) (by rfl) (by rfl)) (by rfl) (by rfl) ?_
      refine Ls.ev (some 26) (Ev.move (show Oper.op _ = Op.move (Operand.tmp 25) from rfl) (by rfl)) (by rfl) (by rfl) ?_
      refine Ent.split 26 (by rfl) (fun hT1 => ?_) (fun hT1 => ?_)
      · first | have hT1 := of_decide_eq_false hT1 | have hT1 := of_not_decide_false hT1 | skip
        refine Ls.ev (some 27) (Ev.fieldAddr (k := 0) (show Oper.op _ = Op.fieldAddr 41 (Operand.tmp 3) 0 from rfl) (by rfl) (by kernel_rfl) (by rfl)) (by rfl) (by rfl) ?_
        refine Ls.ev (some 28) (Ev.load 0 (show Oper.op _ = Op.load 3 (Operand.tmp 27) from rfl) (by rfl) (by rfl) (by kernel_rfl) (by rfl)) (by rfl) (by rfl) ?_
        refine Ls.ev (some 29) (Ev.move (show Oper.op _ = Op.move (Operand.tmp 5) from rfl) (by rfl)) (by rfl) (by rfl) ?_
        refine Ls.ev (some 30) (Ev.subN (b := 1) (show Oper.op _ = Op.binOp BinOp.sub 3 (Operand.tmp 29) (Operand.const (Value.int IntKind.i64 1)) 3 from rfl) (by rfl) (by rfl) (by omega)) (by rfl) (by rfl) ?_
        refine Ls.ev (some 31) (Ev.subN (a := 1073741824) (show Oper.op _ = Op.binOp BinOp.sub 3 (Operand.const (Value.int IntKind.i64 1073741824)) (Operand.tmp 30) 3 from rfl) (by rfl) (by rfl) (by omega)) (by rfl) (by rfl) ?_
        refine Ls.ev (some 32) (Ev.gtr (show Oper.op _ = Op.binOp BinOp.gtr 3 (Operand.tmp 28) (Operand.tmp 31) 3 from rfl) (by rfl) (by rfl)) (by rfl) (by rfl) ?_
        refine Ls.ev (some 33) (Ev.pickF (show Oper.op _ = Op.pick (Operand.tmp 26) (Operand.const (Value.bool true)) (Operand.tmp 32) from rfl) (by rfl) (by rfl)) (by rfl) (by rfl) ?_
        refine Ls.ev (some 22) (Ev.assign (show Oper.op _ = Op.assign (Operand.tmp 33) from rfl) (by rfl)) (by rfl) (by rfl) ?_
        refine Ls.nil ?_
        refine Ent.pick [0, 1, 2, 3] (by rfl) ?_
        refine Ent.inv () ?_ ?_ ?_
        · exact trivial
        · (repeat (first | exact trivial | refine ⟨by rfl, ?_⟩ | refine ⟨by simp only [List.length_append, List.length_cons, List.length_nil]; rfl, ?_⟩ | refine ⟨by push_cast; rfl, ?_⟩ | refine ⟨by (show some (Value.bool _) = some (Value.bool _); congr 2; first | rfl | exact (decide_eq_true (by omega)).symm | exact (decide_eq_false (by omega)).symm | exact decide_eq_decide.2 (by omega)), ?_⟩))
        · rfl
      · first | have hT1 := of_decide_eq_true hT1 | have hT1 := of_not_decide_true hT1 | skip
        refine Ls.pass (some 27) (by rfl) (by rfl) ?_
        refine Ls.pass (some 28) (by rfl) (by rfl) ?_
        refine Ls.pass (some 29) (by rfl) (by rfl) ?_
        refine Ls.pass (some 30) (by rfl) (by rfl) ?_
        refine Ls.pass (some 31) (by rfl) (by rfl) ?_
        refine Ls.pass (some 32) (by rfl) (by rfl) ?_
        refine Ls.ev (some 33) (Ev.pickT (show Oper.op _ = Op.pick (Operand.tmp 26) (Operand.const (Value.bool true)) (Operand.tmp 32) from rfl) (by rfl) (by rfl)) (by rfl) (by rfl) ?_
        refine Ls.ev (some 22) (Ev.assign (show Oper.op _ = Op.assign (Operand.tmp 33) from rfl) (by rfl)) (by rfl) (by rfl) ?_
        refine Ls.nil ?_
        refine Ent.pick [0, 1, 2, 3] (by rfl) ?_
        refine Ent.inv () ?_ ?_ ?_
        · exact trivial
        · (repeat (first | exact trivial | refine ⟨by rfl, ?_⟩ | refine ⟨by simp only [List.length_append, List.length_cons, List.length_nil]; rfl, ?_⟩ | refine ⟨by push_cast; rfl, ?_⟩ | refine ⟨by (show some (Value.bool _) = some (Value.bool _); congr 2; first | rfl | exact (decide_eq_true (by omega)).symm | exact (decide_eq_false (by omega)).symm | exact decide_eq_decide.2 (by omega)), ?_⟩))
        · rfl
    skip
    rintro _ -
    refine Cd.cond _ (by rfl) (fun h2 => ?_) (fun h2 => ?_)
    · skip
      rw [if_pos (of_decide_eq_true h2)]
      refine Cd.seq ?_
      refine Cd.region ?_
      refine Ls.ev (some 4) (Ev.assign (show Oper.op _ = Op.assign (Operand.const (Value.int IntKind.i64 122)) from rfl) (by rfl)) (by rfl) (by rfl) ?_
      refine Ls.nil ?_
      refine Cd.ret ?_
      refine Ent.ret (()) (trivial) (Res.tmp (by rfl) (by rfl)) ?_ [] (by rfl) ?_
      · rfl
      · rfl
    · skip
      have h2 := of_decide_eq_false h2
      rw [if_neg h2]
      refine Cd.skip ?_
      refine Cd.seq ?_
      refine Cd.seq ?_
      refine Cd.region ?_
      refine Ls.ev (some 34) (Ev.fieldAddr (k := 1) (show Oper.op _ = Op.fieldAddr 41 (Operand.tmp 3) 1 from rfl) (by rfl) (by kernel_rfl) (by rfl)) (by rfl) (by rfl) ?_
      refine Ls.ev (some 35) (Ev.load 0 (show Oper.op _ = Op.load 22 (Operand.tmp 34) from rfl) (by rfl) (by rfl) (by kernel_rfl) (by rfl)) (by rfl) (by rfl) ?_
      refine Ls.ev (some 36) (Ev.len (show Oper.op _ = Op.call { callee := Callee.builtin Builtin.len, args := #[Operand.tmp 35], argTypes := #[22] } from rfl) (by rfl) Try.underlying22) (by rfl) (by rfl) ?_
      refine Ls.ev (some 37) (Ev.move (show Oper.op _ = Op.move (Operand.const (Value.int IntKind.i64 0)) from rfl) (by rfl)) (by rfl) (by rfl) ?_
      refine Ls.nil ?_
      refine Cd.block ?_
      refine Ent.rdSome 1 (by rfl) (by omega) (fun ad had => ?_)
      subst had
      refine Cd.loop (ι := Nat) (fun k => [(0, .pointer (some ⟨G.g, 0, none⟩)), (3, .pointer (some ⟨g1, 0, none⟩)), (5, .int .i64 l.length), (35, .slice (some ad) l.length c), (36, .int .i64 l.length), (37, .int .i64 k)]) (fun _ => [blk g1 41 [.int .i64 s, .slice (some ad) l.length c], rdI (some ad) l, G.b m, G.r m]) (fun k => k ≤ l.length ∧ cellsE m l = cellsE m (l.drop k)) (fun k => l.length - k) (0) (⟨Nat.zero_le _, rfl⟩) ?_ rfl ?_
      · (repeat (first | exact trivial | refine ⟨by rfl, ?_⟩))
      rintro k ⟨hk, hce⟩
      refine Cd.seq ?_
      refine Cd.region ?_
      refine Ls.ev (some 38) (Ev.lss (show Oper.op _ = Op.binOp BinOp.lss 3 (Operand.tmp 37) (Operand.tmp 36) 3 from rfl) (by rfl) (by rfl)) (by rfl) (by rfl) ?_
      refine Ls.nil ?_
      refine Cd.seq ?_
      refine Cd.cond _ (by rfl) (fun h3 => ?_) (fun h3 => ?_)
      · skip
        have hlt : k < l.length := by have := of_decide_eq_true h3; omega
        obtain ⟨x, hx⟩ := get_of_lt hlt
        have hst := cellsE_step (m := m) hx
        refine Cd.skip ?_
        refine Cd.seq ?_
        refine Cd.block ?_
        refine Cd.seq ?_
        refine Cd.region ?_
        refine Ls.ev (some 39) (Ev.indexAt (sz := 1) (show Oper.op _ = Op.indexAddr 22 (Operand.tmp 35) (Operand.tmp 37) from rfl) (by rfl) (by rfl) Try.underlying22 (by kernel_rfl) (by omega)) (by rfl) (by rfl) ?_
        refine Ls.ev (some 40) (Ev.loadInt (show Oper.op _ = Op.load 3 (Operand.tmp 39) from rfl) (by rfl) (ReadsIn.rd 1 (by rfl)) (by kernel_rfl) (by assumption)) (by rfl) (by rfl) ?_
        refine Ls.ev (some 7) (Ev.assign (show Oper.op _ = Op.assign (Operand.tmp 40) from rfl) (by rfl)) (by rfl) (by rfl) ?_
        refine Ls.nil ?_
        refine Cd.seq ?_
        refine Cd.seq ?_
        refine Cd.region ?_
        refine Ls.ev (some 42) (Ev.move (show Oper.op _ = Op.move (Operand.tmp 0) from rfl) (by rfl)) (by rfl) (by rfl) ?_
        refine Ls.ev (some 43) (Ev.move (show Oper.op _ = Op.move (Operand.tmp 7) from rfl) (by rfl)) (by rfl) (by rfl) ?_
        refine Ls.does (some 44) (Does.read (show Oper.op _ = Op.call { callee := Callee.value (Operand.func 56), args := #[Operand.tmp 42, Operand.tmp 43], argTypes := #[79, 3] } from rfl) Try.func56 (by kernel_rfl) (by kernel_rfl) (hpl x) (by rfl) (by rfl) ⟨rblkIn 2 (by rfl), trivial⟩) (by rfl) (by rfl) ?_
        rintro _ -
        refine Ls.ev (some 41) (Ev.move (show Oper.op _ = Op.move (Operand.tmp 44) from rfl) (by rfl)) (by rfl) (by rfl) ?_
        refine Ls.ev (some 45) (Ev.extract (show Oper.op _ = Op.extract (Operand.tmp 41) 0 from rfl) (by rfl) (by rfl)) (by rfl) (by rfl) ?_
        refine Ls.ev (some 46) (Ev.extract (show Oper.op _ = Op.extract (Operand.tmp 41) 1 from rfl) (by rfl) (by rfl)) (by rfl) (by rfl) ?_
        refine Ls.ev (some 47) (Ev.extract (show Oper.op _ = Op.extract (Operand.tmp 41) 2 from rfl) (by rfl) (by rfl)) (by rfl) (by rfl) ?_
        refine Ls.ev (some 8) (Ev.assign (show Oper.op _ = Op.assign (Operand.tmp 45) from rfl) (by rfl)) (by rfl) (by rfl) ?_
        refine Ls.ev (some 9) (Ev.assign (show Oper.op _ = Op.assign (Operand.tmp 46) from rfl) (by rfl)) (by rfl) (by rfl) ?_
        refine Ls.ev (some 10) (Ev.assign (show Oper.op _ = Op.assign (Operand.tmp 47) from rfl) (by rfl)) (by rfl) (by rfl) ?_
        refine Ls.nil ?_
        refine Cd.seq ?_
        refine Cd.region ?_
        refine Ls.ev (some 48) (Ev.move (show Oper.op _ = Op.move (Operand.tmp 10) from rfl) (by rfl)) (by rfl) (by rfl) ?_
        refine Ls.ev (some 49) (Ev.neq (show Oper.op _ = Op.binOp BinOp.neq 30 (Operand.tmp 48) (Operand.const (Value.int IntKind.i64 0)) 30 from rfl) (by rfl) (by rfl)) (by rfl) (by rfl) ?_
        refine Ls.nil ?_
        cases hi : isM m x with
        | false =>
          rw [hi, if_neg (by decide)] at hst
          have hq : (if cellsE m l ≠ 0 then cellsE m l else stepsE m l) = 121 := by rw [hce, hst]; rfl
          rw [hq]
          skip
          refine Cd.cond_true (by rfl) (rfl) ?_
          refine Cd.seq ?_
          refine Cd.region ?_
          refine Ls.ev (some 50) (Ev.move (show Oper.op _ = Op.move (Operand.tmp 10) from rfl) (by rfl)) (by rfl) (by rfl) ?_
          refine Ls.ev (some 4) (Ev.assign (show Oper.op _ = Op.assign (Operand.tmp 50) from rfl) (by rfl)) (by rfl) (by rfl) ?_
          refine Ls.nil ?_
          refine Cd.ret ?_
          refine Ent.ret (()) (trivial) (Res.tmp (by rfl) (by rfl)) ?_ [] (by rfl) ?_
          · rfl
          · rfl
        | true =>
          rw [hi, if_pos rfl] at hst
          skip
          refine Cd.cond_false (by rfl) (rfl) ?_
          refine Cd.skip ?_
          refine Cd.seq ?_
          refine Cd.region ?_
          refine Ls.ev (some 51) (Ev.move (show Oper.op _ = Op.move (Operand.tmp 0) from rfl) (by rfl)) (by rfl) (by rfl) ?_
          refine Ls.ev (some 52) (Ev.move (show Oper.op _ = Op.move (Operand.tmp 7) from rfl) (by rfl)) (by rfl) (by rfl) ?_
          refine Ls.does (some 53) (Does.read (show Oper.op _ = Op.call { callee := Callee.value (Operand.func 57), args := #[Operand.tmp 51, Operand.tmp 52], argTypes := #[79, 3] } from rfl) Try.func57 (by kernel_rfl) (by kernel_rfl) (hfr x) (by rfl) (by rfl) ⟨rblkIn 2 (by rfl), rmapIn 3 (by rfl), trivial⟩) (by rfl) (by rfl) ?_
          rintro _ -
          refine Ls.ev (some 54) (Ev.not (show Oper.op _ = Op.unOp UnOp.not 4 (Operand.tmp 53) from rfl) (by rfl)) (by rfl) (by rfl) ?_
          refine Ls.nil ?_
          refine Cd.cond _ (by rfl) (fun h4 => ?_) (fun h4 => ?_)
          · skip
            have h4 : freeM m x = false := by simpa using h4
            rw [h4, if_neg (by decide)] at hst
            have hq : (if cellsE m l ≠ 0 then cellsE m l else stepsE m l) = 132 := by rw [hce, hst]; rfl
            rw [hq]
            refine Cd.seq ?_
            refine Cd.region ?_
            refine Ls.ev (some 4) (Ev.assign (show Oper.op _ = Op.assign (Operand.const (Value.int IntKind.i64 132)) from rfl) (by rfl)) (by rfl) (by rfl) ?_
            refine Ls.nil ?_
            refine Cd.ret ?_
            refine Ent.ret (()) (trivial) (Res.tmp (by rfl) (by rfl)) ?_ [] (by rfl) ?_
            · rfl
            · rfl
          · skip
            have h4 : freeM m x = true := by simpa using h4
            rw [h4, if_pos rfl] at hst
            refine Cd.skip ?_
            refine Cd.region ?_
            refine Ls.ev (some 55) (Ev.addN (b := 1) (show Oper.op _ = Op.binOp BinOp.add 3 (Operand.tmp 37) (Operand.const (Value.int IntKind.i64 1)) 3 from rfl) (by rfl) (by rfl) (by omega)) (by rfl) (by rfl) ?_
            refine Ls.ev (some 37) (Ev.move (show Oper.op _ = Op.move (Operand.tmp 55) from rfl) (by rfl)) (by rfl) (by rfl) ?_
            refine Ls.nil ?_
            refine Ent.inv (k + 1) ?_ ?_ ?_
            · (try dsimp only); exact ⟨⟨by omega, by rw [hce, hst]⟩, by omega⟩
            · (repeat (first | exact trivial | refine ⟨by rfl, ?_⟩ | refine ⟨by simp only [List.length_append, List.length_cons, List.length_nil]; rfl, ?_⟩ | refine ⟨by push_cast; rfl, ?_⟩))
            · rfl
      · skip
        have hkl : k = l.length := by have := of_decide_eq_false h3; omega
        have h0 : cellsE m l = 0 := by rw [hce, hkl, List.drop_length]; rfl
        rw [h0, if_neg (by decide)]
        refine Cd.exit ?_
        refine Cd.seq ?_
        refine Cd.seq ?_
        refine Cd.region ?_
        refine Ls.ev (some 11) (Ev.assign (show Oper.op _ = Op.assign (Operand.const (Value.int IntKind.i64 1)) from rfl) (by rfl)) (by rfl) (by rfl) ?_
        refine Ls.nil ?_
        refine Cd.block ?_
        refine Cd.loop (ι := Nat) (fun k => [(0, .pointer (some ⟨G.g, 0, none⟩)), (3, .pointer (some ⟨g1, 0, none⟩)), (5, .int .i64 l.length), (11, .int .i64 ((k + 1 : Nat) : Int))]) (fun _ => [blk g1 41 [.int .i64 s, .slice (some ad) l.length c], rdI (some ad) l, G.b m, G.r m]) (fun k => k + 1 ≤ l.length ∧ stepsE m l = stepsE m (l.drop k)) (fun k => l.length - k) (0) (⟨by omega, rfl⟩) ?_ rfl ?_
        · (repeat (first | exact trivial | refine ⟨by rfl, ?_⟩))
        rintro j ⟨hj, hse⟩
        dsimp only at hj hse ⊢
        refine Cd.seq ?_
        refine Cd.seq ?_
        refine Cd.region ?_
        refine Ls.ev (some 56) (Ev.move (show Oper.op _ = Op.move (Operand.tmp 11) from rfl) (by rfl)) (by rfl) (by rfl) ?_
        refine Ls.ev (some 57) (Ev.move (show Oper.op _ = Op.move (Operand.tmp 5) from rfl) (by rfl)) (by rfl) (by rfl) ?_
        refine Ls.ev (some 58) (Ev.lss (show Oper.op _ = Op.binOp BinOp.lss 3 (Operand.tmp 56) (Operand.tmp 57) 3 from rfl) (by rfl) (by rfl)) (by rfl) (by rfl) ?_
        refine Ls.nil ?_
        refine Cd.cond _ (by rfl) (fun h5 => ?_) (fun h5 => ?_)
        · skip
          have hlt : j + 1 < l.length := by have := of_decide_eq_true h5; omega
          obtain ⟨x, hx⟩ := get_of_lt (show j < l.length by omega)
          obtain ⟨y, hy⟩ := get_of_lt hlt
          have hst := stepsE_step (m := m) hx hy
          refine Cd.skip ?_
          refine Cd.seq ?_
          refine Cd.block ?_
          refine Cd.seq ?_
          refine Cd.draw [] (by kernel_rfl) ?_
          refine Rg.ev 0 (by rfl) (fun _ h => h) (Ev.move (show Oper.op _ = Op.move (Operand.tmp 0) from rfl) (by rfl)) (by rfl) (some 61) (by rfl) (by kernel_rfl) (by kernel_rfl) (by kernel_rfl) (by kernel_rfl) ?_
          refine Rg.ev 1 (by rfl) (fun _ h => h) (Ev.fieldAddr (k := 1) (show Oper.op _ = Op.fieldAddr 41 (Operand.tmp 3) 1 from rfl) (by rfl) (by kernel_rfl) (by rfl)) (by rfl) (some 62) (by rfl) (by kernel_rfl) (by kernel_rfl) (by kernel_rfl) (by kernel_rfl) ?_
          refine Rg.ev 2 (by rfl) (fun _ h => h) (Ev.load 0 (show Oper.op _ = Op.load 22 (Operand.tmp 62) from rfl) (by rfl) (by rfl) (by kernel_rfl) (by rfl)) (by rfl) (some 63) (by rfl) (by kernel_rfl) (by kernel_rfl) (by kernel_rfl) (by kernel_rfl) ?_
          refine Rg.ev 3 (by rfl) (fun _ h => h) (Ev.move (show Oper.op _ = Op.move (Operand.tmp 11) from rfl) (by rfl)) (by rfl) (some 64) (by rfl) (by kernel_rfl) (by kernel_rfl) (by kernel_rfl) (by kernel_rfl) ?_
          refine Rg.ev 4 (by rfl) (fun _ h => h) (Ev.to (Ev.subI (show Oper.op _ = Op.binOp BinOp.sub 3 (Operand.tmp 64) (Operand.const (Value.int IntKind.i64 1)) 3 from rfl) (by rfl) (by rfl) (by omega)) (show Value.int _ _ = .int .i64 (j : Nat) by congr 1; omega)) (by rfl) (some 65) (by rfl) (by kernel_rfl) (by kernel_rfl) (by kernel_rfl) (by kernel_rfl) ?_
          refine Rg.ev 5 (by rfl) (fun _ h => h) (Ev.indexAt (sz := 1) (show Oper.op _ = Op.indexAddr 22 (Operand.tmp 63) (Operand.tmp 65) from rfl) (by rfl) (by rfl) Try.underlying22 (by kernel_rfl) (by omega)) (by rfl) (some 66) (by rfl) (by kernel_rfl) (by kernel_rfl) (by kernel_rfl) (by kernel_rfl) ?_
          refine Rg.ev 6 (by rfl) (fun _ h => h) (Ev.loadInt (show Oper.op _ = Op.load 3 (Operand.tmp 66) from rfl) (by rfl) (ReadsIn.rd 1 (by rfl)) (by kernel_rfl) (by assumption)) (by rfl) (some 67) (by rfl) (by kernel_rfl) (by kernel_rfl) (by kernel_rfl) (by kernel_rfl) ?_
          refine Rg.ev 7 (by rfl) (fun _ h => h) (Ev.fieldAddr (k := 1) (show Oper.op _ = Op.fieldAddr 41 (Operand.tmp 3) 1 from rfl) (by rfl) (by kernel_rfl) (by rfl)) (by rfl) (some 68) (by rfl) (by kernel_rfl) (by kernel_rfl) (by kernel_rfl) (by kernel_rfl) ?_
          refine Rg.ev 8 (by rfl) (fun _ h => h) (Ev.load 0 (show Oper.op _ = Op.load 22 (Operand.tmp 68) from rfl) (by rfl) (by rfl) (by kernel_rfl) (by rfl)) (by rfl) (some 69) (by rfl) (by kernel_rfl) (by kernel_rfl) (by kernel_rfl) (by kernel_rfl) ?_
          refine Rg.ev 9 (by rfl) (fun _ h => h) (Ev.move (show Oper.op _ = Op.move (Operand.tmp 11) from rfl) (by rfl)) (by rfl) (some 70) (by rfl) (by kernel_rfl) (by kernel_rfl) (by kernel_rfl) (by kernel_rfl) ?_
          refine Rg.ev 10 (by rfl) (fun _ h => h) (Ev.indexAt (sz := 1) (show Oper.op _ = Op.indexAddr 22 (Operand.tmp 69) (Operand.tmp 70) from rfl) (by rfl) (by rfl) Try.underlying22 (by kernel_rfl) (by omega)) (by rfl) (some 71) (by rfl) (by kernel_rfl) (by kernel_rfl) (by kernel_rfl) (by kernel_rfl) ?_
          refine Rg.ev 11 (by rfl) (fun _ h => h) (Ev.loadInt (show Oper.op _ = Op.load 3 (Operand.tmp 71) from rfl) (by rfl) (ReadsIn.rd 1 (by rfl)) (by kernel_rfl) (by assumption)) (by rfl) (some 72) (by rfl) (by kernel_rfl) (by kernel_rfl) (by kernel_rfl) (by kernel_rfl) ?_
          refine Rg.does 12 (by rfl) (by kernel_rfl) (Does.read (show Oper.op _ = Op.call { callee := Callee.value (Operand.func 58), args := #[Operand.tmp 61, Operand.tmp 67, Operand.tmp 72], argTypes := #[79, 3, 3] } from rfl) Try.func58 (by kernel_rfl) (by kernel_rfl) (hnr x y) (by rfl) (by rfl) ⟨rblkIn 2 (by rfl), rmapIn 3 (by rfl), trivial⟩) (by rfl) (some 73) (by rfl) (by exact fun _ _ h => h) ?_
          rintro _ -
          refine Rg.ev 13 (by rfl) (fun _ h => h) (Ev.not (show Oper.op _ = Op.unOp UnOp.not 4 (Operand.tmp 73) from rfl) (by rfl)) (by rfl) (some 74) (by rfl) (by kernel_rfl) (by kernel_rfl) (by kernel_rfl) (by kernel_rfl) ?_
          refine Rg.done (by kernel_rfl) ?_ _
          refine Cd.cond _ (by rfl) (fun h6 => ?_) (fun h6 => ?_)
          · skip
            have h6 : nearM m x y = false := by simpa using h6
            rw [h6, if_neg (by decide)] at hst
            rw [hse, hst]
            refine Cd.seq ?_
            refine Cd.region ?_
            refine Ls.ev (some 4) (Ev.assign (show Oper.op _ = Op.assign (Operand.const (Value.int IntKind.i64 131)) from rfl) (by rfl)) (by rfl) (by rfl) ?_
            refine Ls.nil ?_
            refine Cd.ret ?_
            refine Ent.ret (()) (trivial) (Res.tmp (by rfl) (by rfl)) ?_ [] (by rfl) ?_
            · rfl
            · rfl
          · skip
            have h6 : nearM m x y = true := by simpa using h6
            rw [h6, if_pos rfl] at hst
            refine Cd.skip ?_
            refine Cd.region ?_
            refine Ls.ev (some 59) (Ev.move (show Oper.op _ = Op.move (Operand.tmp 11) from rfl) (by rfl)) (by rfl) (by rfl) ?_
            refine Ls.ev (some 60) (Ev.addN (b := 1) (show Oper.op _ = Op.binOp BinOp.add 3 (Operand.tmp 59) (Operand.const (Value.int IntKind.i64 1)) 3 from rfl) (by rfl) (by rfl) (by omega)) (by rfl) (by rfl) ?_
            refine Ls.ev (some 11) (Ev.assign (show Oper.op _ = Op.assign (Operand.tmp 60) from rfl) (by rfl)) (by rfl) (by rfl) ?_
            refine Ls.nil ?_
            refine Ent.inv (j + 1) ?_ ?_ ?_
            · (try dsimp only); exact ⟨⟨by omega, by rw [hse, hst]⟩, by omega⟩
            · (repeat (first | exact trivial | refine ⟨by rfl, ?_⟩ | refine ⟨by simp only [List.length_append, List.length_cons, List.length_nil]; rfl, ?_⟩ | refine ⟨by push_cast; rfl, ?_⟩))
            · rfl
        · skip
          have hjl : j + 1 = l.length := by have := of_decide_eq_false h5; omega
          have h0 : stepsE m l = 0 := by rw [hse]; exact stepsE_end (by rw [List.length_drop]; omega)
          rw [h0]
          refine Cd.exit ?_
          refine Cd.seq ?_
          refine Cd.region ?_
          refine Ls.ev (some 4) (Ev.assign (show Oper.op _ = Op.assign (Operand.const (Value.int IntKind.i64 0)) from rfl) (by rfl)) (by rfl) (by rfl) ?_
          refine Ls.nil ?_
          refine Cd.ret ?_
          refine Ent.ret (()) (trivial) (Res.tmp (by rfl) (by rfl)) ?_ [] (by rfl) ?_
          · rfl
          · rfl
end
/-- A map as it is handed in. -/
def mapV (m : MapP) (A : Option Addr) (c : Nat) : List Value := [.int .i64 m.w, .int .i64 m.h, .int .i64 m.sh, .slice A m.bl.length c]
def dimB (m : MapP) : Bool := decide (m.w < 1 ∨ 16 < m.w ∨ m.h < 1 ∨ 16 < m.h ∨ m.sh < 1 ∨ 4 < m.sh ∨ m.w < m.sh)
theorem goodM_dim (m : MapP) : goodM m = (!dimB m && m.bl.all (isM m)) := by
  unfold goodM dimB
  rw [← decide_not]
  congr 1
  refine decide_eq_decide.2 ?_
  omega
def mapK (m : MapP) (k : Nat) (c : Int) : Option Value := if c ∈ m.bl.take k then some (.int .i64 1) else none
theorem mapK_step {m : MapP} {k : Nat} {x : Int} (h : m.bl[k]? = some x) : mapK m (k + 1) = putI (mapK m k) x (.int .i64 1) := by
  funext c
  unfold mapK putI
  rw [List.take_add_one, h]
  by_cases hc : c = x
  · rw [if_pos hc, if_pos (by rw [hc]; simp)]
  · rw [if_neg hc]
    have : c ∈ m.bl.take k ++ (some x).toList ↔ c ∈ m.bl.take k := by
      rw [List.mem_append]
      constructor
      · rintro (h | h)
        · exact h
        · exact absurd (by simpa using h) hc
      · exact .inl
    simp only [this]
theorem isM_dim {m : MapP} (h : dimB m = false) : m.w * m.h ≤ 256 ∧ 1 ≤ m.w ∧ m.w ≤ 16 ∧ 1 ≤ m.h ∧ m.h ≤ 16 ∧ 1 ≤ m.w * m.h := by
  have : goodM ⟨m.w, m.h, m.sh, []⟩ = true := by
    rw [goodM_dim]
    show (!dimB m && true) = true
    rw [h]; rfl
  exact wh_le (m := ⟨m.w, m.h, m.sh, []⟩) this
theorem inj_int : ∀ x y : Int, Value.int .i64 x = Value.int .i64 y → x = y := fun x y h => by injection h
theorem gnew_sl (m : MapP) (A : Option Addr) (c : Nat) (hl : m.bl.length ≤ 17592186044415) : Fn Try.prog 25 #[.agg (mapV m A c).toArray] [rdI A m.bl] GrS (fun G => .tuple #[bif goodM m then .pointer (some ⟨G.g, 0, none⟩) else .pointer none, .int .i64 (bif goodM m then 0 else 120)])
    (fun G => bif goodM m then [blk G.g 101 (G.vals m), mapo Try.prog 3 G.mb m.bl.length (.int .i64 0) (Value.int .i64) (mapF m)] else []) (fun _ => True) := by
  obtain ⟨w, h, sh, bl⟩ := m
  dsimp only [mapV] at hl ⊢
  have hg := goodM_dim ⟨w, h, sh, bl⟩
  have hd : dimB ⟨w, h, sh, bl⟩ = decide (w < 1 ∨ 16 < w ∨ h < 1 ∨ 16 < h ∨ sh < 1 ∨ 4 < sh ∨ w < sh) := rfl
  refine Fn.enter Try.func25 rfl Try.ntmps25 (by rfl) ?_
  intro w0
  refine Cd.seq ?_
  refine Cd.region ?_
  refine Ls.does (some 1) (Does.box (show Oper.op _ = Op.box 24 (Operand.tmp 0) from rfl) (by rfl)) (by rfl) (by rfl) ?_
  intro g1 _
  refine Ls.ev (some 2) (Ev.assign (show Oper.op _ = Op.assign (Operand.const (Value.pointer none)) from rfl) (by rfl)) (by rfl) (by rfl) ?_
  refine Ls.ev (some 3) (Ev.assign (show Oper.op _ = Op.assign (Operand.const (Value.int IntKind.i64 0)) from rfl) (by rfl)) (by rfl) (by rfl) ?_
  refine Ls.nil ?_
  refine Cd.seq ?_
  refine Cd.seq ?_
  refine Cd.cut (ι := Unit) (fun _ => [(1, .pointer (some ⟨g1, 0, none⟩)), (37, .bool (decide (w < 1 ∨ 16 < w ∨ h < 1 ∨ 16 < h ∨ sh < 1 ∨ 4 < sh ∨ w < sh)))]) (fun _ => [blk g1 24 [.int .i64 w, .int .i64 h, .int .i64 sh, .slice A bl.length c], rdI A bl]) (fun _ => True) ?_ ?_
  · skip
    refine Cd.region ?_
    refine Ls.ev (some 7) (Ev.fieldAddr (k := 0) (show Oper.op _ = Op.fieldAddr 24 (Operand.tmp 1) 0 from rfl) (by rfl) (by kernel_rfl) (by rfl)) (by rfl) (by rfl) ?_
    refine Ls.ev (some 8) (Ev.load 0 (show Oper.op _ = Op.load 3 (Operand.tmp 7) from rfl) (by rfl) (by rfl) (by kernel_rfl) (by rfl)) (by rfl) (by rfl) ?_
    refine Ls.ev (some 9) (Ev.lss (show Oper.op _ = Op.binOp BinOp.lss 3 (Operand.tmp 8) (Operand.const (Value.int IntKind.i64 1)) 3 from rfl) (by rfl) (by rfl)) (by rfl) (by rfl) ?_
    refine Ls.ev (some 10) (Ev.move (show Oper.op _ = Op.move (Operand.tmp 9) from rfl) (by rfl)) (by rfl) (by rfl) ?_
    refine Ent.split 10 (by rfl) (fun hT1 => ?_) (fun hT1 => ?_)
    · first | have hT1 := of_decide_eq_false hT1 | have hT1 := of_not_decide_false hT1 | skip
      refine Ls.ev (some 11) (Ev.fieldAddr (k := 0) (show Oper.op _ = Op.fieldAddr 24 (Operand.tmp 1) 0 from rfl) (by rfl) (by kernel_rfl) (by rfl)) (by rfl) (by rfl) ?_
      refine Ls.ev (some 12) (Ev.load 0 (show Oper.op _ = Op.load 3 (Operand.tmp 11) from rfl) (by rfl) (by rfl) (by kernel_rfl) (by rfl)) (by rfl) (by rfl) ?_
      refine Ls.ev (some 13) (Ev.gtr (show Oper.op _ = Op.binOp BinOp.gtr 3 (Operand.tmp 12) (Operand.const (Value.int IntKind.i64 16)) 3 from rfl) (by rfl) (by rfl)) (by rfl) (by rfl) ?_
      refine Ls.ev (some 14) (Ev.pickF (show Oper.op _ = Op.pick (Operand.tmp 10) (Operand.const (Value.bool true)) (Operand.tmp 13) from rfl) (by rfl) (by rfl)) (by rfl) (by rfl) ?_
      refine Ls.ev (some 15) (Ev.move (show Oper.op _ = Op.move (Operand.tmp 14) from rfl) (by rfl)) (by rfl) (by rfl) ?_
      refine Ent.split 15 (by rfl) (fun hT2 => ?_) (fun hT2 => ?_)
      · first | have hT2 := of_decide_eq_false hT2 | have hT2 := of_not_decide_false hT2 | skip
        refine Ls.ev (some 16) (Ev.fieldAddr (k := 1) (show Oper.op _ = Op.fieldAddr 24 (Operand.tmp 1) 1 from rfl) (by rfl) (by kernel_rfl) (by rfl)) (by rfl) (by rfl) ?_
        refine Ls.ev (some 17) (Ev.load 0 (show Oper.op _ = Op.load 3 (Operand.tmp 16) from rfl) (by rfl) (by rfl) (by kernel_rfl) (by rfl)) (by rfl) (by rfl) ?_
        refine Ls.ev (some 18) (Ev.lss (show Oper.op _ = Op.binOp BinOp.lss 3 (Operand.tmp 17) (Operand.const (Value.int IntKind.i64 1)) 3 from rfl) (by rfl) (by rfl)) (by rfl) (by rfl) ?_
        refine Ls.ev (some 19) (Ev.pickF (show Oper.op _ = Op.pick (Operand.tmp 15) (Operand.const (Value.bool true)) (Operand.tmp 18) from rfl) (by rfl) (by rfl)) (by rfl) (by rfl) ?_
        refine Ls.ev (some 20) (Ev.move (show Oper.op _ = Op.move (Operand.tmp 19) from rfl) (by rfl)) (by rfl) (by rfl) ?_
        refine Ent.split 20 (by rfl) (fun hT3 => ?_) (fun hT3 => ?_)
        · first | have hT3 := of_decide_eq_false hT3 | have hT3 := of_not_decide_false hT3 | skip
          refine Ls.ev (some 21) (Ev.fieldAddr (k := 1) (show Oper.op _ = Op.fieldAddr 24 (Operand.tmp 1) 1 from rfl) (by rfl) (by kernel_rfl) (by rfl)) (by rfl) (by rfl) ?_
          refine Ls.ev (some 22) (Ev.load 0 (show Oper.op _ = Op.load 3 (Operand.tmp 21) from rfl) (by rfl) (by rfl) (by kernel_rfl) (by rfl)) (by rfl) (by rfl) ?_
          refine Ls.ev (some 23) (Ev.gtr (show Oper.op _ = Op.binOp BinOp.gtr 3 (Operand.tmp 22) (Operand.const (Value.int IntKind.i64 16)) 3 from rfl) (by rfl) (by rfl)) (by rfl) (by rfl) ?_
          refine Ls.ev (some 24) (Ev.pickF (show Oper.op _ = Op.pick (Operand.tmp 20) (Operand.const (Value.bool true)) (Operand.tmp 23) from rfl) (by rfl) (by rfl)) (by rfl) (by rfl) ?_
          refine Ls.ev (some 25) (Ev.move (show Oper.op _ = Op.move (Operand.tmp 24) from rfl) (by rfl)) (by rfl) (by rfl) ?_
          refine Ent.split 25 (by rfl) (fun hT4 => ?_) (fun hT4 => ?_)
          · first | have hT4 := of_decide_eq_false hT4 | have hT4 := of_not_decide_false hT4 | skip
            refine Ls.ev (some 26) (Ev.fieldAddr (k := 2) (show Oper.op _ = Op.fieldAddr 24 (Operand.tmp 1) 2 from rfl) (by rfl) (by kernel_rfl) (by rfl)) (by rfl) (by rfl) ?_
            refine Ls.ev (some 27) (Ev.load 0 (show Oper.op _ = Op.load 3 (Operand.tmp 26) from rfl) (by rfl) (by rfl) (by kernel_rfl) (by rfl)) (by rfl) (by rfl) ?_
            refine Ls.ev (some 28) (Ev.lss (show Oper.op _ = Op.binOp BinOp.lss 3 (Operand.tmp 27) (Operand.const (Value.int IntKind.i64 1)) 3 from rfl) (by rfl) (by rfl)) (by rfl) (by rfl) ?_
            refine Ls.ev (some 29) (Ev.pickF (show Oper.op _ = Op.pick (Operand.tmp 25) (Operand.const (Value.bool true)) (Operand.tmp 28) from rfl) (by rfl) (by rfl)) (by rfl) (by rfl) ?_
            refine Ls.ev (some 30) (Ev.move (show Oper.op _ = Op.move (Operand.tmp 29) from rfl) (by rfl)) (by rfl) (by rfl) ?_
            refine Ent.split 30 (by rfl) (fun hT5 => ?_) (fun hT5 => ?_)
            · first | have hT5 := of_decide_eq_false hT5 | have hT5 := of_not_decide_false hT5 | skip
              refine Ls.ev (some 31) (Ev.fieldAddr (k := 2) (show Oper.op _ = Op.fieldAddr 24 (Operand.tmp 1) 2 from rfl) (by rfl) (by kernel_rfl) (by rfl)) (by rfl) (by rfl) ?_
              refine Ls.ev (some 32) (Ev.load 0 (show Oper.op _ = Op.load 3 (Operand.tmp 31) from rfl) (by rfl) (by rfl) (by kernel_rfl) (by rfl)) (by rfl) (by rfl) ?_
              refine Ls.ev (some 33) (Ev.fieldAddr (k := 0) (show Oper.op _ = Op.fieldAddr 24 (Operand.tmp 1) 0 from rfl) (by rfl) (by kernel_rfl) (by rfl)) (by rfl) (by rfl) ?_
              refine Ls.ev (some 34) (Ev.load 0 (show Oper.op _ = Op.load 3 (Operand.tmp 33) from rfl) (by rfl) (by rfl) (by kernel_rfl) (by rfl)) (by rfl) (by rfl) ?_
              refine Ls.ev (some 35) (Ev.min (show Oper.op _ = Op.call { callee := Callee.builtin Builtin.min, args := #[Operand.const (Value.int IntKind.i64 4), Operand.tmp 34], argTypes := #[3, 3] } from rfl) (by rfl) (by rfl)) (by rfl) (by rfl) ?_
              refine Ls.ev (some 36) (Ev.gtr (show Oper.op _ = Op.binOp BinOp.gtr 3 (Operand.tmp 32) (Operand.tmp 35) 3 from rfl) (by rfl) (by rfl)) (by rfl) (by rfl) ?_
              refine Ls.ev (some 37) (Ev.pickF (show Oper.op _ = Op.pick (Operand.tmp 30) (Operand.const (Value.bool true)) (Operand.tmp 36) from rfl) (by rfl) (by rfl)) (by rfl) (by rfl) ?_
              refine Ls.nil ?_
              refine Ent.pick [0, 1] (by rfl) ?_
              refine Ent.inv () ?_ ?_ ?_
              · exact trivial
              · (repeat (first | exact trivial | refine ⟨by rfl, ?_⟩ | refine ⟨by simp only [List.length_append, List.length_cons, List.length_nil]; rfl, ?_⟩ | refine ⟨by push_cast; rfl, ?_⟩ | refine ⟨by (show some (Value.bool _) = some (Value.bool _); congr 2; (first | rfl | exact (decide_eq_true (by omega)).symm | exact (decide_eq_false (by omega)).symm | exact decide_eq_decide.2 (by omega) | exact decide_eq_decide.2 (by split <;> omega))), ?_⟩))
              · rfl
            · first | have hT5 := of_decide_eq_true hT5 | have hT5 := of_not_decide_true hT5 | skip
              refine Ls.pass (some 31) (by rfl) (by rfl) ?_
              refine Ls.pass (some 32) (by rfl) (by rfl) ?_
              refine Ls.pass (some 33) (by rfl) (by rfl) ?_
              refine Ls.pass (some 34) (by rfl) (by rfl) ?_
              refine Ls.pass (some 35) (by rfl) (by rfl) ?_
              refine Ls.pass (some 36) (by rfl) (by rfl) ?_
              refine Ls.ev (some 37) (Ev.pickT (show Oper.op _ = Op.pick (Operand.tmp 30) (Operand.const (Value.bool true)) (Operand.tmp 36) from rfl) (by rfl) (by rfl)) (by rfl) (by rfl) ?_
              refine Ls.nil ?_
              refine Ent.pick [0, 1] (by rfl) ?_
              refine Ent.inv () ?_ ?_ ?_
              · exact trivial
              · (repeat (first | exact trivial | refine ⟨by rfl, ?_⟩ | refine ⟨by simp only [List.length_append, List.length_cons, List.length_nil]; rfl, ?_⟩ | refine ⟨by push_cast; rfl, ?_⟩ | refine ⟨by (show some (Value.bool _) = some (Value.bool _); congr 2; (first | rfl | exact (decide_eq_true (by omega)).symm | exact (decide_eq_false (by omega)).symm | exact decide_eq_decide.2 (by omega) | exact decide_eq_decide.2 (by split <;> omega))), ?_⟩))
              · rfl
          · first | have hT4 := of_decide_eq_true hT4 | have hT4 := of_not_decide_true hT4 | skip
            refine Ls.pass (some 26) (by rfl) (by rfl) ?_
            refine Ls.pass (some 27) (by rfl) (by rfl) ?_
            refine Ls.pass (some 28) (by rfl) (by rfl) ?_
            refine Ls.ev (some 29) (Ev.pickT (show Oper.op _ = Op.pick (Operand.tmp 25) (Operand.const (Value.bool true)) (Operand.tmp 28) from rfl) (by rfl) (by rfl)) (by rfl) (by rfl) ?_
            refine Ls.ev (some 30) (Ev.move (show Oper.op _ = Op.move (Operand.tmp 29) from rfl) (by rfl)) (by rfl) (by rfl) ?_
            refine Ls.pass (some 31) (by rfl) (by rfl) ?_
            refine Ls.pass (some 32) (by rfl) (by rfl) ?_
            refine Ls.pass (some 33) (by rfl) (by rfl) ?_
            refine Ls.pass (some 34) (by rfl) (by rfl) ?_
            refine Ls.pass (some 35) (by rfl) (by rfl) ?_
            refine Ls.pass (some 36) (by rfl) (by rfl) ?_
            refine Ls.ev (some 37) (Ev.pickT (show Oper.op _ = Op.pick (Operand.tmp 30) (Operand.const (Value.bool true)) (Operand.tmp 36) from rfl) (by rfl) (by rfl)) (by rfl) (by rfl) ?_
            refine Ls.nil ?_
            refine Ent.pick [0, 1] (by rfl) ?_
            refine Ent.inv () ?_ ?_ ?_
            · exact trivial
            · (repeat (first | exact trivial | refine ⟨by rfl, ?_⟩ | refine ⟨by simp only [List.length_append, List.length_cons, List.length_nil]; rfl, ?_⟩ | refine ⟨by push_cast; rfl, ?_⟩ | refine ⟨by (show some (Value.bool _) = some (Value.bool _); congr 2; (first | rfl | exact (decide_eq_true (by omega)).symm | exact (decide_eq_false (by omega)).symm | exact decide_eq_decide.2 (by omega) | exact decide_eq_decide.2 (by split <;> omega))), ?_⟩))
            · rfl
        · first | have hT3 := of_decide_eq_true hT3 | have hT3 := of_not_decide_true hT3 | skip
          refine Ls.pass (some 21) (by rfl) (by rfl) ?_
          refine Ls.pass (some 22) (by rfl) (by rfl) ?_
          refine Ls.pass (some 23) (by rfl) (by rfl) ?_
          refine Ls.ev (some 24) (Ev.pickT (show Oper.op _ = Op.pick (Operand.tmp 20) (Operand.const (Value.bool true)) (Operand.tmp 23) from rfl) (by rfl) (by rfl)) (by rfl) (by rfl) ?_
          refine Ls.ev (some 25) (Ev.move (show Oper.op _ = Op.move (Operand.tmp 24) from rfl) (by rfl)) (by rfl) (by rfl) ?_
          refine Ls.pass (some 26) (by rfl) (by rfl) ?_
          refine Ls.pass (some 27) (by rfl) (by rfl) ?_
          refine Ls.pass (some 28) (by rfl) (by rfl) ?_
          refine Ls.ev (some 29) (Ev.pickT (show Oper.op _ = Op.pick (Operand.tmp 25) (Operand.const (Value.bool true)) (Operand.tmp 28) from rfl) (by rfl) (by rfl)) (by rfl) (by rfl) ?_
          refine Ls.ev (some 30) (Ev.move (show Oper.op _ = Op.move (Operand.tmp 29) from rfl) (by rfl)) (by rfl) (by rfl) ?_
          refine Ls.pass (some 31) (by rfl) (by rfl) ?_
          refine Ls.pass (some 32) (by rfl) (by rfl) ?_
          refine Ls.pass (some 33) (by rfl) (by rfl) ?_
          refine Ls.pass (some 34) (by rfl) (by rfl) ?_
          refine Ls.pass (some 35) (by rfl) (by rfl) ?_
          refine Ls.pass (some 36) (by rfl) (by rfl) ?_
          refine Ls.ev (some 37) (Ev.pickT (show Oper.op _ = Op.pick (Operand.tmp 30) (Operand.const (Value.bool true)) (Operand.tmp 36) from rfl) (by rfl) (by rfl)) (by rfl) (by rfl) ?_
          refine Ls.nil ?_
          refine Ent.pick [0, 1] (by rfl) ?_
          refine Ent.inv () ?_ ?_ ?_
          · exact trivial
          · (repeat (first | exact trivial | refine ⟨by rfl, ?_⟩ | refine ⟨by simp only [List.length_append, List.length_cons, List.length_nil]; rfl, ?_⟩ | refine ⟨by push_cast; rfl, ?_⟩ | refine ⟨by (show some (Value.bool _) = some (Value.bool _); congr 2; (first | rfl | exact (decide_eq_true (by omega)).symm | exact (decide_eq_false (by omega)).symm | exact decide_eq_decide.2 (by omega) | exact decide_eq_decide.2 (by split <;> omega))), ?_⟩))
          · rfl
      · first | have hT2 := of_decide_eq_true hT2 | have hT2 := of_not_decide_true hT2 | skip
        refine Ls.pass (some 16) (by rfl) (by rfl) ?_
        refine Ls.pass (some 17) (by rfl) (by rfl) ?_
        refine Ls.pass (some 18) (by rfl) (by rfl) ?_
        refine Ls.ev (some 19) (Ev.pickT (show Oper.op _ = Op.pick (Operand.tmp 15) (Operand.const (Value.bool true)) (Operand.tmp 18) from rfl) (by rfl) (by rfl)) (by rfl) (by rfl) ?_
        refine Ls.ev (some 20) (Ev.move (show Oper.op _ = Op.move (Operand.tmp 19) from rfl) (by rfl)) (by rfl) (by rfl) ?_
        refine Ls.pass (some 21) (by rfl) (by rfl) ?_
        refine Ls.pass (some 22) (by rfl) (by rfl) ?_
        refine Ls.pass (some 23) (by rfl) (by rfl) ?_
        refine Ls.ev (some 24) (Ev.pickT (show Oper.op _ = Op.pick (Operand.tmp 20) (Operand.const (Value.bool true)) (Operand.tmp 23) from rfl) (by rfl) (by rfl)) (by rfl) (by rfl) ?_
        refine Ls.ev (some 25) (Ev.move (show Oper.op _ = Op.move (Operand.tmp 24) from rfl) (by rfl)) (by rfl) (by rfl) ?_
        refine Ls.pass (some 26) (by rfl) (by rfl) ?_
        refine Ls.pass (some 27) (by rfl) (by rfl) ?_
        refine Ls.pass (some 28) (by rfl) (by rfl) ?_
        refine Ls.ev (some 29) (Ev.pickT (show Oper.op _ = Op.pick (Operand.tmp 25) (Operand.const (Value.bool true)) (Operand.tmp 28) from rfl) (by rfl) (by rfl)) (by rfl) (by rfl) ?_
        refine Ls.ev (some 30) (Ev.move (show Oper.op _ = Op.move (Operand.tmp 29) from rfl) (by rfl)) (by rfl) (by rfl) ?_
        refine Ls.pass (some 31) (by rfl) (by rfl) ?_
        refine Ls.pass (some 32) (by rfl) (by rfl) ?_
        refine Ls.pass (some 33) (by rfl) (by rfl) ?_
        refine Ls.pass (some 34) (by rfl) (by rfl) ?_
        refine Ls.pass (some 35) (by rfl) (by rfl) ?_
        refine Ls.pass (some 36) (by rfl) (by rfl) ?_
        refine Ls.ev (some 37) (Ev.pickT (show Oper.op _ = Op.pick (Operand.tmp 30) (Operand.const (Value.bool true)) (Operand.tmp 36) from rfl) (by rfl) (by rfl)) (by rfl) (by rfl) ?_
        refine Ls.nil ?_
        refine Ent.pick [0, 1] (by rfl) ?_
        refine Ent.inv () ?_ ?_ ?_
        · exact trivial
        · (repeat (first | exact trivial | refine ⟨by rfl, ?_⟩ | refine ⟨by simp only [List.length_append, List.length_cons, List.length_nil]; rfl, ?_⟩ | refine ⟨by push_cast; rfl, ?_⟩ | refine ⟨by (show some (Value.bool _) = some (Value.bool _); congr 2; (first | rfl | exact (decide_eq_true (by omega)).symm | exact (decide_eq_false (by omega)).symm | exact decide_eq_decide.2 (by omega) | exact decide_eq_decide.2 (by split <;> omega))), ?_⟩))
        · rfl
    · first | have hT1 := of_decide_eq_true hT1 | have hT1 := of_not_decide_true hT1 | skip
      refine Ls.pass (some 11) (by rfl) (by rfl) ?_
      refine Ls.pass (some 12) (by rfl) (by rfl) ?_
      refine Ls.pass (some 13) (by rfl) (by rfl) ?_
      refine Ls.ev (some 14) (Ev.pickT (show Oper.op _ = Op.pick (Operand.tmp 10) (Operand.const (Value.bool true)) (Operand.tmp 13) from rfl) (by rfl) (by rfl)) (by rfl) (by rfl) ?_
      refine Ls.ev (some 15) (Ev.move (show Oper.op _ = Op.move (Operand.tmp 14) from rfl) (by rfl)) (by rfl) (by rfl) ?_
      refine Ls.pass (some 16) (by rfl) (by rfl) ?_
      refine Ls.pass (some 17) (by rfl) (by rfl) ?_
      refine Ls.pass (some 18) (by rfl) (by rfl) ?_
      refine Ls.ev (some 19) (Ev.pickT (show Oper.op _ = Op.pick (Operand.tmp 15) (Operand.const (Value.bool true)) (Operand.tmp 18) from rfl) (by rfl) (by rfl)) (by rfl) (by rfl) ?_
      refine Ls.ev (some 20) (Ev.move (show Oper.op _ = Op.move (Operand.tmp 19) from rfl) (by rfl)) (by rfl) (by rfl) ?_
      refine Ls.pass (some 21) (by rfl) (by rfl) ?_
      refine Ls.pass (some 22) (by rfl) (by rfl) ?_
      refine Ls.pass (some 23) (by rfl) (by rfl) ?_
      refine Ls.ev (some 24) (Ev.pickT (show Oper.op _ = Op.pick (Operand.tmp 20) (Operand.const (Value.bool true)) (Operand.tmp 23) from rfl) (by rfl) (by rfl)) (by rfl) (by rfl) ?_
      refine Ls.ev (some 25) (Ev.move (show Oper.op _ = Op.move (Operand.tmp 24) from rfl) (by rfl)) (by rfl) (by rfl) ?_
      refine Ls.pass (some 26) (by rfl) (by rfl) ?_
      refine Ls.pass (some 27) (by rfl) (by rfl) ?_
      refine Ls.pass (some 28) (by rfl) (by rfl) ?_
      refine Ls.ev (some 29) (Ev.pickT (show Oper.op _ = Op.pick (Operand.tmp 25) (Operand.const (Value.bool true)) (Operand.tmp 28) from rfl) (by rfl) (by rfl)) (by rfl) (by rfl) ?_
      refine Ls.ev (some 30) (Ev.move (show Oper.op _ = Op.move (Operand.tmp 29) from rfl) (by rfl)) (by rfl) (by rfl) ?_
      refine Ls.pass (some 31) (by rfl) (by rfl) ?_
      refine Ls.pass (some 32) (by rfl) (by rfl) ?_
      refine Ls.pass (some 33) (by rfl) (by rfl) ?_
      refine Ls.pass (some 34) (by rfl) (by rfl) ?_
      refine Ls.pass (some 35) (by rfl) (by rfl) ?_
      refine Ls.pass (some 36) (by rfl) (by rfl) ?_
      refine Ls.ev (some 37) (Ev.pickT (show Oper.op _ = Op.pick (Operand.tmp 30) (Operand.const (Value.bool true)) (Operand.tmp 36) from rfl) (by rfl) (by rfl)) (by rfl) (by rfl) ?_
      refine Ls.nil ?_
      refine Ent.pick [0, 1] (by rfl) ?_
      refine Ent.inv () ?_ ?_ ?_
      · exact trivial
      · (repeat (first | exact trivial | refine ⟨by rfl, ?_⟩ | refine ⟨by simp only [List.length_append, List.length_cons, List.length_nil]; rfl, ?_⟩ | refine ⟨by push_cast; rfl, ?_⟩ | refine ⟨by (show some (Value.bool _) = some (Value.bool _); congr 2; (first | rfl | exact (decide_eq_true (by omega)).symm | exact (decide_eq_false (by omega)).symm | exact decide_eq_decide.2 (by omega) | exact decide_eq_decide.2 (by split <;> omega))), ?_⟩))
      · rfl
  skip
  rintro _ -
  refine Cd.cond _ (by rfl) (fun h1 => ?_) (fun h1 => ?_)
  · skip
    rw [hd, h1] at hg
    have hg : goodM ⟨w, h, sh, bl⟩ = false := by rw [hg]; rfl
    rw [hg]
    refine Cd.seq ?_
    refine Cd.region ?_
    refine Ls.ev (some 2) (Ev.assign (show Oper.op _ = Op.assign (Operand.const (Value.pointer none)) from rfl) (by rfl)) (by rfl) (by rfl) ?_
    refine Ls.ev (some 3) (Ev.assign (show Oper.op _ = Op.assign (Operand.const (Value.int IntKind.i64 120)) from rfl) (by rfl)) (by rfl) (by rfl) ?_
    refine Ls.nil ?_
    refine Cd.ret ?_
    refine Ent.ret (default) (trivial) (Res.tmp2 (by rfl) (by rfl) (by rfl)) ?_ [] (by rfl) ?_
    · rfl
    · rfl
  · skip
    rw [hd, h1] at hg
    have hw := isM_dim (m := ⟨w, h, sh, bl⟩) (hd.trans h1)
    have hg : goodM ⟨w, h, sh, bl⟩ = bl.all (isM ⟨w, h, sh, bl⟩) := by rw [hg]; rfl
    dsimp only at hw
    have hi := fun (G : GrS) => gis_of G ⟨w, h, sh, bl⟩ hw
    refine Cd.skip ?_
    refine Cd.seq ?_
    refine Cd.region ?_
    refine Ls.ev (some 38) (Ev.loads 0 (show Oper.op _ = Op.load 24 (Operand.tmp 1) from rfl) (by rfl) (by rfl) (n := 4) (by kernel_rfl) (by rfl) (by rfl)) (by rfl) (by rfl) ?_
    refine Ls.does (some 39) (Does.mapNewO 3 (.int .i64 0) (Value.int .i64) (show Oper.op _ = Op.makeMap 72 none from rfl)) (by rfl) (by rfl) ?_
    intro mb _
    refine Ls.ev (some 40) (Ev.buildP (pl := [(0, 4), (4, 1)]) (zs := [.int .i64 0, .int .i64 0, .int .i64 0, .slice none 0 0, .map none]) (show Oper.op _ = Op.build 101 #[(0, Operand.tmp 38), (1, Operand.tmp 39)] from rfl) (by rfl) (by kernel_rfl) (by rfl)) (by rfl) (by rfl) ?_
    refine Ls.does (some 41) (Does.box (show Oper.op _ = Op.box 101 (Operand.tmp 40) from rfl) (by rfl)) (by rfl) (by rfl) ?_
    intro g2 _
    refine Ls.ev (some 4) (Ev.assign (show Oper.op _ = Op.assign (Operand.tmp 41) from rfl) (by rfl)) (by rfl) (by rfl) ?_
    refine Ls.nil ?_
    refine Cd.seq ?_
    refine Cd.region ?_
    refine Ls.ev (some 42) (Ev.move (show Oper.op _ = Op.move (Operand.tmp 4) from rfl) (by rfl)) (by rfl) (by rfl) ?_
    refine Ls.ev (some 43) (Ev.fieldAddr (k := 3) (show Oper.op _ = Op.fieldAddr 24 (Operand.tmp 1) 3 from rfl) (by rfl) (by kernel_rfl) (by rfl)) (by rfl) (by rfl) ?_
    refine Ls.ev (some 44) (Ev.load 2 (show Oper.op _ = Op.load 22 (Operand.tmp 43) from rfl) (by rfl) (by rfl) (by kernel_rfl) (by rfl)) (by rfl) (by rfl) ?_
    refine Ls.does (some 45) (Does.readN (show Oper.op _ = Op.call { callee := Callee.value (Operand.func 42), args := #[Operand.tmp 44], argTypes := #[22] } from rfl) Try.func42 (by kernel_rfl) (by kernel_rfl) (clone_sl A bl.length c bl (by omega)) (by rfl) (by rfl) ⟨ReadsIn.rd 3 (by rfl), trivial⟩ (fun _ => by rfl)) (by rfl) (by rfl) ?_
    intro q _
    refine Ls.ev (some 46) (Ev.nilCheck (show Oper.op _ = Op.nilCheck (Operand.tmp 42) from rfl) (by rfl)) (by rfl) (by rfl) ?_
    refine Ls.ev (some 47) (Ev.fieldAddr (k := 0) (show Oper.op _ = Op.fieldAddr 101 (Operand.tmp 46) 0 from rfl) (by rfl) (by kernel_rfl) (by rfl)) (by rfl) (by rfl) ?_
    refine Ls.ev (some 48) (Ev.fieldAddr (k := 3) (show Oper.op _ = Op.fieldAddr 24 (Operand.tmp 47) 3 from rfl) (by rfl) (by kernel_rfl) (by rfl)) (by rfl) (by rfl) ?_
    refine Ls.does none (Does.store 1 (show Oper.op _ = Op.store 22 (Operand.tmp 48) (Operand.tmp 45) from rfl) (by rfl) (by rfl) (by rfl) (by kernel_rfl) (by rfl) (by kernel_rfl) (by rfl)) (by rfl) (by rfl) ?_
    intro _ _
    refine Ls.nil ?_
    refine Cd.seq ?_
    refine Cd.seq ?_
    refine Cd.region ?_
    refine Ls.ev (some 49) (Ev.fieldAddr (k := 3) (show Oper.op _ = Op.fieldAddr 24 (Operand.tmp 1) 3 from rfl) (by rfl) (by kernel_rfl) (by rfl)) (by rfl) (by rfl) ?_
    refine Ls.ev (some 50) (Ev.load 3 (show Oper.op _ = Op.load 22 (Operand.tmp 49) from rfl) (by rfl) (by rfl) (by kernel_rfl) (by rfl)) (by rfl) (by rfl) ?_
    refine Ls.ev (some 51) (Ev.len (show Oper.op _ = Op.call { callee := Callee.builtin Builtin.len, args := #[Operand.tmp 50], argTypes := #[22] } from rfl) (by rfl) Try.underlying22) (by rfl) (by rfl) ?_
    refine Ls.ev (some 52) (Ev.move (show Oper.op _ = Op.move (Operand.const (Value.int IntKind.i64 0)) from rfl) (by rfl)) (by rfl) (by rfl) ?_
    refine Ls.nil ?_
    refine Cd.block ?_
    refine Ent.pick [1, 2, 3, 4] (by rfl) ?_
    refine Cd.loop (ι := Nat) (fun k => [(4, .pointer (some ⟨g2, 0, none⟩)), (50, .slice A bl.length c), (51, .int .i64 bl.length), (52, .int .i64 k)]) (fun k => [blk g2 101 [.int .i64 w, .int .i64 h, .int .i64 sh, .slice q.1 bl.length q.2, .map (some mb)], mapo Try.prog 3 mb k (.int .i64 0) (Value.int .i64) (mapK ⟨w, h, sh, bl⟩ k), blk g1 24 [.int .i64 w, .int .i64 h, .int .i64 sh, .slice A bl.length c], rdI A bl]) (fun k => k ≤ bl.length ∧ (bl.take k).all (isM ⟨w, h, sh, bl⟩) = true) (fun k => bl.length - k) (0) (⟨Nat.zero_le _, rfl⟩) ?_ rfl ?_
    · (repeat (first | exact trivial | refine ⟨by rfl, ?_⟩))
    rintro k ⟨hk, hal⟩
    dsimp only at hk hal ⊢
    refine Cd.seq ?_
    refine Cd.region ?_
    refine Ls.ev (some 53) (Ev.lss (show Oper.op _ = Op.binOp BinOp.lss 3 (Operand.tmp 52) (Operand.tmp 51) 3 from rfl) (by rfl) (by rfl)) (by rfl) (by rfl) ?_
    refine Ls.nil ?_
    refine Cd.seq ?_
    refine Cd.cond _ (by rfl) (fun h2 => ?_) (fun h2 => ?_)
    · skip
      have hlt : k < bl.length := by have := of_decide_eq_true h2; omega
      obtain ⟨x, hx⟩ := get_of_lt hlt
      refine Ent.rdSome 3 (by rfl) (by omega) (fun ad had => ?_)
      subst had
      refine Cd.skip ?_
      refine Cd.seq ?_
      refine Cd.block ?_
      refine Cd.seq ?_
      refine Cd.region ?_
      refine Ls.ev (some 54) (Ev.indexAt (sz := 1) (show Oper.op _ = Op.indexAddr 22 (Operand.tmp 50) (Operand.tmp 52) from rfl) (by rfl) (by rfl) Try.underlying22 (by kernel_rfl) (by omega)) (by rfl) (by rfl) ?_
      refine Ls.ev (some 55) (Ev.loadInt (show Oper.op _ = Op.load 3 (Operand.tmp 54) from rfl) (by rfl) (ReadsIn.rd 3 (by rfl)) (by kernel_rfl) (by assumption)) (by rfl) (by rfl) ?_
      refine Ls.ev (some 6) (Ev.assign (show Oper.op _ = Op.assign (Operand.tmp 55) from rfl) (by rfl)) (by rfl) (by rfl) ?_
      refine Ls.nil ?_
      refine Cd.seq ?_
      refine Cd.seq ?_
      refine Cd.region ?_
      refine Ls.ev (some 56) (Ev.move (show Oper.op _ = Op.move (Operand.tmp 4) from rfl) (by rfl)) (by rfl) (by rfl) ?_
      refine Ls.ev (some 57) (Ev.move (show Oper.op _ = Op.move (Operand.tmp 6) from rfl) (by rfl)) (by rfl) (by rfl) ?_
      refine Ls.does (some 58) (Does.read (show Oper.op _ = Op.call { callee := Callee.value (Operand.func 43), args := #[Operand.tmp 56, Operand.tmp 57], argTypes := #[79, 3] } from rfl) Try.func43 (by kernel_rfl) (by kernel_rfl) (hi ⟨g2, mb, q.1, q.2⟩ x) (by rfl) (by rfl) ⟨blkIn 0 (by rfl), trivial⟩) (by rfl) (by rfl) ?_
      rintro _ -
      refine Ls.ev (some 59) (Ev.not (show Oper.op _ = Op.unOp UnOp.not 4 (Operand.tmp 58) from rfl) (by rfl)) (by rfl) (by rfl) ?_
      refine Ls.nil ?_
      refine Cd.cond _ (by rfl) (fun h3 => ?_) (fun h3 => ?_)
      · skip
        have h3 := of_not_decide_true h3
        have hg : goodM ⟨w, h, sh, bl⟩ = false := by
          rw [hg, List.all_eq_false]
          exact ⟨x, List.mem_of_getElem? hx, fun e => h3 (isM_iff.1 e)⟩
        rw [hg]
        refine Cd.seq ?_
        refine Cd.region ?_
        refine Ls.ev (some 2) (Ev.assign (show Oper.op _ = Op.assign (Operand.const (Value.pointer none)) from rfl) (by rfl)) (by rfl) (by rfl) ?_
        refine Ls.ev (some 3) (Ev.assign (show Oper.op _ = Op.assign (Operand.const (Value.int IntKind.i64 120)) from rfl) (by rfl)) (by rfl) (by rfl) ?_
        refine Ls.nil ?_
        refine Cd.ret ?_
        refine Ent.ret (default) (trivial) (Res.tmp2 (by rfl) (by rfl) (by rfl)) ?_ [] (by rfl) ?_
        · rfl
        · rfl
      · skip
        have h3 := of_not_decide_false h3
        dsimp only at h3
        have hst := mapK_step (m := ⟨w, h, sh, bl⟩) hx
        refine Cd.skip ?_
        refine Cd.region ?_
        refine Ls.ev (some 60) (Ev.move (show Oper.op _ = Op.move (Operand.tmp 4) from rfl) (by rfl)) (by rfl) (by rfl) ?_
        refine Ls.ev (some 61) (Ev.nilCheck (show Oper.op _ = Op.nilCheck (Operand.tmp 60) from rfl) (by rfl)) (by rfl) (by rfl) ?_
        refine Ls.ev (some 62) (Ev.fieldAddr (k := 4) (show Oper.op _ = Op.fieldAddr 101 (Operand.tmp 61) 1 from rfl) (by rfl) (by kernel_rfl) (by rfl)) (by rfl) (by rfl) ?_
        refine Ls.ev (some 63) (Ev.load 0 (show Oper.op _ = Op.load 72 (Operand.tmp 62) from rfl) (by rfl) (by rfl) (by kernel_rfl) (by rfl)) (by rfl) (by rfl) ?_
        refine Ls.ev (some 64) (Ev.move (show Oper.op _ = Op.move (Operand.tmp 6) from rfl) (by rfl)) (by rfl) (by rfl) ?_
        refine Ls.does none (Does.mapPutO inj_int 1 (show Oper.op _ = Op.mapUpdate 72 (Operand.tmp 63) (Operand.tmp 64) (Operand.const (Value.int IntKind.i64 1)) from rfl) (by rfl) (by rfl) (by rfl) (by rfl) keyed_int Try.underlying72 (by omega) (keyOf_int (by omega))) (by rfl) (by rfl) ?_
        rintro _ -
        refine Ls.nil ?_
        refine Cd.region ?_
        refine Ls.ev (some 65) (Ev.addI (show Oper.op _ = Op.binOp BinOp.add 3 (Operand.tmp 52) (Operand.const (Value.int IntKind.i64 1)) 3 from rfl) (by rfl) (by rfl) (by omega)) (by rfl) (by rfl) ?_
        refine Ls.ev (some 52) (Ev.move (show Oper.op _ = Op.move (Operand.tmp 65) from rfl) (by rfl)) (by rfl) (by rfl) ?_
        refine Ls.nil ?_
        refine Ent.inv (k + 1) ?_ ?_ ?_
        · (try dsimp only); exact ⟨⟨by omega, by rw [List.take_add_one, hx, List.all_append, hal]; simpa using isM_iff.2 h3⟩, by omega⟩
        · (repeat (first | exact trivial | refine ⟨by rfl, ?_⟩ | refine ⟨by simp only [List.length_append, List.length_cons, List.length_nil]; rfl, ?_⟩ | refine ⟨by push_cast; rfl, ?_⟩))
        · (rw [hst]; rfl)
    · skip
      have hkl : k = bl.length := by have := of_decide_eq_false h2; omega
      subst hkl
      rw [List.take_length] at hal
      rw [hg, hal]
      have hmk : mapK ⟨w, h, sh, bl⟩ bl.length = mapF ⟨w, h, sh, bl⟩ := by
        funext c
        unfold mapK mapF
        rw [show (⟨w, h, sh, bl⟩ : MapP).bl.take bl.length = bl from List.take_length]
      rw [hmk]
      refine Cd.exit ?_
      refine Cd.seq ?_
      refine Cd.region ?_
      refine Ls.ev (some 66) (Ev.move (show Oper.op _ = Op.move (Operand.tmp 4) from rfl) (by rfl)) (by rfl) (by rfl) ?_
      refine Ls.ev (some 2) (Ev.assign (show Oper.op _ = Op.assign (Operand.tmp 66) from rfl) (by rfl)) (by rfl) (by rfl) ?_
      refine Ls.ev (some 3) (Ev.assign (show Oper.op _ = Op.assign (Operand.const (Value.int IntKind.i64 0)) from rfl) (by rfl)) (by rfl) (by rfl) ?_
      refine Ls.nil ?_
      refine Cd.ret ?_
      refine Ent.ret (⟨g2, mb, q.1, q.2⟩) (trivial) (Res.tmp2 (by rfl) (by rfl) (by rfl)) ?_ [0, 1] (by rfl) ?_
      · rfl
      · rfl
end Go.Proofs.Ytegjoabfoddadaa
/- a result that lies in one cell of memory; capacities -/
namespace Go.Proofs.Ytegjoabfoddadaa
open Go.RowKit
section
variable {Γ : Ctx} {N : Frm} {P : Program} {E : Env} {H : List Chunk}
theorem Res.cell1 {fn : Func} {p t g m u : Nat} {cs : List Value} {v : Value} (i : Nat) (h : fn.results = #[.cell p t]) (hp : E.get p = some (.pointer (some ⟨g, m, none⟩))) (hi : H[i]? = some (blk g u cs)) (ht : one P t = true) (hv : cs[m]? = some v) : Res Γ N P fn E H v := fun a w hr hs => by
  simp [results, h, hr.get p _ hp, asAddr, run_loadVar_one ht (blk_cell (hs.mem hi) hv)]
theorem setR_take {cs vs : List Value} {m k : Nat} (h : m + vs.length ≤ k) (hk : k ≤ cs.length) : (setR cs m vs).take k = setR (cs.take k) m vs := by
  have h1 : (cs.take m).length = m := by rw [List.length_take]; omega
  have h2 : (cs.take m ++ vs).length = m + vs.length := by rw [List.length_append, h1]
  unfold setR
  rw [List.take_append, List.take_of_length_le (by omega), h2, List.take_take, Nat.min_eq_left (by omega), List.drop_take]
/-- A store of some cells into a slice of one's own. -/
theorem Does.storeRow {t n c e sz j : Nat} {A : Option Addr} {ad : Addr} {xs xs' : List Value} {v : Value} {o : Oper} {x y : Operand} (i : Nat) (ho : o.op = .store t x y) (hx : E.ev x = some (.pointer (some (ad.add j)))) (hy : E.ev y = some v) (hi : H[i]? = some (row A n c e sz xs)) (hA : A = some ad) (hsz : (P.info? t).map (·.size) = some v.cells.size) (h1 : v.cells.toList.all (·.oneCell') = true) (hm : j + v.cells.size ≤ xs.length) (hn : 0 < n) (hxs : setR xs j v.cells.toList = xs') :
    Does Γ N P E H o Unit (fun _ => undef) (fun _ => H.set i (row A n c e sz xs')) (fun _ => True) := .of fun ρ hρ w hs => by
  have ho' : Own w 0 e sz A n c xs := hs.mem hi
  subst hxs
  rcases ho'.form with ⟨rfl, rfl, _, rfl⟩ | ⟨g, cur, hg, _, hb, hnc, hcm, hcs, hxs⟩
  · exact absurd hn (Nat.lt_irrefl _)
  · have had : ad = ⟨g, 0, none⟩ := by rw [hA] at hg; exact Option.some.inj hg
    subst had
    have hadd' : (⟨g, 0, none⟩ : Addr).add j = ⟨g, j, none⟩ := by rw [add_at]; simp
    have hlx := ho'.length
    have hle : n * sz ≤ cur.toList.length := by rw [Array.length_toList, hcs]; exact Nat.mul_le_mul_right _ hnc
    have hm2 : j + v.cells.size ≤ cur.toList.length := by omega
    have hst := run_storeCells_at P g j e v.cells.toList 0 cur w hb (by simpa using hm2) (fun z hz => (List.all_eq_true.1 h1) z hz)
    simp only [Nat.add_zero] at hst
    obtain ⟨ti, hti, hsz⟩ := Option.map_eq_some_iff.1 hsz
    have hrun : (storeVar t ⟨g, j, none⟩ v).run P w = .ok () (w.setRow g (setR cur.toList j v.cells.toList).toArray) := by
      simp only [storeVar, sizeOf, typeInfo, hti, hsz, Sem.run_bind, run_program, Result.andThen_ok, Sem.run_pure, ne_eq, not_true_eq_false, if_false, hst]
      rfl
    refine ⟨(), w.setRow g (setR cur.toList j v.cells.toList).toArray, trivial, ?_, .inr ⟨rfl, ?_⟩⟩
    · have hf : blockOf A = some g := by rw [hg]; rfl
      refine hs.turn hi rfl ⟨rfl, rfl, rfl, by simp, fun k hk hn => setRow_other w g k _ (fun e => hn (by rw [e]; exact hf))⟩ ?_ (fun k hk => .inl hk)
      have hb2 := setRow_heap w g _ (setR cur.toList j v.cells.toList).toArray e (0, 0) hb
      have hlen : (setR cur.toList j v.cells.toList).toArray.size = c * sz := by
        rw [List.size_toArray, ← hcs]
        unfold setR
        simp only [List.length_append, List.length_take, List.length_drop, Array.length_toList] at hm2 ⊢
        omega
      have := Own.of_blk (base := 0) (n := n) hb2 (Nat.zero_le _) hnc hcm hlen
      rw [setR_take (by rw [Array.length_toList]; omega) hle, hxs, ← hg] at this
      exact this
    · simp [execOp, ho, hρ x _ hx, hρ y _ hy, Instr.storeAt, Instr.sureAddr, hadd', hrun]
theorem setR_enc {α : Type} {enc : α → List Value} {sz : Nat} (he : ∀ a, (enc a).length = sz) (l : List α) (k : Nat) (a : α) (hk : k < l.length) : setR (l.flatMap enc) (k * sz) (enc a) = (l.set k a).flatMap enc := by
  have e1 : ∀ (l : List α) (k : Nat), (l.flatMap enc).drop (k * sz) = (l.drop k).flatMap enc := by
    intro l
    induction l with
    | nil => intro k; simp
    | cons b l ih =>
      intro k
      cases k with
      | zero => simp
      | succ k => rw [List.flatMap_cons, List.drop_succ_cons, ← ih k, Nat.succ_mul, Nat.add_comm, ← List.drop_drop, List.drop_left' (he b)]
  have e2 : ∀ (l : List α) (k : Nat), (l.flatMap enc).take (k * sz) = (l.take k).flatMap enc := by
    intro l
    induction l with
    | nil => intro k; simp
    | cons b l ih =>
      intro k
      cases k with
      | zero => simp
      | succ k => rw [List.flatMap_cons, List.take_succ_cons, List.flatMap_cons, ← ih k, Nat.succ_mul, Nat.add_comm, List.take_append, he b, List.take_of_length_le (by rw [he b]; omega), Nat.add_sub_cancel_left]
  unfold setR
  rw [he a, ← Nat.succ_mul, e1, e2, List.set_eq_take_append_cons_drop, if_pos hk, List.flatMap_append, List.flatMap_cons, List.append_assoc]
end
end Go.Proofs.Ytegjoabfoddadaa
/- the book over pieces: take, reserve -/
namespace Go.Proofs.Ytegjoabfoddadaa
open Go.RowKit
theorem setR_behind (P Q vs : List Value) (j : Nat) : setR (P ++ Q) (P.length + j) vs = P ++ setR Q j vs := by
  unfold setR
  rw [Nat.add_assoc, List.take_append, List.drop_append, List.take_of_length_le (by omega), List.drop_of_length_le (by omega), Nat.add_sub_cancel_left, Nat.add_sub_cancel_left]
  simp
theorem setR_front (P Q vs : List Value) (j : Nat) (h : j + vs.length ≤ P.length) : setR (P ++ Q) j vs = setR P j vs ++ Q := by
  unfold setR
  rw [List.take_append, List.drop_append, show j - P.length = 0 by omega, show j + vs.length - P.length = 0 by omega]
  simp
theorem setR_one (cs : List Value) (k : Nat) (v : Value) (h : k < cs.length) : setR cs k [v] = cs.set k v := by
  unfold setR
  rw [List.set_eq_take_append_cons_drop, if_pos h]
  simp
theorem range_behind (P Q : List Value) (j n : Nat) : rangeOf (P ++ Q) (P.length + j) n = rangeOf Q j n := by
  unfold rangeOf
  rw [List.drop_append, List.drop_of_length_le (by omega), Nat.add_sub_cancel_left, List.nil_append]
theorem drop_enc {α : Type} {enc : α → List Value} {sz : Nat} (he : ∀ a, (enc a).length = sz) : ∀ (l : List α) (k : Nat), (l.flatMap enc).drop (k * sz) = (l.drop k).flatMap enc
  | [], k => by simp
  | a :: l, 0 => by simp
  | a :: l, k + 1 => by
    rw [List.flatMap_cons, List.drop_append, List.drop_of_length_le (by rw [he, Nat.add_mul]; omega), he, Nat.add_mul, Nat.one_mul, Nat.add_sub_cancel, List.nil_append, drop_enc he l k]
    rfl
theorem range_enc {α : Type} {enc : α → List Value} {sz : Nat} (he : ∀ a, (enc a).length = sz) {l : List α} {k : Nat} {a : α} (h : l[k]? = some a) : rangeOf (l.flatMap enc) (k * sz) sz = enc a := by
  obtain ⟨hk, rfl⟩ := List.getElem?_eq_some_iff.1 h
  unfold rangeOf
  rw [drop_enc he, List.drop_eq_getElem_cons hk, List.flatMap_cons, List.take_left' (he _)]
/-- A book as it lies. -/
structure BkS where
  eps : List Int
  rts : List RtS
  deriving Inhabited
def BkS.vals (B : BkS) (gg : Nat) : List Value := (.pointer (some ⟨gg, 0, none⟩) :: ints B.eps) ++ B.rts.flatMap RtS.enc
def BkS.p (B : BkS) : BkP := ⟨B.eps, B.rts.map RtS.p⟩
structure BkS.Ok (B : BkS) : Prop where
  eps : B.eps.length = 16
  rts : B.rts.length = 16
  cap : ∀ x ∈ B.rts, x.l.length ≤ x.c
def noS : RtS := ⟨0, none, 0, []⟩
/-- The lists of a book's routes. -/
def BkS.fam (B : BkS) : Chunk := starf fun k : Nat => (B.rts.getD k noS).rd
section
variable {B : BkS} (hB : B.Ok) {r : Nat} (hr : r < 16) (gg : Nat)
include hB hr
theorem BkS.ep_get : (B.vals gg)[0 + 1 + r * 1]? = some (.int .i64 (B.eps.getD r 0)) := by
  unfold BkS.vals
  have hl := hB.eps
  rw [List.getElem?_append_left (by rw [List.length_cons, ints_length]; omega), show 0 + 1 + r * 1 = r + 1 by omega, List.getElem?_cons_succ, ints_get, List.getElem?_eq_getElem (by omega), List.getD_eq_getElem?_getD, List.getElem?_eq_getElem (by omega)]
  rfl
theorem BkS.rt_get : B.rts[r]? = some (B.rts.getD r noS) := by
  have hl := hB.rts
  rw [List.getD_eq_getElem?_getD, List.getElem?_eq_getElem (by omega)]
  rfl
theorem BkS.rt_range : rangeOf (B.vals gg) (0 + 17 + r * 2) 2 = (B.rts.getD r noS).enc := by
  have hl := hB.eps
  unfold BkS.vals
  have e : 0 + 17 + r * 2 = ((Value.pointer (some ⟨gg, 0, none⟩)) :: ints B.eps).length + r * 2 := by rw [List.length_cons, ints_length]; omega
  rw [e, range_behind]
  exact range_enc (enc := RtS.enc) (sz := 2) (fun _ => rfl) (BkS.rt_get hB hr)
theorem BkS.ep_set (e : Int) : setR (B.vals gg) (0 + 1 + r * 1) [.int .i64 e] = ({ B with eps := B.eps.set r e } : BkS).vals gg := by
  have hl := hB.eps
  unfold BkS.vals
  rw [setR_front _ _ _ _ (by rw [List.length_cons, List.length_cons, ints_length]; simp; omega), setR_one _ _ _ (by rw [List.length_cons, ints_length]; omega), show 0 + 1 + r * 1 = r + 1 by omega, List.set_cons_succ]
  congr 2
  unfold ints
  rw [List.map_set]
theorem BkS.rt_set (x : RtS) : setR (B.vals gg) (0 + 17 + r * 2) x.enc = ({ B with rts := B.rts.set r x } : BkS).vals gg := by
  have hl := hB.eps
  unfold BkS.vals
  have e : 0 + 17 + r * 2 = ((Value.pointer (some ⟨gg, 0, none⟩)) :: ints B.eps).length + r * 2 := by rw [List.length_cons, ints_length]; omega
  rw [e, setR_behind, setR_enc (enc := RtS.enc) (sz := 2) (fun _ => rfl) _ _ _ (by rw [hB.rts]; exact hr)]
omit hr in
theorem BkS.ok_ep (e : Int) : ({ B with eps := B.eps.set r e } : BkS).Ok := ⟨by dsimp only; rw [List.length_set]; exact hB.eps, hB.rts, hB.cap⟩
omit hr in
theorem BkS.ok_rt {x : RtS} (hx : x.l.length ≤ x.c) : ({ B with rts := B.rts.set r x } : BkS).Ok := ⟨hB.eps, by dsimp only; rw [List.length_set]; exact hB.rts, fun y hy => by
  rcases List.mem_or_eq_of_mem_set hy with h | rfl
  · exact hB.cap y h
  · exact hx⟩
omit hr in
theorem BkS.cap_get (k : Nat) : (B.rts.getD k noS).l.length ≤ (B.rts.getD k noS).c := by
  rw [List.getD_eq_getElem?_getD]
  cases h : B.rts[k]? with
  | none => exact Nat.le_refl _
  | some x => exact hB.cap x (List.mem_of_getElem? h)
omit hB hr in
theorem BkS.p_rt (k : Nat) : B.p.rts.getD k noR = (B.rts.getD k noS).p := by
  unfold BkS.p
  dsimp only
  rw [List.getD_eq_getElem?_getD, List.getD_eq_getElem?_getD, List.getElem?_map]
  cases B.rts[k]? <;> rfl
omit hr in
theorem BkS.vals_len : (B.vals gg).length = 49 := by
  have key : ∀ l : List RtS, (l.flatMap RtS.enc).length = l.length * 2 := by
    intro l
    induction l with
    | nil => rfl
    | cons a l ih => rw [List.flatMap_cons, List.length_append, ih, List.length_cons]; show 2 + _ = _; omega
  unfold BkS.vals
  rw [List.length_append, List.length_cons, ints_length, key, hB.eps, hB.rts]
end
/-- A reply as it lies. -/
structure RepS where
  code : Int
  ep : Int
  rt : RtS
  deriving Inhabited
def RepS.enc (x : RepS) : List Value := [.int .i64 x.code, .int .i64 x.ep, .int .i64 x.rt.s, .slice x.rt.A x.rt.l.length x.rt.c]
def RepS.p (x : RepS) : RepP := ⟨x.code, x.ep, x.rt.p⟩
def refS (e : Int) : RepS := ⟨e, 0, noS⟩
theorem confP_step {b : BkP} {r : Int} {x : RtP} {t : Int} {k : Nat} (h : k < 16) : confP b r x t (16 - k) k = ((decide ((k : Int) ≠ r) && meetR x (cutR (b.rts.getD k noR) t)) || confP b r x t (16 - (k + 1)) (k + 1)) := by
  rw [show 16 - k = (16 - (k + 1)) + 1 by omega, confP]
section
variable (G : GrS) (m : MapP) (hm : goodM m = true)
include hm
set_option maxHeartbeats 1000000 in
theorem take_sl (g : Nat) (B : BkS) (hB : B.Ok) (r : Nat) (hr : r < 16) (x : RtS) (tick : Int) (hx : x.l.length ≤ 1048576 ∧ x.l.length ≤ x.c) :
    Fn Try.prog 39 #[.pointer (some ⟨g, 0, none⟩), .int .i64 r, .agg x.enc.toArray, .int .i64 tick] [blk g 95 (B.vals G.g), B.fam, G.b m, G.r m, x.rd] (BkS × RepS) (fun p => .agg p.2.enc.toArray) (fun p => [blk g 95 (p.1.vals G.g), p.1.fam, p.2.rt.rd])
      (fun p => p.1.Ok ∧ p.1.p = (takeP m B.p r x.p tick).1 ∧ p.2.p = (takeP m B.p r x.p tick).2) := by
  have hck := check_sl G m hm x
  have hT : takeP m B.p r x.p tick = if checkR m x.p ≠ 0 then (B.p, refusedP (checkR m x.p)) else if confP B.p r x.p tick 16 0 then (B.p, refusedP 140) else (B.p.setRt r x.p, ⟨0, B.p.ep r, x.p⟩) := rfl
  refine Fn.enter Try.func39 rfl Try.ntmps39 (by rfl) ?_
  intro w0
  refine Cd.seq ?_
  refine Cd.region ?_
  refine Ls.does (some 6) (Does.box (show Oper.op _ = Op.box 41 (Operand.tmp 2) from rfl) (by rfl)) (by rfl) (by rfl) ?_
  intro g1 _
  refine Ls.does (some 8) (Does.alloc (cs := [.int .i64 0, .int .i64 0, .int .i64 0, .slice none 0 0]) (show Oper.op _ = Op.alloc 45 from rfl) (ZeroIs.mk (.agg #[.int .i64 0, .int .i64 0, .int .i64 0, .slice none 0 0]) (by kernel_rfl) (by rfl))) (by rfl) (by rfl) ?_
  intro g2 _
  refine Ls.nil ?_
  refine Cd.seq ?_
  refine Cd.seq ?_
  refine Cd.draw [] (by kernel_rfl) ?_
  refine Rg.ev 0 (by rfl) (fun _ h => h) (Ev.move (show Oper.op _ = Op.move (Operand.tmp 0) from rfl) (by rfl)) (by rfl) (some 11) (by rfl) (by kernel_rfl) (by kernel_rfl) (by kernel_rfl) (by kernel_rfl) ?_
  refine Rg.ev 1 (by rfl) (fun _ h => h) (Ev.nilCheck (show Oper.op _ = Op.nilCheck (Operand.tmp 11) from rfl) (by rfl)) (by rfl) (some 12) (by rfl) (by kernel_rfl) (by kernel_rfl) (by kernel_rfl) (by kernel_rfl) ?_
  refine Rg.ev 2 (by rfl) (fun _ h => h) (Ev.fieldAddr (k := 0) (show Oper.op _ = Op.fieldAddr 95 (Operand.tmp 12) 0 from rfl) (by rfl) (by kernel_rfl) (by rfl)) (by rfl) (some 13) (by rfl) (by kernel_rfl) (by kernel_rfl) (by kernel_rfl) (by kernel_rfl) ?_
  refine Rg.ev 3 (by rfl) (fun _ h => h) (Ev.load 2 (show Oper.op _ = Op.load 79 (Operand.tmp 13) from rfl) (by rfl) (by rfl) (by kernel_rfl) (by rfl)) (by rfl) (some 14) (by rfl) (by kernel_rfl) (by kernel_rfl) (by kernel_rfl) (by kernel_rfl) ?_
  refine Rg.ev 4 (by rfl) (fun _ h => h) (Ev.loads 1 (show Oper.op _ = Op.load 41 (Operand.tmp 6) from rfl) (by rfl) (by rfl) (n := 2) (by kernel_rfl) (by rfl) (by rfl)) (by rfl) (some 15) (by rfl) (by kernel_rfl) (by kernel_rfl) (by kernel_rfl) (by kernel_rfl) ?_
  refine Rg.does 5 (by rfl) (by kernel_rfl) (Does.read (show Oper.op _ = Op.call { callee := Callee.value (Operand.func 51), args := #[Operand.tmp 14, Operand.tmp 15], argTypes := #[79, 41] } from rfl) Try.func51 (by kernel_rfl) (by kernel_rfl) (hck) (by rfl) (by rfl) ⟨rblkIn 4 (by rfl), rmapIn 5 (by rfl), ReadsIn.rd 6 (by rfl), trivial⟩) (by rfl) (some 16) (by rfl) (by exact fun _ _ h => h) ?_
  rintro _ -
  refine Rg.ev 6 (by rfl) (fun _ h => h) (Ev.assign (show Oper.op _ = Op.assign (Operand.tmp 16) from rfl) (by rfl)) (by rfl) (some 9) (by rfl) (by kernel_rfl) (by kernel_rfl) (by kernel_rfl) (by kernel_rfl) ?_
  refine Rg.done (by kernel_rfl) ?_ _
  refine Cd.seq ?_
  refine Cd.region ?_
  refine Ls.ev (some 17) (Ev.move (show Oper.op _ = Op.move (Operand.tmp 9) from rfl) (by rfl)) (by rfl) (by rfl) ?_
  refine Ls.ev (some 18) (Ev.neq (show Oper.op _ = Op.binOp BinOp.neq 30 (Operand.tmp 17) (Operand.const (Value.int IntKind.i64 0)) 30 from rfl) (by rfl) (by rfl)) (by rfl) (by rfl) ?_
  refine Ls.nil ?_
  refine Cd.cond _ (by rfl) (fun h1 => ?_) (fun h1 => ?_)
  · skip
    have h1 := of_decide_eq_true h1
    rw [if_pos h1] at hT
    rw [hT]
    refine Cd.seq ?_
    refine Cd.region ?_
    refine Ls.ev (some 19) (Ev.move (show Oper.op _ = Op.move (Operand.tmp 9) from rfl) (by rfl)) (by rfl) (by rfl) ?_
    refine Ls.does (some 20) (Does.read (show Oper.op _ = Op.call { callee := Callee.value (Operand.func 36), args := #[Operand.tmp 19], argTypes := #[30] } from rfl) Try.func36 (by kernel_rfl) (by kernel_rfl) (refused_sl (checkR m x.p)) (by rfl) (by rfl) trivial) (by rfl) (by rfl) ?_
    rintro _ -
    refine Ls.does none (Does.store 0 (show Oper.op _ = Op.store 45 (Operand.tmp 8) (Operand.tmp 20) from rfl) (by rfl) (by rfl) (by rfl) (by kernel_rfl) (by rfl) (by kernel_rfl) (by rfl)) (by rfl) (by rfl) ?_
    intro _ _
    refine Ls.nil ?_
    refine Ent.nil 3 1 (Ent.see 0 (by rfl) ?_)
    refine Cd.ret ?_
    refine Ent.ret ((B, refS (checkR m x.p))) (⟨hB, rfl, rfl⟩) (Res.cell 1 (by rfl) (by rfl) (by rfl) (n := 4) (by kernel_rfl) (by rfl) (by rfl)) ?_ [3, 4, 0] (by rfl) ?_
    · rfl
    · rfl
  · skip
    have h1 : checkR m x.p = 0 := Decidable.not_not.1 (of_decide_eq_false h1)
    rw [if_neg (fun h => h h1)] at hT
    refine Cd.skip ?_
    refine Cd.seq ?_
    refine Cd.seq ?_
    refine Cd.region ?_
    refine Ls.ev (some 21) (Ev.move (show Oper.op _ = Op.move (Operand.const (Value.int IntKind.i64 0)) from rfl) (by rfl)) (by rfl) (by rfl) ?_
    refine Ls.nil ?_
    refine Cd.block ?_
    refine Ent.pick [0, 1, 2, 3, 4, 5, 6] (by rfl) ?_
    refine Cd.loop (ι := Nat) (fun k => [(0, .pointer (some ⟨g, 0, none⟩)), (1, .int .i64 r), (3, .int .i64 tick), (6, .pointer (some ⟨g1, 0, none⟩)), (8, .pointer (some ⟨g2, 0, none⟩)), (21, .int .i64 k)]) (fun _ => [blk g2 45 (refS 0).enc, blk g1 41 x.enc, blk g 95 (B.vals G.g), B.fam, G.b m, G.r m, x.rd]) (fun k => k ≤ 16 ∧ confP B.p r x.p tick 16 0 = confP B.p r x.p tick (16 - k) k) (fun k => 16 - k) (0) (⟨Nat.zero_le _, rfl⟩) ?_ rfl ?_
    · (repeat (first | exact trivial | refine ⟨by rfl, ?_⟩))
    rintro k ⟨hk, hcf⟩
    refine Cd.seq ?_
    refine Cd.region ?_
    refine Ls.ev (some 22) (Ev.lss (show Oper.op _ = Op.binOp BinOp.lss 3 (Operand.tmp 21) (Operand.const (Value.int IntKind.i64 16)) 3 from rfl) (by rfl) (by rfl)) (by rfl) (by rfl) ?_
    refine Ls.nil ?_
    refine Cd.seq ?_
    refine Cd.cond _ (by rfl) (fun h2 => ?_) (fun h2 => ?_)
    · skip
      have hlt : k < 16 := by have := of_decide_eq_true h2; omega
      have hst := confP_step (b := B.p) (r := r) (x := x.p) (t := tick) hlt
      rw [B.p_rt] at hst
      have hcut := cut_sl (B.rts.getD k noS) tick (BkS.cap_get hB k)
      have hrr := BkS.rt_range hB hlt G.g
      revert hst hcut hrr
      generalize hy : B.rts.getD k noS = y
      intro hst hcut hrr
      refine Cd.skip ?_
      refine Cd.seq ?_
      refine Cd.block ?_
      refine Cd.seq ?_
      refine Cd.region ?_
      refine Ls.ev (some 23) (Ev.move (show Oper.op _ = Op.move (Operand.tmp 21) from rfl) (by rfl)) (by rfl) (by rfl) ?_
      refine Ls.ev (some 10) (Ev.assign (show Oper.op _ = Op.assign (Operand.tmp 23) from rfl) (by rfl)) (by rfl) (by rfl) ?_
      refine Ls.nil ?_
      refine Cd.seq ?_
      refine Ent.map (fun w hs => hs.starf_get 3 k rfl) ?_
      show Ent _ _ _ ((B.rts.getD k noS).rd :: _) _
      rw [hy]
      refine Cd.cut (ι := Unit) (fun _ => [(0, .pointer (some ⟨g, 0, none⟩)), (1, .int .i64 r), (3, .int .i64 tick), (6, .pointer (some ⟨g1, 0, none⟩)), (8, .pointer (some ⟨g2, 0, none⟩)), (21, .int .i64 k), (38, .bool (decide ((k : Int) ≠ r) && meetR x.p (cutR y.p tick)))]) (fun _ => [blk g2 45 (refS 0).enc, blk g1 41 x.enc, blk g 95 (B.vals G.g), B.fam, G.b m, G.r m, x.rd]) (fun _ => True) ?_ ?_
      · skip
        refine Cd.draw [] (by kernel_rfl) ?_
        refine Rg.ev 0 (by rfl) (fun _ h => h) (Ev.move (show Oper.op _ = Op.move (Operand.tmp 10) from rfl) (by rfl)) (by rfl) (some 24) (by rfl) (by kernel_rfl) (by kernel_rfl) (by kernel_rfl) (by kernel_rfl) ?_
        refine Rg.ev 1 (by rfl) (fun _ h => h) (Ev.move (show Oper.op _ = Op.move (Operand.tmp 1) from rfl) (by rfl)) (by rfl) (some 25) (by rfl) (by kernel_rfl) (by kernel_rfl) (by kernel_rfl) (by kernel_rfl) ?_
        refine Rg.ev 2 (by rfl) (fun _ h => h) (Ev.neq (show Oper.op _ = Op.binOp BinOp.neq 3 (Operand.tmp 24) (Operand.tmp 25) 3 from rfl) (by rfl) (by rfl)) (by rfl) (some 26) (by rfl) (by kernel_rfl) (by kernel_rfl) (by kernel_rfl) (by kernel_rfl) ?_
        refine Rg.ev 3 (by rfl) (fun _ h => h) (Ev.move (show Oper.op _ = Op.move (Operand.tmp 26) from rfl) (by rfl)) (by rfl) (some 27) (by rfl) (by kernel_rfl) (by kernel_rfl) (by kernel_rfl) (by kernel_rfl) ?_
        refine Ent.split 27 (by rfl) (fun h3 => ?_) (fun h3 => ?_)
        · skip
          refine Rg.pass 4 (by rfl) (fun _ h => h) (by rfl) (some 28) (by rfl) (by kernel_rfl) (by kernel_rfl) (by kernel_rfl) (by kernel_rfl) ?_
          refine Rg.pass 5 (by rfl) (fun _ h => h) (by rfl) (some 29) (by rfl) (by kernel_rfl) (by kernel_rfl) (by kernel_rfl) (by kernel_rfl) ?_
          refine Rg.pass 6 (by rfl) (fun _ h => h) (by rfl) (some 30) (by rfl) (by kernel_rfl) (by kernel_rfl) (by kernel_rfl) (by kernel_rfl) ?_
          refine Rg.pass 7 (by rfl) (fun _ h => h) (by rfl) (some 31) (by rfl) (by kernel_rfl) (by kernel_rfl) (by kernel_rfl) (by kernel_rfl) ?_
          refine Rg.pass 8 (by rfl) (fun _ h => h) (by rfl) (some 32) (by rfl) (by kernel_rfl) (by kernel_rfl) (by kernel_rfl) (by kernel_rfl) ?_
          refine Rg.pass 9 (by rfl) (fun _ h => h) (by rfl) (some 33) (by rfl) (by kernel_rfl) (by kernel_rfl) (by kernel_rfl) (by kernel_rfl) ?_
          refine Rg.pass 10 (by rfl) (fun _ h => h) (by rfl) (some 34) (by rfl) (by kernel_rfl) (by kernel_rfl) (by kernel_rfl) (by kernel_rfl) ?_
          refine Rg.pass 11 (by rfl) (fun _ h => h) (by rfl) (some 35) (by rfl) (by kernel_rfl) (by kernel_rfl) (by kernel_rfl) (by kernel_rfl) ?_
          refine Rg.pass 12 (by rfl) (fun _ h => h) (by rfl) (some 36) (by rfl) (by kernel_rfl) (by kernel_rfl) (by kernel_rfl) (by kernel_rfl) ?_
          refine Rg.pass 13 (by rfl) (fun _ h => h) (by rfl) (some 37) (by rfl) (by kernel_rfl) (by kernel_rfl) (by kernel_rfl) (by kernel_rfl) ?_
          refine Rg.ev 14 (by rfl) (fun _ h => h) (Ev.pickF (show Oper.op _ = Op.pick (Operand.tmp 27) (Operand.tmp 37) (Operand.const (Value.bool false)) from rfl) (by rfl) (by rfl)) (by rfl) (some 38) (by rfl) (by kernel_rfl) (by kernel_rfl) (by kernel_rfl) (by kernel_rfl) ?_
          refine Rg.done (by kernel_rfl) ?_ _
          refine Ent.pick [1, 2, 3, 4, 5, 6, 7] (by rfl) ?_
          refine Ent.inv (()) ?_ ?_ ?_
          · (try dsimp only); skip
          · (repeat (first | exact trivial | refine ⟨by rfl, ?_⟩ | refine ⟨by simp only [List.length_append, List.length_cons, List.length_nil]; rfl, ?_⟩ | refine ⟨by push_cast; rfl, ?_⟩ | refine ⟨by (show some (Value.bool _) = some (Value.bool _); rw [h3]; rfl), ?_⟩))
          · rfl
        · skip
          refine Rg.ev 4 (by rfl) (fun _ h => h) (Ev.loads 2 (show Oper.op _ = Op.load 41 (Operand.tmp 6) from rfl) (by rfl) (by rfl) (n := 2) (by kernel_rfl) (by rfl) (by rfl)) (by rfl) (some 28) (by rfl) (by kernel_rfl) (by kernel_rfl) (by kernel_rfl) (by kernel_rfl) ?_
          refine Rg.ev 5 (by rfl) (fun _ h => h) (Ev.move (show Oper.op _ = Op.move (Operand.tmp 0) from rfl) (by rfl)) (by rfl) (some 29) (by rfl) (by kernel_rfl) (by kernel_rfl) (by kernel_rfl) (by kernel_rfl) ?_
          refine Rg.ev 6 (by rfl) (fun _ h => h) (Ev.move (show Oper.op _ = Op.move (Operand.tmp 10) from rfl) (by rfl)) (by rfl) (some 30) (by rfl) (by kernel_rfl) (by kernel_rfl) (by kernel_rfl) (by kernel_rfl) ?_
          refine Rg.ev 7 (by rfl) (fun _ h => h) (Ev.nilCheck (show Oper.op _ = Op.nilCheck (Operand.tmp 29) from rfl) (by rfl)) (by rfl) (some 31) (by rfl) (by kernel_rfl) (by kernel_rfl) (by kernel_rfl) (by kernel_rfl) ?_
          refine Rg.ev 8 (by rfl) (fun _ h => h) (Ev.fieldAddr (k := 17) (show Oper.op _ = Op.fieldAddr 95 (Operand.tmp 31) 2 from rfl) (by rfl) (by kernel_rfl) (by rfl)) (by rfl) (some 32) (by rfl) (by kernel_rfl) (by kernel_rfl) (by kernel_rfl) (by kernel_rfl) ?_
          refine Rg.ev 9 (by rfl) (fun _ h => h) (Ev.indexArr (sz := 2) (show Oper.op _ = Op.indexAddr 93 (Operand.tmp 32) (Operand.tmp 30) from rfl) (by rfl) (by rfl) Try.underlying93 (by kernel_rfl) (by omega)) (by rfl) (some 33) (by rfl) (by kernel_rfl) (by kernel_rfl) (by kernel_rfl) (by kernel_rfl) ?_
          refine Rg.ev 10 (by rfl) (fun _ h => h) (Ev.loads 3 (show Oper.op _ = Op.load 41 (Operand.tmp 33) from rfl) (by rfl) (by rfl) (by kernel_rfl) hrr rfl) (by rfl) (some 34) (by rfl) (by kernel_rfl) (by kernel_rfl) (by kernel_rfl) (by kernel_rfl) ?_
          refine Rg.ev 11 (by rfl) (fun _ h => h) (Ev.move (show Oper.op _ = Op.move (Operand.tmp 3) from rfl) (by rfl)) (by rfl) (some 35) (by rfl) (by kernel_rfl) (by kernel_rfl) (by kernel_rfl) (by kernel_rfl) ?_
          refine Rg.does 12 (by rfl) (by kernel_rfl) (Does.readN (show Oper.op _ = Op.call { callee := Callee.value (Operand.func 37), args := #[Operand.tmp 34, Operand.tmp 35], argTypes := #[41, 3] } from rfl) Try.func37 (by kernel_rfl) (by kernel_rfl) (hcut) (by rfl) (by rfl) ⟨ReadsIn.rd 0 (by rfl), trivial⟩ (fun _ => by rfl)) (by rfl) (some 36) (by rfl) (fun _ _ h => h.tail_) ?_
          intro z hz
          skip
          refine Rg.does 13 (by rfl) (by kernel_rfl) (Does.read (show Oper.op _ = Op.call { callee := Callee.value (Operand.func 52), args := #[Operand.tmp 28, Operand.tmp 36], argTypes := #[41, 41] } from rfl) Try.func52 (by kernel_rfl) (by kernel_rfl) (meet_sl x z) (by rfl) (by rfl) ⟨ReadsIn.rd 8 (by rfl), ReadsIn.row 0 (by rfl), trivial⟩) (by rfl) (some 37) (by rfl) (by exact fun _ _ h => h) ?_
          rintro _ -
          refine Rg.ev 14 (by rfl) (fun _ h => h) (Ev.pickT (show Oper.op _ = Op.pick (Operand.tmp 27) (Operand.tmp 37) (Operand.const (Value.bool false)) from rfl) (by rfl) (by rfl)) (by rfl) (some 38) (by rfl) (by kernel_rfl) (by kernel_rfl) (by kernel_rfl) (by kernel_rfl) ?_
          refine Rg.done (by kernel_rfl) ?_ _
          refine Ent.pick [2, 3, 4, 5, 6, 7, 8] (by rfl) ?_
          refine Ent.inv (()) ?_ ?_ ?_
          · (try dsimp only); skip
          · (repeat (first | exact trivial | refine ⟨by rfl, ?_⟩ | refine ⟨by simp only [List.length_append, List.length_cons, List.length_nil]; rfl, ?_⟩ | refine ⟨by push_cast; rfl, ?_⟩ | refine ⟨by (show some (Value.bool _) = some (Value.bool _); rw [h3, hz]; rfl), ?_⟩))
          · rfl
      skip
      rintro _ -
      refine Cd.cond _ (by rfl) (fun h3 => ?_) (fun h3 => ?_)
      · skip
        rw [h3, Bool.true_or] at hst
        rw [if_pos (by rw [hcf, hst])] at hT
        rw [hT]
        refine Cd.seq ?_
        refine Cd.region ?_
        refine Ls.does (some 39) (Does.read (show Oper.op _ = Op.call { callee := Callee.value (Operand.func 36), args := #[Operand.const (Value.int IntKind.i64 140)], argTypes := #[30] } from rfl) Try.func36 (by kernel_rfl) (by kernel_rfl) (refused_sl 140) (by rfl) (by rfl) trivial) (by rfl) (by rfl) ?_
        rintro _ -
        refine Ls.does none (Does.store 0 (show Oper.op _ = Op.store 45 (Operand.tmp 8) (Operand.tmp 39) from rfl) (by rfl) (by rfl) (by rfl) (by kernel_rfl) (by rfl) (by kernel_rfl) (by rfl)) (by rfl) (by rfl) ?_
        intro _ _
        refine Ls.nil ?_
        refine Ent.nil 3 1 (Ent.see 0 (by rfl) ?_)
        refine Cd.ret ?_
        refine Ent.ret ((B, refS 140)) (⟨hB, rfl, rfl⟩) (Res.cell 1 (by rfl) (by rfl) (by rfl) (n := 4) (by kernel_rfl) (by rfl) (by rfl)) ?_ [3, 4, 0] (by rfl) ?_
        · rfl
        · rfl
      · skip
        rw [h3, Bool.false_or] at hst
        refine Cd.skip ?_
        refine Cd.region ?_
        refine Ls.ev (some 40) (Ev.addI (show Oper.op _ = Op.binOp BinOp.add 3 (Operand.tmp 21) (Operand.const (Value.int IntKind.i64 1)) 3 from rfl) (by rfl) (by rfl) (by omega)) (by rfl) (by rfl) ?_
        refine Ls.ev (some 21) (Ev.move (show Oper.op _ = Op.move (Operand.tmp 40) from rfl) (by rfl)) (by rfl) (by rfl) ?_
        refine Ls.nil ?_
        refine Ent.inv (k + 1) ?_ ?_ ?_
        · (try dsimp only); exact ⟨⟨by omega, by rw [hcf, hst]⟩, by omega⟩
        · (repeat (first | exact trivial | refine ⟨by rfl, ?_⟩ | refine ⟨by simp only [List.length_append, List.length_cons, List.length_nil]; rfl, ?_⟩ | refine ⟨by push_cast; rfl, ?_⟩))
        · rfl
    · skip
      have hkl : k = 16 := by have := of_decide_eq_false h2; omega
      subst hkl
      have hcf : confP B.p r x.p tick 16 0 = false := hcf
      rw [if_neg (by rw [hcf]; decide)] at hT
      rw [hT]
      refine Cd.exit ?_
      refine Cd.seq ?_
      refine Cd.draw [7] (by kernel_rfl) ?_
      refine Rg.ev 0 (by rfl) (fun _ h => h) (Ev.move (show Oper.op _ = Op.move (Operand.tmp 0) from rfl) (by rfl)) (by rfl) (some 41) (by rfl) (by kernel_rfl) (by kernel_rfl) (by kernel_rfl) (by kernel_rfl) ?_
      refine Rg.ev 1 (by rfl) (fun _ h => h) (Ev.move (show Oper.op _ = Op.move (Operand.tmp 1) from rfl) (by rfl)) (by rfl) (some 42) (by rfl) (by kernel_rfl) (by kernel_rfl) (by kernel_rfl) (by kernel_rfl) ?_
      refine Rg.ev 2 (by rfl) (fun _ h => h) (Ev.loads 1 (show Oper.op _ = Op.load 41 (Operand.tmp 6) from rfl) (by rfl) (by rfl) (n := 2) (by kernel_rfl) (by rfl) (by rfl)) (by rfl) (some 43) (by rfl) (by kernel_rfl) (by kernel_rfl) (by kernel_rfl) (by kernel_rfl) ?_
      refine Rg.ev 4 (by rfl) (fun _ h => h) (Ev.nilCheck (show Oper.op _ = Op.nilCheck (Operand.tmp 41) from rfl) (by rfl)) (by rfl) (some 45) (by rfl) (by kernel_rfl) (by kernel_rfl) (by kernel_rfl) (by kernel_rfl) ?_
      refine Rg.ev 5 (by rfl) (fun _ h => h) (Ev.fieldAddr (k := 17) (show Oper.op _ = Op.fieldAddr 95 (Operand.tmp 45) 2 from rfl) (by rfl) (by kernel_rfl) (by rfl)) (by rfl) (some 46) (by rfl) (by kernel_rfl) (by kernel_rfl) (by kernel_rfl) (by kernel_rfl) ?_
      refine Rg.does 3 (by rfl) (by kernel_rfl) (Does.readN (show Oper.op _ = Op.call { callee := Callee.value (Operand.func 40), args := #[Operand.tmp 43, Operand.const (Value.slice none 0 0)], argTypes := #[41, 22] } from rfl) Try.func40 (by kernel_rfl) (by kernel_rfl) (join_sl x none 0 [] (by simp; omega)) (by rfl) (by rfl) ⟨ReadsIn.rd 6 (by rfl), ReadsIn.nil_, trivial⟩ (fun _ => by rfl)) (by rfl) (some 44) (by rfl) (fun _ _ h => h.tail_) ?_
      rintro y ⟨hy1, hy2⟩
      have hyp : y.p = x.p := by
        unfold RtS.p
        rw [hy1, hy2, List.append_nil]
      refine Ent.fact 0 (by rfl) (p := y.l.length ≤ y.c) (fun w hw => Own.le hw) (fun hyc => ?_)
      have hvl := BkS.vals_len (B := B) hB G.g
      have hrs := BkS.rt_set (B := B) hB hr G.g y
      refine Rg.ev 6 (by rfl) (fun _ h => h) (Ev.indexArr (sz := 2) (show Oper.op _ = Op.indexAddr 93 (Operand.tmp 46) (Operand.tmp 42) from rfl) (by rfl) (by rfl) Try.underlying93 (by kernel_rfl) (by omega)) (by rfl) (some 47) (by rfl) (by kernel_rfl) (by kernel_rfl) (by kernel_rfl) (by kernel_rfl) ?_
      refine Rg.tail 7 [] (by rfl) (by kernel_rfl) (Does.store 3 (show Oper.op _ = Op.store 41 (Operand.tmp 47) (Operand.tmp 44) from rfl) (by rfl) (by rfl) (by rfl) (by kernel_rfl) (by rfl) (decide_eq_true (by rw [hvl]; show 0 + 17 + r * 2 + 2 ≤ 49; omega)) hrs) (by rfl) none (by rfl) (by kernel_rfl) (by kernel_rfl) ?_
      rintro _ -
      refine Rg.done (by kernel_rfl) ?_ _
      refine Cd.seq ?_
      refine Ent.see 0 (by rfl) (Ent.pick [0, 4, 1, 2, 3, 5, 6, 7] (by rfl) ?_)
      have hfam : ∀ i, ((({ B with rts := B.rts.set r y } : BkS).rts.getD i noS).rd = (B.rts.getD i noS).rd) ∨ ((({ B with rts := B.rts.set r y } : BkS).rts.getD i noS).rd = y.rd) := by
        intro i
        dsimp only
        rw [List.getD_eq_getElem?_getD, List.getD_eq_getElem?_getD, List.getElem?_set]
        split
        · right
          rw [if_pos (by rw [hB.rts]; omega)]
          rfl
        · exact .inl rfl
      refine Ent.map (fun w hs => Sat.starf_put (F := fun k : Nat => (B.rts.getD k noS).rd) (G := fun k : Nat => (({ B with rts := B.rts.set r y } : BkS).rts.getD k noS).rd) (C := y.rd) rfl hfam hs) ?_
      have hB2 : ({ B with rts := B.rts.set r y } : BkS).Ok := BkS.ok_rt hB hyc
      have hep := BkS.ep_get hB2 hr G.g
      have hp2 : ({ B with rts := B.rts.set r y } : BkS).p = B.p.setRt r x.p := by
        unfold BkS.p BkP.setRt
        dsimp only
        rw [List.map_set, hyp, show ((r : Int)).toNat = r by omega]
      refine Cd.draw [9] (by kernel_rfl) ?_
      refine Rg.ev 0 (by rfl) (fun _ h => h) (Ev.move (show Oper.op _ = Op.move (Operand.tmp 0) from rfl) (by rfl)) (by rfl) (some 48) (by rfl) (by kernel_rfl) (by kernel_rfl) (by kernel_rfl) (by kernel_rfl) ?_
      refine Rg.ev 1 (by rfl) (fun _ h => h) (Ev.move (show Oper.op _ = Op.move (Operand.tmp 1) from rfl) (by rfl)) (by rfl) (some 49) (by rfl) (by kernel_rfl) (by kernel_rfl) (by kernel_rfl) (by kernel_rfl) ?_
      refine Rg.ev 2 (by rfl) (fun _ h => h) (Ev.nilCheck (show Oper.op _ = Op.nilCheck (Operand.tmp 48) from rfl) (by rfl)) (by rfl) (some 50) (by rfl) (by kernel_rfl) (by kernel_rfl) (by kernel_rfl) (by kernel_rfl) ?_
      refine Rg.ev 3 (by rfl) (fun _ h => h) (Ev.fieldAddr (k := 1) (show Oper.op _ = Op.fieldAddr 95 (Operand.tmp 50) 1 from rfl) (by rfl) (by kernel_rfl) (by rfl)) (by rfl) (some 51) (by rfl) (by kernel_rfl) (by kernel_rfl) (by kernel_rfl) (by kernel_rfl) ?_
      refine Rg.ev 4 (by rfl) (fun _ h => h) (Ev.indexArr (sz := 1) (show Oper.op _ = Op.indexAddr 92 (Operand.tmp 51) (Operand.tmp 49) from rfl) (by rfl) (by rfl) Try.underlying92 (by kernel_rfl) (by omega)) (by rfl) (some 52) (by rfl) (by kernel_rfl) (by kernel_rfl) (by kernel_rfl) (by kernel_rfl) ?_
      refine Rg.ev 5 (by rfl) (fun _ h => h) (Ev.load 3 (show Oper.op _ = Op.load 3 (Operand.tmp 52) from rfl) (by rfl) (by rfl) (by kernel_rfl) hep) (by rfl) (some 53) (by rfl) (by kernel_rfl) (by kernel_rfl) (by kernel_rfl) (by kernel_rfl) ?_
      refine Rg.ev 6 (by rfl) (fun _ h => h) (Ev.loads 2 (show Oper.op _ = Op.load 41 (Operand.tmp 6) from rfl) (by rfl) (by rfl) (n := 2) (by kernel_rfl) (by rfl) (by rfl)) (by rfl) (some 54) (by rfl) (by kernel_rfl) (by kernel_rfl) (by kernel_rfl) (by kernel_rfl) ?_
      refine Rg.does 7 (by rfl) (by kernel_rfl) (Does.readN (show Oper.op _ = Op.call { callee := Callee.value (Operand.func 40), args := #[Operand.tmp 54, Operand.const (Value.slice none 0 0)], argTypes := #[41, 22] } from rfl) Try.func40 (by kernel_rfl) (by kernel_rfl) (join_sl x none 0 [] (by simp; omega)) (by rfl) (by rfl) ⟨ReadsIn.rd 6 (by rfl), ReadsIn.nil_, trivial⟩ (fun _ => by rfl)) (by rfl) (some 55) (by rfl) (fun _ _ h => h.tail_) ?_
      rintro z ⟨hz1, hz2⟩
      refine Rg.ev 8 (by rfl) (fun _ h => h) (Ev.buildP (pl := [(0, 1), (1, 1), (2, 2)]) (zs := [.int .i64 0, .int .i64 0, .int .i64 0, .slice none 0 0]) (show Oper.op _ = Op.build 45 #[(1, Operand.tmp 53), (2, Operand.tmp 55)] from rfl) (by rfl) (by kernel_rfl) (by rfl)) (by rfl) (some 56) (by rfl) (by kernel_rfl) (by kernel_rfl) (by kernel_rfl) (by kernel_rfl) ?_
      refine Rg.tail 9 [] (by rfl) (by kernel_rfl) (Does.store 2 (show Oper.op _ = Op.store 45 (Operand.tmp 8) (Operand.tmp 56) from rfl) (by rfl) (by rfl) (by rfl) (by kernel_rfl) (by rfl) (by kernel_rfl) (by rfl)) (by rfl) none (by rfl) (by kernel_rfl) (by kernel_rfl) ?_
      intro _ _
      refine Rg.done (by kernel_rfl) ?_ _
      refine Ent.see 0 (by rfl) ?_
      refine Cd.ret ?_
      refine Ent.ret ((({ B with rts := B.rts.set r y } : BkS), ⟨0, B.eps.getD r 0, z⟩)) (⟨hB2, hp2, by unfold RepS.p RtS.p BkP.ep BkS.p; dsimp only; rw [hz1, hz2, List.append_nil, show ((r : Int)).toNat = r by omega]⟩) (Res.cell 2 (by rfl) (by rfl) (by rfl) (n := 4) (by kernel_rfl) (by rfl) (by rfl)) ?_ [4, 1, 0] (by rfl) ?_
      · rfl
      · rfl
set_option maxHeartbeats 1000000 in
theorem resv_sl (g : Nat) (B : BkS) (hB : B.Ok) (r : Nat) (hr : r < 16) (x n : RtS) (tick : Int) (hx : x.l.length ≤ 1048576 ∧ x.l.length ≤ x.c) :
    Fn Try.prog 38 #[.pointer (some ⟨g, 0, none⟩), .int .i64 r, .agg x.enc.toArray, .agg n.enc.toArray, .int .i64 tick] [blk g 95 (B.vals G.g), B.fam, G.b m, G.r m, x.rd] (BkS × RepS) (fun p => .agg p.2.enc.toArray) (fun p => [blk g 95 (p.1.vals G.g), p.1.fam, p.2.rt.rd])
      (fun p => p.1.Ok ∧ p.1.p = (resvP m B.p r x.p n.p tick).1 ∧ p.2.p = (resvP m B.p r x.p n.p tick).2) := by
  have hck := check_sl G m hm x
  have hT : resvP m B.p r x.p n.p tick = if checkR m x.p ≠ 0 then (B.p, refusedP (checkR m x.p)) else if x.s < tick then (B.p, refusedP 7) else if 0 < n.l.length then (B.p, refusedP 2) else takeP m B.p r x.p tick := rfl
  refine Fn.enter Try.func38 rfl Try.ntmps38 (by rfl) ?_
  intro w0
  refine Cd.seq ?_
  refine Cd.region ?_
  refine Ls.does (some 7) (Does.box (show Oper.op _ = Op.box 41 (Operand.tmp 2) from rfl) (by rfl)) (by rfl) (by rfl) ?_
  intro g1 _
  refine Ls.does (some 8) (Does.box (show Oper.op _ = Op.box 41 (Operand.tmp 3) from rfl) (by rfl)) (by rfl) (by rfl) ?_
  intro g2 _
  refine Ls.does (some 10) (Does.alloc (cs := [.int .i64 0, .int .i64 0, .int .i64 0, .slice none 0 0]) (show Oper.op _ = Op.alloc 45 from rfl) (ZeroIs.mk (.agg #[.int .i64 0, .int .i64 0, .int .i64 0, .slice none 0 0]) (by kernel_rfl) (by rfl))) (by rfl) (by rfl) ?_
  intro g3 _
  refine Ls.nil ?_
  refine Cd.seq ?_
  refine Cd.seq ?_
  refine Cd.draw [] (by kernel_rfl) ?_
  refine Rg.ev 0 (by rfl) (fun _ h => h) (Ev.move (show Oper.op _ = Op.move (Operand.tmp 0) from rfl) (by rfl)) (by rfl) (some 12) (by rfl) (by kernel_rfl) (by kernel_rfl) (by kernel_rfl) (by kernel_rfl) ?_
  refine Rg.ev 1 (by rfl) (fun _ h => h) (Ev.nilCheck (show Oper.op _ = Op.nilCheck (Operand.tmp 12) from rfl) (by rfl)) (by rfl) (some 13) (by rfl) (by kernel_rfl) (by kernel_rfl) (by kernel_rfl) (by kernel_rfl) ?_
  refine Rg.ev 2 (by rfl) (fun _ h => h) (Ev.fieldAddr (k := 0) (show Oper.op _ = Op.fieldAddr 95 (Operand.tmp 13) 0 from rfl) (by rfl) (by kernel_rfl) (by rfl)) (by rfl) (some 14) (by rfl) (by kernel_rfl) (by kernel_rfl) (by kernel_rfl) (by kernel_rfl) ?_
  refine Rg.ev 3 (by rfl) (fun _ h => h) (Ev.load 3 (show Oper.op _ = Op.load 79 (Operand.tmp 14) from rfl) (by rfl) (by rfl) (by kernel_rfl) (by rfl)) (by rfl) (some 15) (by rfl) (by kernel_rfl) (by kernel_rfl) (by kernel_rfl) (by kernel_rfl) ?_
  refine Rg.ev 4 (by rfl) (fun _ h => h) (Ev.loads 2 (show Oper.op _ = Op.load 41 (Operand.tmp 7) from rfl) (by rfl) (by rfl) (n := 2) (by kernel_rfl) (by rfl) (by rfl)) (by rfl) (some 16) (by rfl) (by kernel_rfl) (by kernel_rfl) (by kernel_rfl) (by kernel_rfl) ?_
  refine Rg.does 5 (by rfl) (by kernel_rfl) (Does.read (show Oper.op _ = Op.call { callee := Callee.value (Operand.func 51), args := #[Operand.tmp 15, Operand.tmp 16], argTypes := #[79, 41] } from rfl) Try.func51 (by kernel_rfl) (by kernel_rfl) (hck) (by rfl) (by rfl) ⟨rblkIn 5 (by rfl), rmapIn 6 (by rfl), ReadsIn.rd 7 (by rfl), trivial⟩) (by rfl) (some 17) (by rfl) (by exact fun _ _ h => h) ?_
  rintro _ -
  refine Rg.ev 6 (by rfl) (fun _ h => h) (Ev.assign (show Oper.op _ = Op.assign (Operand.tmp 17) from rfl) (by rfl)) (by rfl) (some 11) (by rfl) (by kernel_rfl) (by kernel_rfl) (by kernel_rfl) (by kernel_rfl) ?_
  refine Rg.done (by kernel_rfl) ?_ _
  refine Cd.block ?_
  refine Cd.seq ?_
  refine Cd.region ?_
  refine Ls.ev (some 19) (Ev.move (show Oper.op _ = Op.move (Operand.tmp 11) from rfl) (by rfl)) (by rfl) (by rfl) ?_
  refine Ls.ev (some 20) (Ev.neq (show Oper.op _ = Op.binOp BinOp.neq 30 (Operand.tmp 19) (Operand.const (Value.int IntKind.i64 0)) 30 from rfl) (by rfl) (by rfl)) (by rfl) (by rfl) ?_
  refine Ls.ev (some 18) (Ev.assign (show Oper.op _ = Op.assign (Operand.tmp 20) from rfl) (by rfl)) (by rfl) (by rfl) ?_
  refine Ls.nil ?_
  refine Cd.cond _ (by rfl) (fun h1 => ?_) (fun h1 => ?_)
  · skip
    have h1 := of_decide_eq_true h1
    rw [if_pos h1] at hT
    rw [hT]
    refine Cd.seq ?_
    refine Cd.region ?_
    refine Ls.ev (some 21) (Ev.move (show Oper.op _ = Op.move (Operand.tmp 11) from rfl) (by rfl)) (by rfl) (by rfl) ?_
    refine Ls.does (some 22) (Does.read (show Oper.op _ = Op.call { callee := Callee.value (Operand.func 36), args := #[Operand.tmp 21], argTypes := #[30] } from rfl) Try.func36 (by kernel_rfl) (by kernel_rfl) (refused_sl (checkR m x.p)) (by rfl) (by rfl) trivial) (by rfl) (by rfl) ?_
    rintro _ -
    refine Ls.does none (Does.store 0 (show Oper.op _ = Op.store 45 (Operand.tmp 10) (Operand.tmp 22) from rfl) (by rfl) (by rfl) (by rfl) (by kernel_rfl) (by rfl) (by kernel_rfl) (by rfl)) (by rfl) (by rfl) ?_
    intro _ _
    refine Ls.nil ?_
    refine Ent.nil 3 1 (Ent.see 0 (by rfl) ?_)
    refine Cd.ret ?_
    refine Ent.ret ((B, refS (checkR m x.p))) (⟨hB, rfl, rfl⟩) (Res.cell 1 (by rfl) (by rfl) (by rfl) (n := 4) (by kernel_rfl) (by rfl) (by rfl)) ?_ [4, 5, 0] (by rfl) ?_
    · rfl
    · rfl
  · skip
    rw [if_neg (of_decide_eq_false h1)] at hT
    refine Cd.seq ?_
    refine Cd.region ?_
    refine Ls.ev (some 24) (Ev.fieldAddr (k := 0) (show Oper.op _ = Op.fieldAddr 41 (Operand.tmp 7) 0 from rfl) (by rfl) (by kernel_rfl) (by rfl)) (by rfl) (by rfl) ?_
    refine Ls.ev (some 25) (Ev.load 2 (show Oper.op _ = Op.load 3 (Operand.tmp 24) from rfl) (by rfl) (by rfl) (by kernel_rfl) (by rfl)) (by rfl) (by rfl) ?_
    refine Ls.ev (some 26) (Ev.move (show Oper.op _ = Op.move (Operand.tmp 4) from rfl) (by rfl)) (by rfl) (by rfl) ?_
    refine Ls.ev (some 27) (Ev.lss (show Oper.op _ = Op.binOp BinOp.lss 3 (Operand.tmp 25) (Operand.tmp 26) 3 from rfl) (by rfl) (by rfl)) (by rfl) (by rfl) ?_
    refine Ls.ev (some 23) (Ev.assign (show Oper.op _ = Op.assign (Operand.tmp 27) from rfl) (by rfl)) (by rfl) (by rfl) ?_
    refine Ls.nil ?_
    refine Cd.cond _ (by rfl) (fun h2 => ?_) (fun h2 => ?_)
    · skip
      rw [if_pos (of_decide_eq_true h2)] at hT
      rw [hT]
      refine Cd.seq ?_
      refine Cd.region ?_
      refine Ls.does (some 28) (Does.read (show Oper.op _ = Op.call { callee := Callee.value (Operand.func 36), args := #[Operand.const (Value.int IntKind.i64 7)], argTypes := #[30] } from rfl) Try.func36 (by kernel_rfl) (by kernel_rfl) (refused_sl 7) (by rfl) (by rfl) trivial) (by rfl) (by rfl) ?_
      rintro _ -
      refine Ls.does none (Does.store 0 (show Oper.op _ = Op.store 45 (Operand.tmp 10) (Operand.tmp 28) from rfl) (by rfl) (by rfl) (by rfl) (by kernel_rfl) (by rfl) (by kernel_rfl) (by rfl)) (by rfl) (by rfl) ?_
      intro _ _
      refine Ls.nil ?_
      refine Ent.nil 3 1 (Ent.see 0 (by rfl) ?_)
      refine Cd.ret ?_
      refine Ent.ret ((B, refS 7)) (⟨hB, rfl, rfl⟩) (Res.cell 1 (by rfl) (by rfl) (by rfl) (n := 4) (by kernel_rfl) (by rfl) (by rfl)) ?_ [4, 5, 0] (by rfl) ?_
      · rfl
      · rfl
    · skip
      rw [if_neg (of_decide_eq_false h2)] at hT
      refine Cd.seq ?_
      refine Cd.region ?_
      refine Ls.ev (some 30) (Ev.fieldAddr (k := 1) (show Oper.op _ = Op.fieldAddr 41 (Operand.tmp 8) 1 from rfl) (by rfl) (by kernel_rfl) (by rfl)) (by rfl) (by rfl) ?_
      refine Ls.ev (some 31) (Ev.load 1 (show Oper.op _ = Op.load 22 (Operand.tmp 30) from rfl) (by rfl) (by rfl) (by kernel_rfl) (by rfl)) (by rfl) (by rfl) ?_
      refine Ls.ev (some 32) (Ev.len (show Oper.op _ = Op.call { callee := Callee.builtin Builtin.len, args := #[Operand.tmp 31], argTypes := #[22] } from rfl) (by rfl) Try.underlying22) (by rfl) (by rfl) ?_
      refine Ls.ev (some 33) (Ev.gtr (show Oper.op _ = Op.binOp BinOp.gtr 3 (Operand.tmp 32) (Operand.const (Value.int IntKind.i64 0)) 3 from rfl) (by rfl) (by rfl)) (by rfl) (by rfl) ?_
      refine Ls.ev (some 29) (Ev.assign (show Oper.op _ = Op.assign (Operand.tmp 33) from rfl) (by rfl)) (by rfl) (by rfl) ?_
      refine Ls.nil ?_
      refine Cd.cond _ (by rfl) (fun h3 => ?_) (fun h3 => ?_)
      · skip
        have h3 : 0 < n.l.length := by have := of_decide_eq_true h3; omega
        rw [if_pos h3] at hT
        rw [hT]
        refine Cd.seq ?_
        refine Cd.region ?_
        refine Ls.does (some 34) (Does.read (show Oper.op _ = Op.call { callee := Callee.value (Operand.func 36), args := #[Operand.const (Value.int IntKind.i64 2)], argTypes := #[30] } from rfl) Try.func36 (by kernel_rfl) (by kernel_rfl) (refused_sl 2) (by rfl) (by rfl) trivial) (by rfl) (by rfl) ?_
        rintro _ -
        refine Ls.does none (Does.store 0 (show Oper.op _ = Op.store 45 (Operand.tmp 10) (Operand.tmp 34) from rfl) (by rfl) (by rfl) (by rfl) (by kernel_rfl) (by rfl) (by kernel_rfl) (by rfl)) (by rfl) (by rfl) ?_
        intro _ _
        refine Ls.nil ?_
        refine Ent.nil 3 1 (Ent.see 0 (by rfl) ?_)
        refine Cd.ret ?_
        refine Ent.ret ((B, refS 2)) (⟨hB, rfl, rfl⟩) (Res.cell 1 (by rfl) (by rfl) (by rfl) (n := 4) (by kernel_rfl) (by rfl) (by rfl)) ?_ [4, 5, 0] (by rfl) ?_
        · rfl
        · rfl
      · skip
        have h3 : ¬ 0 < n.l.length := by have := of_decide_eq_false h3; omega
        rw [if_neg h3] at hT
        rw [hT]
        refine Cd.skip ?_
        refine Cd.seq ?_
        refine Cd.region ?_
        refine Ls.ev (some 35) (Ev.move (show Oper.op _ = Op.move (Operand.tmp 0) from rfl) (by rfl)) (by rfl) (by rfl) ?_
        refine Ls.ev (some 36) (Ev.move (show Oper.op _ = Op.move (Operand.tmp 1) from rfl) (by rfl)) (by rfl) (by rfl) ?_
        refine Ls.ev (some 37) (Ev.loads 2 (show Oper.op _ = Op.load 41 (Operand.tmp 7) from rfl) (by rfl) (by rfl) (n := 2) (by kernel_rfl) (by rfl) (by rfl)) (by rfl) (by rfl) ?_
        refine Ls.ev (some 38) (Ev.move (show Oper.op _ = Op.move (Operand.tmp 4) from rfl) (by rfl)) (by rfl) (by rfl) ?_
        refine Ls.does (some 39) (Does.call [3, 4, 5, 6, 7, 0] (show Oper.op _ = Op.call { callee := Callee.value (Operand.func 39), args := #[Operand.tmp 35, Operand.tmp 36, Operand.tmp 37, Operand.tmp 38], argTypes := #[48, 3, 41, 3] } from rfl) Try.func39 (by kernel_rfl) (by kernel_rfl) (take_sl G m hm g B hB r hr x tick hx) (by rfl) (by rfl) (by rfl)) (by rfl) (by rfl) ?_
        rintro ⟨B2, R⟩ hp
        refine Ls.does none (Does.store 3 (show Oper.op _ = Op.store 45 (Operand.tmp 10) (Operand.tmp 39) from rfl) (by rfl) (by rfl) (by rfl) (by kernel_rfl) (by rfl) (by kernel_rfl) (by rfl)) (by rfl) (by rfl) ?_
        intro _ _
        refine Ls.nil ?_
        refine Cd.ret ?_
        refine Ent.ret ((B2, R)) (hp) (Res.cell 3 (by rfl) (by rfl) (by rfl) (n := 4) (by kernel_rfl) (by rfl) (by rfl)) ?_ [0, 1, 2] (by rfl) ?_
        · rfl
        · rfl
end
end Go.Proofs.Ytegjoabfoddadaa
/- the book over pieces: Apply, New -/
namespace Go.Proofs.Ytegjoabfoddadaa
open Go.RowKit
/-- A call as it lies. -/
structure CallS where
  verb : Int
  ep : Int
  rt : RtS
  deriving Inhabited
def CallS.enc (x : CallS) : List Value := [.int .i64 x.verb, .int .i64 x.ep, .int .i64 x.rt.s, .slice x.rt.A x.rt.l.length x.rt.c]
def CallS.p (x : CallS) : CallP := ⟨x.verb, x.ep, x.rt.p⟩
theorem cut_len (r : RtP) (t : Int) : (cutR r t).cells.length ≤ 24 := by
  unfold cutR
  split
  · exact Nat.zero_le _
  · rename_i h
    have hp : planR r = true := by
      cases hp : planR r with
      | true => rfl
      | false => exact absurd (.inl hp) h
    have := (planR_iff.1 hp).1
    split
    · exact this
    · dsimp only
      rw [List.length_drop]
      omega
section
variable (G : GrS) (m : MapP) (hm : goodM m = true)
include hm
set_option maxHeartbeats 2000000 in
theorem apply_sl (g : Nat) (B : BkS) (hB : B.Ok) (hE : ∀ k, 0 ≤ B.eps.getD k 0 ∧ B.eps.getD k 0 ≤ 1000000) (r : Int) (c : CallS) (tick : Int) (hc : c.rt.l.length ≤ 100 ∧ c.rt.l.length ≤ c.rt.c) :
    Fn Try.prog 23 #[.pointer (some ⟨g, 0, none⟩), .int .i64 r, .agg c.enc.toArray, .int .i64 tick] [blk g 95 (B.vals G.g), B.fam, G.b m, G.r m, c.rt.rd] (BkS × RepS) (fun p => .agg p.2.enc.toArray) (fun p => [blk g 95 (p.1.vals G.g), p.1.fam, p.2.rt.rd])
      (fun p => p.1.Ok ∧ p.1.p = (applyP m B.p r c.p tick).1 ∧ p.2.p = (applyP m B.p r c.p tick).2) := by
  have hA : applyP m B.p r c.p tick = if isR r = false ∨ c.verb < 1 ∨ 6 < c.verb then (B.p, refusedP 1)
    else if c.verb = 1 then ({ B.p with eps := B.p.eps.set r.toNat (B.p.ep r + 1) }, ⟨0, B.p.ep r + 1, cutR (B.p.rt r) tick⟩)
    else if B.p.ep r = 0 then (B.p, refusedP 4)
    else if c.verb = 6 then (B.p, ⟨0, B.p.ep r, cutR (B.p.rt r) tick⟩)
    else if B.p.ep r ≠ c.ep then (B.p, refusedP 190)
    else if c.verb = 2 then (B.p, ⟨0, B.p.ep r, noR⟩)
    else if c.verb = 3 then resvP m B.p r c.rt.p (cutR (B.p.rt r) tick) tick
    else if (cutR (B.p.rt r) tick).cells.length = 0 then (B.p, refusedP 4)
    else if c.verb = 4 then takeP m B.p r ⟨(cutR (B.p.rt r) tick).start, (cutR (B.p.rt r) tick).cells ++ c.rt.l⟩ tick
    else (B.p.setRt r noR, ⟨0, B.p.ep r, noR⟩) := rfl
  refine Fn.enter Try.func23 rfl Try.ntmps23 (by rfl) ?_
  intro w0
  refine Cd.seq ?_
  refine Cd.region ?_
  refine Ls.does (some 6) (Does.box (show Oper.op _ = Op.box 43 (Operand.tmp 2) from rfl) (by rfl)) (by rfl) (by rfl) ?_
  intro g1 _
  refine Ls.does (some 8) (Does.alloc (cs := [.int .i64 0, .int .i64 0, .int .i64 0, .slice none 0 0]) (show Oper.op _ = Op.alloc 45 from rfl) (ZeroIs.mk (.agg #[.int .i64 0, .int .i64 0, .int .i64 0, .slice none 0 0]) (by kernel_rfl) (by rfl))) (by rfl) (by rfl) ?_
  intro g2 _
  refine Ls.nil ?_
  refine Cd.seq ?_
  refine Cd.seq ?_
  refine Cd.cut (ι := Unit) (fun _ => [(0, .pointer (some ⟨g, 0, none⟩)), (1, .int .i64 r), (3, .int .i64 tick), (6, .pointer (some ⟨g1, 0, none⟩)), (8, .pointer (some ⟨g2, 0, none⟩)), (23, .bool (decide (¬ (0 ≤ r ∧ r < 16) ∨ c.verb < 1 ∨ 6 < c.verb)))]) (fun _ => [blk g2 45 (refS 0).enc, blk g1 43 c.enc, blk g 95 (B.vals G.g), B.fam, G.b m, G.r m, c.rt.rd]) (fun _ => True) ?_ ?_
  · skip
    refine Cd.region ?_
    refine Ls.ev (some 11) (Ev.move (show Oper.op _ = Op.move (Operand.tmp 1) from rfl) (by rfl)) (by rfl) (by rfl) ?_
    refine Ls.does (some 12) (Does.read (show Oper.op _ = Op.call { callee := Callee.value (Operand.func 35), args := #[Operand.tmp 11], argTypes := #[3] } from rfl) Try.func35 (by kernel_rfl) (by kernel_rfl) (bis_sl r) (by rfl) (by rfl) trivial) (by rfl) (by rfl) ?_
    rintro _ -
    refine Ls.ev (some 13) (Ev.not (show Oper.op _ = Op.unOp UnOp.not 4 (Operand.tmp 12) from rfl) (by rfl)) (by rfl) (by rfl) ?_
    refine Ls.ev (some 14) (Ev.move (show Oper.op _ = Op.move (Operand.tmp 13) from rfl) (by rfl)) (by rfl) (by rfl) ?_
    refine Ent.split 14 (by rfl) (fun hT1 => ?_) (fun hT1 => ?_)
    · first | have hT1 := of_decide_eq_false hT1 | have hT1 := of_not_decide_false hT1 | skip
      refine Ls.ev (some 15) (Ev.fieldAddr (k := 0) (show Oper.op _ = Op.fieldAddr 43 (Operand.tmp 6) 0 from rfl) (by rfl) (by kernel_rfl) (by rfl)) (by rfl) (by rfl) ?_
      refine Ls.ev (some 16) (Ev.load 1 (show Oper.op _ = Op.load 39 (Operand.tmp 15) from rfl) (by rfl) (by rfl) (by kernel_rfl) (by rfl)) (by rfl) (by rfl) ?_
      refine Ls.ev (some 17) (Ev.lss (show Oper.op _ = Op.binOp BinOp.lss 39 (Operand.tmp 16) (Operand.const (Value.int IntKind.i64 1)) 39 from rfl) (by rfl) (by rfl)) (by rfl) (by rfl) ?_
      refine Ls.ev (some 18) (Ev.pickF (show Oper.op _ = Op.pick (Operand.tmp 14) (Operand.const (Value.bool true)) (Operand.tmp 17) from rfl) (by rfl) (by rfl)) (by rfl) (by rfl) ?_
      refine Ls.ev (some 19) (Ev.move (show Oper.op _ = Op.move (Operand.tmp 18) from rfl) (by rfl)) (by rfl) (by rfl) ?_
      refine Ent.split 19 (by rfl) (fun hT2 => ?_) (fun hT2 => ?_)
      · first | have hT2 := of_decide_eq_false hT2 | have hT2 := of_not_decide_false hT2 | skip
        refine Ls.ev (some 20) (Ev.fieldAddr (k := 0) (show Oper.op _ = Op.fieldAddr 43 (Operand.tmp 6) 0 from rfl) (by rfl) (by kernel_rfl) (by rfl)) (by rfl) (by rfl) ?_
        refine Ls.ev (some 21) (Ev.load 1 (show Oper.op _ = Op.load 39 (Operand.tmp 20) from rfl) (by rfl) (by rfl) (by kernel_rfl) (by rfl)) (by rfl) (by rfl) ?_
        refine Ls.ev (some 22) (Ev.gtr (show Oper.op _ = Op.binOp BinOp.gtr 39 (Operand.tmp 21) (Operand.const (Value.int IntKind.i64 6)) 39 from rfl) (by rfl) (by rfl)) (by rfl) (by rfl) ?_
        refine Ls.ev (some 23) (Ev.pickF (show Oper.op _ = Op.pick (Operand.tmp 19) (Operand.const (Value.bool true)) (Operand.tmp 22) from rfl) (by rfl) (by rfl)) (by rfl) (by rfl) ?_
        refine Ls.nil ?_
        refine Ent.pick [0, 1, 2, 3, 4, 5, 6] (by rfl) ?_
        refine Ent.inv () ?_ ?_ ?_
        · exact trivial
        · (repeat (first | exact trivial | refine ⟨by rfl, ?_⟩ | refine ⟨by simp only [List.length_append, List.length_cons, List.length_nil]; rfl, ?_⟩ | refine ⟨by push_cast; rfl, ?_⟩ | refine ⟨by (show some (Value.bool _) = some (Value.bool _); congr 2; first | rfl | exact (decide_eq_true (by omega)).symm | exact (decide_eq_false (by omega)).symm | exact decide_eq_decide.2 (by omega)), ?_⟩))
        · rfl
      · first | have hT2 := of_decide_eq_true hT2 | have hT2 := of_not_decide_true hT2 | skip
        refine Ls.pass (some 20) (by rfl) (by rfl) ?_
        refine Ls.pass (some 21) (by rfl) (by rfl) ?_
        refine Ls.pass (some 22) (by rfl) (by rfl) ?_
        refine Ls.ev (some 23) (Ev.pickT (show Oper.op _ = Op.pick (Operand.tmp 19) (Operand.const (Value.bool true)) (Operand.tmp 22) from rfl) (by rfl) (by rfl)) (by rfl) (by rfl) ?_
        refine Ls.nil ?_
        refine Ent.pick [0, 1, 2, 3, 4, 5, 6] (by rfl) ?_
        refine Ent.inv () ?_ ?_ ?_
        · exact trivial
        · (repeat (first | exact trivial | refine ⟨by rfl, ?_⟩ | refine ⟨by simp only [List.length_append, List.length_cons, List.length_nil]; rfl, ?_⟩ | refine ⟨by push_cast; rfl, ?_⟩ | refine ⟨by (show some (Value.bool _) = some (Value.bool _); congr 2; first | rfl | exact (decide_eq_true (by omega)).symm | exact (decide_eq_false (by omega)).symm | exact decide_eq_decide.2 (by omega)), ?_⟩))
        · rfl
    · first | have hT1 := of_decide_eq_true hT1 | have hT1 := of_not_decide_true hT1 | skip
      refine Ls.pass (some 15) (by rfl) (by rfl) ?_
      refine Ls.pass (some 16) (by rfl) (by rfl) ?_
      refine Ls.pass (some 17) (by rfl) (by rfl) ?_
      refine Ls.ev (some 18) (Ev.pickT (show Oper.op _ = Op.pick (Operand.tmp 14) (Operand.const (Value.bool true)) (Operand.tmp 17) from rfl) (by rfl) (by rfl)) (by rfl) (by rfl) ?_
      refine Ls.ev (some 19) (Ev.move (show Oper.op _ = Op.move (Operand.tmp 18) from rfl) (by rfl)) (by rfl) (by rfl) ?_
      refine Ls.pass (some 20) (by rfl) (by rfl) ?_
      refine Ls.pass (some 21) (by rfl) (by rfl) ?_
      refine Ls.pass (some 22) (by rfl) (by rfl) ?_
      refine Ls.ev (some 23) (Ev.pickT (show Oper.op _ = Op.pick (Operand.tmp 19) (Operand.const (Value.bool true)) (Operand.tmp 22) from rfl) (by rfl) (by rfl)) (by rfl) (by rfl) ?_
      refine Ls.nil ?_
      refine Ent.pick [0, 1, 2, 3, 4, 5, 6] (by rfl) ?_
      refine Ent.inv () ?_ ?_ ?_
      · exact trivial
      · (repeat (first | exact trivial | refine ⟨by rfl, ?_⟩ | refine ⟨by simp only [List.length_append, List.length_cons, List.length_nil]; rfl, ?_⟩ | refine ⟨by push_cast; rfl, ?_⟩ | refine ⟨by (show some (Value.bool _) = some (Value.bool _); congr 2; first | rfl | exact (decide_eq_true (by omega)).symm | exact (decide_eq_false (by omega)).symm | exact decide_eq_decide.2 (by omega)), ?_⟩))
      · rfl
  skip
  rintro _ -
  refine Cd.cond _ (by rfl) (fun h1 => ?_) (fun h1 => ?_)
  · skip
    have h1 : isR r = false ∨ c.verb < 1 ∨ 6 < c.verb := by
      refine (of_decide_eq_true h1).imp (fun h => ?_) id
      unfold isR
      rw [← Bool.decide_and]
      exact decide_eq_false h
    rw [if_pos h1] at hA
    rw [hA]
    refine Cd.seq ?_
    refine Cd.region ?_
    refine Ls.does (some 24) (Does.read (show Oper.op _ = Op.call { callee := Callee.value (Operand.func 36), args := #[Operand.const (Value.int IntKind.i64 1)], argTypes := #[30] } from rfl) Try.func36 (by kernel_rfl) (by kernel_rfl) (refused_sl 1) (by rfl) (by rfl) trivial) (by rfl) (by rfl) ?_
    rintro _ -
    refine Ls.does none (Does.store 0 (show Oper.op _ = Op.store 45 (Operand.tmp 8) (Operand.tmp 24) from rfl) (by rfl) (by rfl) (by rfl) (by kernel_rfl) (by rfl) (by kernel_rfl) (by rfl)) (by rfl) (by rfl) ?_
    intro _ _
    refine Ls.nil ?_
    refine Ent.nil 3 1 (Ent.see 0 (by rfl) ?_)
    refine Cd.ret ?_
    refine Ent.ret ((B, refS 1)) (⟨hB, rfl, rfl⟩) (Res.cell 1 (by rfl) (by rfl) (by rfl) (n := 4) (by kernel_rfl) (by rfl) (by rfl)) ?_ [3, 4, 0] (by rfl) ?_
    · rfl
    · rfl
  · skip
    have h1 := of_decide_eq_false h1
    have hr : 0 ≤ r ∧ r < 16 := by
      rcases Decidable.em (0 ≤ r ∧ r < 16) with h | h
      · exact h
      · exact absurd (.inl h) h1
    have h1' : ¬ (isR r = false ∨ c.verb < 1 ∨ 6 < c.verb) := by
      rintro (h | h)
      · unfold isR at h
        rw [← Bool.decide_and, decide_eq_true hr] at h
        cases h
      · exact h1 (.inr h)
    rw [if_neg h1'] at hA
    obtain ⟨k, rfl⟩ : ∃ k : Nat, r = k := ⟨r.toNat, by omega⟩
    have hk : k < 16 := by omega
    have hkn : ((k : Int)).toNat = k := by omega
    have hep : B.p.ep k = B.eps.getD k 0 := by unfold BkP.ep; rw [hkn]; rfl
    have hrt : B.p.rt k = (B.rts.getD k noS).p := by unfold BkP.rt; rw [hkn]; exact BkS.p_rt k
    have hcut := cut_sl (B.rts.getD k noS) tick (BkS.cap_get hB k)
    have hrr := BkS.rt_range hB hk G.g
    have hel := BkS.ep_get hB hk G.g
    have hEk := hE k
    rw [hep, hrt, hkn] at hA
    revert hcut hrr hA hel hEk
    generalize hy : B.rts.getD k noS = y
    generalize hee : B.eps.getD k 0 = e
    intro hA hcut hrr hel hEk
    have hvl := BkS.vals_len (B := B) hB G.g
    refine Cd.skip ?_
    refine Cd.seq ?_
    refine Ent.map (fun w hs => hs.starf_get 3 k rfl) ?_
    show Ent _ _ _ ((B.rts.getD k noS).rd :: _) _
    rw [hy]
    refine Cd.region ?_
    refine Ls.ev (some 25) (Ev.move (show Oper.op _ = Op.move (Operand.tmp 0) from rfl) (by rfl)) (by rfl) (by rfl) ?_
    refine Ls.ev (some 26) (Ev.move (show Oper.op _ = Op.move (Operand.tmp 1) from rfl) (by rfl)) (by rfl) (by rfl) ?_
    refine Ls.ev (some 27) (Ev.nilCheck (show Oper.op _ = Op.nilCheck (Operand.tmp 25) from rfl) (by rfl)) (by rfl) (by rfl) ?_
    refine Ls.ev (some 28) (Ev.fieldAddr (k := 17) (show Oper.op _ = Op.fieldAddr 95 (Operand.tmp 27) 2 from rfl) (by rfl) (by kernel_rfl) (by rfl)) (by rfl) (by rfl) ?_
    refine Ls.ev (some 29) (Ev.indexArr (sz := 2) (show Oper.op _ = Op.indexAddr 93 (Operand.tmp 28) (Operand.tmp 26) from rfl) (by rfl) (by rfl) Try.underlying93 (by kernel_rfl) (by omega)) (by rfl) (by rfl) ?_
    refine Ls.ev (some 30) (Ev.loads 3 (show Oper.op _ = Op.load 41 (Operand.tmp 29) from rfl) (by rfl) (by rfl) (by kernel_rfl) hrr rfl) (by rfl) (by rfl) ?_
    refine Ls.ev (some 31) (Ev.move (show Oper.op _ = Op.move (Operand.tmp 3) from rfl) (by rfl)) (by rfl) (by rfl) ?_
    refine Ls.does (some 32) (Does.readN (show Oper.op _ = Op.call { callee := Callee.value (Operand.func 37), args := #[Operand.tmp 30, Operand.tmp 31], argTypes := #[41, 3] } from rfl) Try.func37 (by kernel_rfl) (by kernel_rfl) (hcut) (by rfl) (by rfl) ⟨ReadsIn.rd 0 (by rfl), trivial⟩ (fun _ => by rfl)) (by rfl) (by rfl) ?_
    intro z hz
    rw [← hz] at hA
    have hzl : z.l.length ≤ 24 := by have := cut_len y.p tick; rw [← hz] at this; exact this
    refine Ent.fact 0 (by rfl) (p := z.l.length ≤ z.c) (fun w hw => Own.le hw) (fun hzc => ?_)
    refine Ent.see 0 (by rfl) ?_
    refine Ls.does (some 9) (Does.alloc (cs := [.int .i64 0, .slice none 0 0]) (show Oper.op _ = Op.alloc 41 from rfl) (ZeroIs.mk (.agg #[.int .i64 0, .slice none 0 0]) (by kernel_rfl) (by rfl))) (by rfl) (by rfl) ?_
    intro g3 _
    refine Ls.does none (Does.store 0 (show Oper.op _ = Op.store 41 (Operand.tmp 9) (Operand.tmp 32) from rfl) (by rfl) (by rfl) (by rfl) (by kernel_rfl) (by rfl) (by kernel_rfl) (by rfl)) (by rfl) (by rfl) ?_
    intro _ _
    refine Ls.nil ?_
    refine Cd.seq ?_
    refine Cd.seq ?_
    refine Cd.region ?_
    refine Ls.ev (some 33) (Ev.move (show Oper.op _ = Op.move (Operand.tmp 0) from rfl) (by rfl)) (by rfl) (by rfl) ?_
    refine Ls.ev (some 34) (Ev.move (show Oper.op _ = Op.move (Operand.tmp 1) from rfl) (by rfl)) (by rfl) (by rfl) ?_
    refine Ls.ev (some 35) (Ev.nilCheck (show Oper.op _ = Op.nilCheck (Operand.tmp 33) from rfl) (by rfl)) (by rfl) (by rfl) ?_
    refine Ls.ev (some 36) (Ev.fieldAddr (k := 1) (show Oper.op _ = Op.fieldAddr 95 (Operand.tmp 35) 1 from rfl) (by rfl) (by kernel_rfl) (by rfl)) (by rfl) (by rfl) ?_
    refine Ls.ev (some 37) (Ev.indexArr (sz := 1) (show Oper.op _ = Op.indexAddr 92 (Operand.tmp 36) (Operand.tmp 34) from rfl) (by rfl) (by rfl) Try.underlying92 (by kernel_rfl) (by omega)) (by rfl) (by rfl) ?_
    refine Ls.ev (some 38) (Ev.load 5 (show Oper.op _ = Op.load 3 (Operand.tmp 37) from rfl) (by rfl) (by rfl) (by kernel_rfl) hel) (by rfl) (by rfl) ?_
    refine Ls.ev (some 10) (Ev.assign (show Oper.op _ = Op.assign (Operand.tmp 38) from rfl) (by rfl)) (by rfl) (by rfl) ?_
    refine Ls.nil ?_
    refine Cd.block ?_
    refine Cd.seq ?_
    refine Cd.region ?_
    refine Ls.ev (some 40) (Ev.fieldAddr (k := 0) (show Oper.op _ = Op.fieldAddr 43 (Operand.tmp 6) 0 from rfl) (by rfl) (by kernel_rfl) (by rfl)) (by rfl) (by rfl) ?_
    refine Ls.ev (some 41) (Ev.load 4 (show Oper.op _ = Op.load 39 (Operand.tmp 40) from rfl) (by rfl) (by rfl) (by kernel_rfl) (by rfl)) (by rfl) (by rfl) ?_
    refine Ls.ev (some 42) (Ev.eql (show Oper.op _ = Op.binOp BinOp.eql 39 (Operand.tmp 41) (Operand.const (Value.int IntKind.i64 1)) 39 from rfl) (by rfl) (by rfl)) (by rfl) (by rfl) ?_
    refine Ls.ev (some 39) (Ev.assign (show Oper.op _ = Op.assign (Operand.tmp 42) from rfl) (by rfl)) (by rfl) (by rfl) ?_
    refine Ls.nil ?_
    refine Cd.cond _ (by rfl) (fun v1 => ?_) (fun v1 => ?_)
    · skip
      rw [if_pos (of_decide_eq_true v1)] at hA
      rw [hA]
      have hes := BkS.ep_set hB hk G.g (e + 1)
      have hB2 := BkS.ok_ep hB (r := k) (e + 1)
      have hel2 := BkS.ep_get hB2 hk G.g
      have hee2 : ({ B with eps := B.eps.set k (e + 1) } : BkS).eps.getD k 0 = e + 1 := by
        dsimp only
        rw [List.getD_eq_getElem?_getD, List.getElem?_set_self (by rw [hB.eps]; exact hk)]
        rfl
      rw [hee2] at hel2
      refine Cd.seq ?_
      refine Cd.draw [10] (by kernel_rfl) ?_
      refine Rg.ev 0 (by rfl) (fun _ h => h) (Ev.move (show Oper.op _ = Op.move (Operand.tmp 0) from rfl) (by rfl)) (by rfl) (some 43) (by rfl) (by kernel_rfl) (by kernel_rfl) (by kernel_rfl) (by kernel_rfl) ?_
      refine Rg.ev 1 (by rfl) (fun _ h => h) (Ev.move (show Oper.op _ = Op.move (Operand.tmp 1) from rfl) (by rfl)) (by rfl) (some 44) (by rfl) (by kernel_rfl) (by kernel_rfl) (by kernel_rfl) (by kernel_rfl) ?_
      refine Rg.ev 2 (by rfl) (fun _ h => h) (Ev.nilCheck (show Oper.op _ = Op.nilCheck (Operand.tmp 43) from rfl) (by rfl)) (by rfl) (some 45) (by rfl) (by kernel_rfl) (by kernel_rfl) (by kernel_rfl) (by kernel_rfl) ?_
      refine Rg.ev 3 (by rfl) (fun _ h => h) (Ev.fieldAddr (k := 1) (show Oper.op _ = Op.fieldAddr 95 (Operand.tmp 45) 1 from rfl) (by rfl) (by kernel_rfl) (by rfl)) (by rfl) (some 46) (by rfl) (by kernel_rfl) (by kernel_rfl) (by kernel_rfl) (by kernel_rfl) ?_
      refine Rg.ev 4 (by rfl) (fun _ h => h) (Ev.indexArr (sz := 1) (show Oper.op _ = Op.indexAddr 92 (Operand.tmp 46) (Operand.tmp 44) from rfl) (by rfl) (by rfl) Try.underlying92 (by kernel_rfl) (by omega)) (by rfl) (some 47) (by rfl) (by kernel_rfl) (by kernel_rfl) (by kernel_rfl) (by kernel_rfl) ?_
      refine Rg.ev 5 (by rfl) (fun _ h => h) (Ev.load 5 (show Oper.op _ = Op.load 3 (Operand.tmp 47) from rfl) (by rfl) (by rfl) (by kernel_rfl) hel) (by rfl) (some 48) (by rfl) (by kernel_rfl) (by kernel_rfl) (by kernel_rfl) (by kernel_rfl) ?_
      refine Rg.ev 6 (by rfl) (fun _ h => h) (Ev.addI (show Oper.op _ = Op.binOp BinOp.add 3 (Operand.tmp 48) (Operand.const (Value.int IntKind.i64 1)) 3 from rfl) (by rfl) (by rfl) (by omega)) (by rfl) (some 49) (by rfl) (by kernel_rfl) (by kernel_rfl) (by kernel_rfl) (by kernel_rfl) ?_
      refine Rg.ev 7 (by rfl) (fun _ h => h) (Ev.nilCheck (show Oper.op _ = Op.nilCheck (Operand.tmp 43) from rfl) (by rfl)) (by rfl) (some 50) (by rfl) (by kernel_rfl) (by kernel_rfl) (by kernel_rfl) (by kernel_rfl) ?_
      refine Rg.ev 8 (by rfl) (fun _ h => h) (Ev.fieldAddr (k := 1) (show Oper.op _ = Op.fieldAddr 95 (Operand.tmp 50) 1 from rfl) (by rfl) (by kernel_rfl) (by rfl)) (by rfl) (some 51) (by rfl) (by kernel_rfl) (by kernel_rfl) (by kernel_rfl) (by kernel_rfl) ?_
      refine Rg.ev 9 (by rfl) (fun _ h => h) (Ev.indexArr (sz := 1) (show Oper.op _ = Op.indexAddr 92 (Operand.tmp 51) (Operand.tmp 44) from rfl) (by rfl) (by rfl) Try.underlying92 (by kernel_rfl) (by omega)) (by rfl) (some 52) (by rfl) (by kernel_rfl) (by kernel_rfl) (by kernel_rfl) (by kernel_rfl) ?_
      refine Rg.tail 10 [] (by rfl) (by kernel_rfl) (Does.store 5 (show Oper.op _ = Op.store 3 (Operand.tmp 52) (Operand.tmp 49) from rfl) (by rfl) (by rfl) (by rfl) (by kernel_rfl) (by rfl) (decide_eq_true (by rw [hvl]; show 0 + 1 + k * 1 + 1 ≤ 49; omega)) hes) (by rfl) none (by rfl) (by kernel_rfl) (by kernel_rfl) ?_
      rintro _ -
      refine Rg.done (by kernel_rfl) ?_ _
      refine Cd.seq ?_
      refine Cd.draw [8] (by kernel_rfl) ?_
      refine Rg.ev 0 (by rfl) (fun _ h => h) (Ev.move (show Oper.op _ = Op.move (Operand.tmp 0) from rfl) (by rfl)) (by rfl) (some 53) (by rfl) (by kernel_rfl) (by kernel_rfl) (by kernel_rfl) (by kernel_rfl) ?_
      refine Rg.ev 1 (by rfl) (fun _ h => h) (Ev.move (show Oper.op _ = Op.move (Operand.tmp 1) from rfl) (by rfl)) (by rfl) (some 54) (by rfl) (by kernel_rfl) (by kernel_rfl) (by kernel_rfl) (by kernel_rfl) ?_
      refine Rg.ev 2 (by rfl) (fun _ h => h) (Ev.nilCheck (show Oper.op _ = Op.nilCheck (Operand.tmp 53) from rfl) (by rfl)) (by rfl) (some 55) (by rfl) (by kernel_rfl) (by kernel_rfl) (by kernel_rfl) (by kernel_rfl) ?_
      refine Rg.ev 3 (by rfl) (fun _ h => h) (Ev.fieldAddr (k := 1) (show Oper.op _ = Op.fieldAddr 95 (Operand.tmp 55) 1 from rfl) (by rfl) (by kernel_rfl) (by rfl)) (by rfl) (some 56) (by rfl) (by kernel_rfl) (by kernel_rfl) (by kernel_rfl) (by kernel_rfl) ?_
      refine Rg.ev 4 (by rfl) (fun _ h => h) (Ev.indexArr (sz := 1) (show Oper.op _ = Op.indexAddr 92 (Operand.tmp 56) (Operand.tmp 54) from rfl) (by rfl) (by rfl) Try.underlying92 (by kernel_rfl) (by omega)) (by rfl) (some 57) (by rfl) (by kernel_rfl) (by kernel_rfl) (by kernel_rfl) (by kernel_rfl) ?_
      refine Rg.ev 5 (by rfl) (fun _ h => h) (Ev.load 5 (show Oper.op _ = Op.load 3 (Operand.tmp 57) from rfl) (by rfl) (by rfl) (by kernel_rfl) hel2) (by rfl) (some 58) (by rfl) (by kernel_rfl) (by kernel_rfl) (by kernel_rfl) (by kernel_rfl) ?_
      refine Rg.ev 6 (by rfl) (fun _ h => h) (Ev.loads 0 (show Oper.op _ = Op.load 41 (Operand.tmp 9) from rfl) (by rfl) (by rfl) (n := 2) (by kernel_rfl) (by rfl) (by rfl)) (by rfl) (some 59) (by rfl) (by kernel_rfl) (by kernel_rfl) (by kernel_rfl) (by kernel_rfl) ?_
      refine Rg.ev 7 (by rfl) (fun _ h => h) (Ev.buildP (pl := [(0, 1), (1, 1), (2, 2)]) (zs := [.int .i64 0, .int .i64 0, .int .i64 0, .slice none 0 0]) (show Oper.op _ = Op.build 45 #[(1, Operand.tmp 58), (2, Operand.tmp 59)] from rfl) (by rfl) (by kernel_rfl) (by rfl)) (by rfl) (some 60) (by rfl) (by kernel_rfl) (by kernel_rfl) (by kernel_rfl) (by kernel_rfl) ?_
      refine Rg.tail 8 [] (by rfl) (by kernel_rfl) (Does.store 3 (show Oper.op _ = Op.store 45 (Operand.tmp 8) (Operand.tmp 60) from rfl) (by rfl) (by rfl) (by rfl) (by kernel_rfl) (by rfl) (by kernel_rfl) (by rfl)) (by rfl) none (by rfl) (by kernel_rfl) (by kernel_rfl) ?_
      intro _ _
      refine Rg.done (by kernel_rfl) ?_ _
      refine Cd.ret ?_
      refine Ent.ret ((({ B with eps := B.eps.set k (e + 1) } : BkS), ⟨0, e + 1, z⟩)) (⟨hB2, rfl, rfl⟩) (Res.cell 3 (by rfl) (by rfl) (by rfl) (n := 4) (by kernel_rfl) (by rfl) (by rfl)) ?_ [5, 6, 1] (by rfl) ?_
      · rfl
      · rfl
    · skip
      rw [if_neg (of_decide_eq_false v1)] at hA
      refine Cd.seq ?_
      refine Cd.region ?_
      refine Ls.ev (some 62) (Ev.move (show Oper.op _ = Op.move (Operand.tmp 10) from rfl) (by rfl)) (by rfl) (by rfl) ?_
      refine Ls.ev (some 63) (Ev.eql (show Oper.op _ = Op.binOp BinOp.eql 3 (Operand.tmp 62) (Operand.const (Value.int IntKind.i64 0)) 3 from rfl) (by rfl) (by rfl)) (by rfl) (by rfl) ?_
      refine Ls.ev (some 61) (Ev.assign (show Oper.op _ = Op.assign (Operand.tmp 63) from rfl) (by rfl)) (by rfl) (by rfl) ?_
      refine Ls.nil ?_
      refine Cd.cond _ (by rfl) (fun e0 => ?_) (fun e0 => ?_)
      · skip
        rw [if_pos (of_decide_eq_true e0)] at hA
        rw [hA]
        refine Cd.seq ?_
        refine Cd.region ?_
        refine Ls.does (some 64) (Does.read (show Oper.op _ = Op.call { callee := Callee.value (Operand.func 36), args := #[Operand.const (Value.int IntKind.i64 4)], argTypes := #[30] } from rfl) Try.func36 (by kernel_rfl) (by kernel_rfl) (refused_sl 4) (by rfl) (by rfl) trivial) (by rfl) (by rfl) ?_
        rintro _ -
        refine Ls.does none (Does.store 3 (show Oper.op _ = Op.store 45 (Operand.tmp 8) (Operand.tmp 64) from rfl) (by rfl) (by rfl) (by rfl) (by kernel_rfl) (by rfl) (by kernel_rfl) (by rfl)) (by rfl) (by rfl) ?_
        intro _ _
        refine Ls.nil ?_
        refine Ent.nil 3 1 (Ent.see 0 (by rfl) ?_)
        refine Cd.ret ?_
        refine Ent.ret ((B, refS 4)) (⟨hB, rfl, rfl⟩) (Res.cell 4 (by rfl) (by rfl) (by rfl) (n := 4) (by kernel_rfl) (by rfl) (by rfl)) ?_ [6, 7, 0] (by rfl) ?_
        · rfl
        · rfl
      · skip
        rw [if_neg (of_decide_eq_false e0)] at hA
        refine Cd.seq ?_
        refine Cd.region ?_
        refine Ls.ev (some 66) (Ev.fieldAddr (k := 0) (show Oper.op _ = Op.fieldAddr 43 (Operand.tmp 6) 0 from rfl) (by rfl) (by kernel_rfl) (by rfl)) (by rfl) (by rfl) ?_
        refine Ls.ev (some 67) (Ev.load 4 (show Oper.op _ = Op.load 39 (Operand.tmp 66) from rfl) (by rfl) (by rfl) (by kernel_rfl) (by rfl)) (by rfl) (by rfl) ?_
        refine Ls.ev (some 68) (Ev.eql (show Oper.op _ = Op.binOp BinOp.eql 39 (Operand.tmp 67) (Operand.const (Value.int IntKind.i64 6)) 39 from rfl) (by rfl) (by rfl)) (by rfl) (by rfl) ?_
        refine Ls.ev (some 65) (Ev.assign (show Oper.op _ = Op.assign (Operand.tmp 68) from rfl) (by rfl)) (by rfl) (by rfl) ?_
        refine Ls.nil ?_
        refine Cd.cond _ (by rfl) (fun v6 => ?_) (fun v6 => ?_)
        · skip
          rw [if_pos (of_decide_eq_true v6)] at hA
          rw [hA]
          refine Cd.seq ?_
          refine Cd.region ?_
          refine Ls.ev (some 69) (Ev.move (show Oper.op _ = Op.move (Operand.tmp 10) from rfl) (by rfl)) (by rfl) (by rfl) ?_
          refine Ls.ev (some 70) (Ev.loads 0 (show Oper.op _ = Op.load 41 (Operand.tmp 9) from rfl) (by rfl) (by rfl) (n := 2) (by kernel_rfl) (by rfl) (by rfl)) (by rfl) (by rfl) ?_
          refine Ls.ev (some 71) (Ev.buildP (pl := [(0, 1), (1, 1), (2, 2)]) (zs := [.int .i64 0, .int .i64 0, .int .i64 0, .slice none 0 0]) (show Oper.op _ = Op.build 45 #[(1, Operand.tmp 69), (2, Operand.tmp 70)] from rfl) (by rfl) (by kernel_rfl) (by rfl)) (by rfl) (by rfl) ?_
          refine Ls.does none (Does.store 3 (show Oper.op _ = Op.store 45 (Operand.tmp 8) (Operand.tmp 71) from rfl) (by rfl) (by rfl) (by rfl) (by kernel_rfl) (by rfl) (by kernel_rfl) (by rfl)) (by rfl) (by rfl) ?_
          intro _ _
          refine Ls.nil ?_
          refine Cd.ret ?_
          refine Ent.ret ((B, ⟨0, e, z⟩)) (⟨hB, rfl, rfl⟩) (Res.cell 3 (by rfl) (by rfl) (by rfl) (n := 4) (by kernel_rfl) (by rfl) (by rfl)) ?_ [5, 6, 1] (by rfl) ?_
          · rfl
          · rfl
        · skip
          rw [if_neg (of_decide_eq_false v6)] at hA
          refine Cd.seq ?_
          refine Cd.region ?_
          refine Ls.ev (some 73) (Ev.move (show Oper.op _ = Op.move (Operand.tmp 10) from rfl) (by rfl)) (by rfl) (by rfl) ?_
          refine Ls.ev (some 74) (Ev.fieldAddr (k := 1) (show Oper.op _ = Op.fieldAddr 43 (Operand.tmp 6) 1 from rfl) (by rfl) (by kernel_rfl) (by rfl)) (by rfl) (by rfl) ?_
          refine Ls.ev (some 75) (Ev.load 4 (show Oper.op _ = Op.load 3 (Operand.tmp 74) from rfl) (by rfl) (by rfl) (by kernel_rfl) (by rfl)) (by rfl) (by rfl) ?_
          refine Ls.ev (some 76) (Ev.neq (show Oper.op _ = Op.binOp BinOp.neq 3 (Operand.tmp 73) (Operand.tmp 75) 3 from rfl) (by rfl) (by rfl)) (by rfl) (by rfl) ?_
          refine Ls.ev (some 72) (Ev.assign (show Oper.op _ = Op.assign (Operand.tmp 76) from rfl) (by rfl)) (by rfl) (by rfl) ?_
          refine Ls.nil ?_
          refine Cd.cond _ (by rfl) (fun ec => ?_) (fun ec => ?_)
          · skip
            rw [if_pos (of_decide_eq_true ec)] at hA
            rw [hA]
            refine Cd.seq ?_
            refine Cd.region ?_
            refine Ls.does (some 77) (Does.read (show Oper.op _ = Op.call { callee := Callee.value (Operand.func 36), args := #[Operand.const (Value.int IntKind.i64 190)], argTypes := #[30] } from rfl) Try.func36 (by kernel_rfl) (by kernel_rfl) (refused_sl 190) (by rfl) (by rfl) trivial) (by rfl) (by rfl) ?_
            rintro _ -
            refine Ls.does none (Does.store 3 (show Oper.op _ = Op.store 45 (Operand.tmp 8) (Operand.tmp 77) from rfl) (by rfl) (by rfl) (by rfl) (by kernel_rfl) (by rfl) (by kernel_rfl) (by rfl)) (by rfl) (by rfl) ?_
            intro _ _
            refine Ls.nil ?_
            refine Ent.nil 3 1 (Ent.see 0 (by rfl) ?_)
            refine Cd.ret ?_
            refine Ent.ret ((B, refS 190)) (⟨hB, rfl, rfl⟩) (Res.cell 4 (by rfl) (by rfl) (by rfl) (n := 4) (by kernel_rfl) (by rfl) (by rfl)) ?_ [6, 7, 0] (by rfl) ?_
            · rfl
            · rfl
          · skip
            rw [if_neg (of_decide_eq_false ec)] at hA
            refine Cd.seq ?_
            refine Cd.region ?_
            refine Ls.ev (some 79) (Ev.fieldAddr (k := 0) (show Oper.op _ = Op.fieldAddr 43 (Operand.tmp 6) 0 from rfl) (by rfl) (by kernel_rfl) (by rfl)) (by rfl) (by rfl) ?_
            refine Ls.ev (some 80) (Ev.load 4 (show Oper.op _ = Op.load 39 (Operand.tmp 79) from rfl) (by rfl) (by rfl) (by kernel_rfl) (by rfl)) (by rfl) (by rfl) ?_
            refine Ls.ev (some 81) (Ev.eql (show Oper.op _ = Op.binOp BinOp.eql 39 (Operand.tmp 80) (Operand.const (Value.int IntKind.i64 2)) 39 from rfl) (by rfl) (by rfl)) (by rfl) (by rfl) ?_
            refine Ls.ev (some 78) (Ev.assign (show Oper.op _ = Op.assign (Operand.tmp 81) from rfl) (by rfl)) (by rfl) (by rfl) ?_
            refine Ls.nil ?_
            refine Cd.cond _ (by rfl) (fun v2 => ?_) (fun v2 => ?_)
            · skip
              rw [if_pos (of_decide_eq_true v2)] at hA
              rw [hA]
              refine Cd.seq ?_
              refine Cd.region ?_
              refine Ls.ev (some 82) (Ev.move (show Oper.op _ = Op.move (Operand.tmp 10) from rfl) (by rfl)) (by rfl) (by rfl) ?_
              refine Ls.ev (some 83) (Ev.buildP (pl := [(0, 1), (1, 1), (2, 2)]) (zs := [.int .i64 0, .int .i64 0, .int .i64 0, .slice none 0 0]) (show Oper.op _ = Op.build 45 #[(1, Operand.tmp 82)] from rfl) (by rfl) (by kernel_rfl) (by rfl)) (by rfl) (by rfl) ?_
              refine Ls.does none (Does.store 3 (show Oper.op _ = Op.store 45 (Operand.tmp 8) (Operand.tmp 83) from rfl) (by rfl) (by rfl) (by rfl) (by kernel_rfl) (by rfl) (by kernel_rfl) (by rfl)) (by rfl) (by rfl) ?_
              intro _ _
              refine Ls.nil ?_
              refine Ent.nil 3 1 (Ent.see 0 (by rfl) ?_)
              refine Cd.ret ?_
              refine Ent.ret ((B, ⟨0, e, noS⟩)) (⟨hB, rfl, rfl⟩) (Res.cell 4 (by rfl) (by rfl) (by rfl) (n := 4) (by kernel_rfl) (by rfl) (by rfl)) ?_ [6, 7, 0] (by rfl) ?_
              · rfl
              · rfl
            · skip
              rw [if_neg (of_decide_eq_false v2)] at hA
              refine Cd.seq ?_
              refine Cd.region ?_
              refine Ls.ev (some 85) (Ev.fieldAddr (k := 0) (show Oper.op _ = Op.fieldAddr 43 (Operand.tmp 6) 0 from rfl) (by rfl) (by kernel_rfl) (by rfl)) (by rfl) (by rfl) ?_
              refine Ls.ev (some 86) (Ev.load 4 (show Oper.op _ = Op.load 39 (Operand.tmp 85) from rfl) (by rfl) (by rfl) (by kernel_rfl) (by rfl)) (by rfl) (by rfl) ?_
              refine Ls.ev (some 87) (Ev.eql (show Oper.op _ = Op.binOp BinOp.eql 39 (Operand.tmp 86) (Operand.const (Value.int IntKind.i64 3)) 39 from rfl) (by rfl) (by rfl)) (by rfl) (by rfl) ?_
              refine Ls.ev (some 84) (Ev.assign (show Oper.op _ = Op.assign (Operand.tmp 87) from rfl) (by rfl)) (by rfl) (by rfl) ?_
              refine Ls.nil ?_
              refine Cd.cond _ (by rfl) (fun v3 => ?_) (fun v3 => ?_)
              · skip
                rw [if_pos (of_decide_eq_true v3)] at hA
                rw [hA]
                refine Cd.seq ?_
                refine Cd.region ?_
                refine Ls.ev (some 88) (Ev.move (show Oper.op _ = Op.move (Operand.tmp 0) from rfl) (by rfl)) (by rfl) (by rfl) ?_
                refine Ls.ev (some 89) (Ev.move (show Oper.op _ = Op.move (Operand.tmp 1) from rfl) (by rfl)) (by rfl) (by rfl) ?_
                refine Ls.ev (some 90) (Ev.fieldAddr (k := 2) (show Oper.op _ = Op.fieldAddr 43 (Operand.tmp 6) 2 from rfl) (by rfl) (by kernel_rfl) (by rfl)) (by rfl) (by rfl) ?_
                refine Ls.ev (some 91) (Ev.loads 4 (show Oper.op _ = Op.load 41 (Operand.tmp 90) from rfl) (by rfl) (by rfl) (n := 2) (by kernel_rfl) (by rfl) (by rfl)) (by rfl) (by rfl) ?_
                refine Ls.ev (some 92) (Ev.loads 0 (show Oper.op _ = Op.load 41 (Operand.tmp 9) from rfl) (by rfl) (by rfl) (n := 2) (by kernel_rfl) (by rfl) (by rfl)) (by rfl) (by rfl) ?_
                refine Ls.ev (some 93) (Ev.move (show Oper.op _ = Op.move (Operand.tmp 3) from rfl) (by rfl)) (by rfl) (by rfl) ?_
                refine Ls.does (some 94) (Does.call [5, 6, 7, 8, 9, 3] (show Oper.op _ = Op.call { callee := Callee.value (Operand.func 38), args := #[Operand.tmp 88, Operand.tmp 89, Operand.tmp 91, Operand.tmp 92, Operand.tmp 93], argTypes := #[48, 3, 41, 41, 3] } from rfl) Try.func38 (by kernel_rfl) (by kernel_rfl) (resv_sl G m hm g B hB k hk c.rt z tick (by omega)) (by rfl) (by rfl) (by rfl)) (by rfl) (by rfl) ?_
                rintro ⟨B2, R⟩ hp
                refine Ls.does none (Does.store 3 (show Oper.op _ = Op.store 45 (Operand.tmp 8) (Operand.tmp 94) from rfl) (by rfl) (by rfl) (by rfl) (by kernel_rfl) (by rfl) (by kernel_rfl) (by rfl)) (by rfl) (by rfl) ?_
                intro _ _
                refine Ls.nil ?_
                refine Cd.ret ?_
                refine Ent.ret ((B2, R)) (hp) (Res.cell 3 (by rfl) (by rfl) (by rfl) (n := 4) (by kernel_rfl) (by rfl) (by rfl)) ?_ [0, 1, 2] (by rfl) ?_
                · rfl
                · rfl
              · skip
                rw [if_neg (of_decide_eq_false v3)] at hA
                refine Cd.seq ?_
                refine Cd.region ?_
                refine Ls.ev (some 96) (Ev.fieldAddr (k := 1) (show Oper.op _ = Op.fieldAddr 41 (Operand.tmp 9) 1 from rfl) (by rfl) (by kernel_rfl) (by rfl)) (by rfl) (by rfl) ?_
                refine Ls.ev (some 97) (Ev.load 0 (show Oper.op _ = Op.load 22 (Operand.tmp 96) from rfl) (by rfl) (by rfl) (by kernel_rfl) (by rfl)) (by rfl) (by rfl) ?_
                refine Ls.ev (some 98) (Ev.len (show Oper.op _ = Op.call { callee := Callee.builtin Builtin.len, args := #[Operand.tmp 97], argTypes := #[22] } from rfl) (by rfl) Try.underlying22) (by rfl) (by rfl) ?_
                refine Ls.ev (some 99) (Ev.eql (show Oper.op _ = Op.binOp BinOp.eql 3 (Operand.tmp 98) (Operand.const (Value.int IntKind.i64 0)) 3 from rfl) (by rfl) (by rfl)) (by rfl) (by rfl) ?_
                refine Ls.ev (some 95) (Ev.assign (show Oper.op _ = Op.assign (Operand.tmp 99) from rfl) (by rfl)) (by rfl) (by rfl) ?_
                refine Ls.nil ?_
                refine Cd.cond _ (by rfl) (fun n0 => ?_) (fun n0 => ?_)
                · skip
                  have n0 : z.p.cells.length = 0 := by have := of_decide_eq_true n0; show z.l.length = 0; omega
                  rw [if_pos n0] at hA
                  rw [hA]
                  refine Cd.seq ?_
                  refine Cd.region ?_
                  refine Ls.does (some 100) (Does.read (show Oper.op _ = Op.call { callee := Callee.value (Operand.func 36), args := #[Operand.const (Value.int IntKind.i64 4)], argTypes := #[30] } from rfl) Try.func36 (by kernel_rfl) (by kernel_rfl) (refused_sl 4) (by rfl) (by rfl) trivial) (by rfl) (by rfl) ?_
                  rintro _ -
                  refine Ls.does none (Does.store 3 (show Oper.op _ = Op.store 45 (Operand.tmp 8) (Operand.tmp 100) from rfl) (by rfl) (by rfl) (by rfl) (by kernel_rfl) (by rfl) (by kernel_rfl) (by rfl)) (by rfl) (by rfl) ?_
                  intro _ _
                  refine Ls.nil ?_
                  refine Ent.nil 3 1 (Ent.see 0 (by rfl) ?_)
                  refine Cd.ret ?_
                  refine Ent.ret ((B, refS 4)) (⟨hB, rfl, rfl⟩) (Res.cell 4 (by rfl) (by rfl) (by rfl) (n := 4) (by kernel_rfl) (by rfl) (by rfl)) ?_ [6, 7, 0] (by rfl) ?_
                  · rfl
                  · rfl
                · skip
                  have n0 : ¬ z.p.cells.length = 0 := by have := of_decide_eq_false n0; show ¬ z.l.length = 0; omega
                  rw [if_neg n0] at hA
                  refine Cd.seq ?_
                  refine Cd.region ?_
                  refine Ls.ev (some 102) (Ev.fieldAddr (k := 0) (show Oper.op _ = Op.fieldAddr 43 (Operand.tmp 6) 0 from rfl) (by rfl) (by kernel_rfl) (by rfl)) (by rfl) (by rfl) ?_
                  refine Ls.ev (some 103) (Ev.load 4 (show Oper.op _ = Op.load 39 (Operand.tmp 102) from rfl) (by rfl) (by rfl) (by kernel_rfl) (by rfl)) (by rfl) (by rfl) ?_
                  refine Ls.ev (some 104) (Ev.eql (show Oper.op _ = Op.binOp BinOp.eql 39 (Operand.tmp 103) (Operand.const (Value.int IntKind.i64 4)) 39 from rfl) (by rfl) (by rfl)) (by rfl) (by rfl) ?_
                  refine Ls.ev (some 101) (Ev.assign (show Oper.op _ = Op.assign (Operand.tmp 104) from rfl) (by rfl)) (by rfl) (by rfl) ?_
                  refine Ls.nil ?_
                  refine Cd.cond _ (by rfl) (fun v4 => ?_) (fun v4 => ?_)
                  · skip
                    rw [if_pos (of_decide_eq_true v4)] at hA
                    rw [hA]
                    refine Cd.seq ?_
                    refine Cd.region ?_
                    refine Ls.ev (some 105) (Ev.move (show Oper.op _ = Op.move (Operand.tmp 0) from rfl) (by rfl)) (by rfl) (by rfl) ?_
                    refine Ls.ev (some 106) (Ev.move (show Oper.op _ = Op.move (Operand.tmp 1) from rfl) (by rfl)) (by rfl) (by rfl) ?_
                    refine Ls.ev (some 107) (Ev.loads 0 (show Oper.op _ = Op.load 41 (Operand.tmp 9) from rfl) (by rfl) (by rfl) (n := 2) (by kernel_rfl) (by rfl) (by rfl)) (by rfl) (by rfl) ?_
                    refine Ls.ev (some 108) (Ev.fieldAddr (k := 2) (show Oper.op _ = Op.fieldAddr 43 (Operand.tmp 6) 2 from rfl) (by rfl) (by kernel_rfl) (by rfl)) (by rfl) (by rfl) ?_
                    refine Ls.ev (some 109) (Ev.fieldAddr (k := 1) (show Oper.op _ = Op.fieldAddr 41 (Operand.tmp 108) 1 from rfl) (by rfl) (by kernel_rfl) (by rfl)) (by rfl) (by rfl) ?_
                    refine Ls.ev (some 110) (Ev.load 4 (show Oper.op _ = Op.load 22 (Operand.tmp 109) from rfl) (by rfl) (by rfl) (by kernel_rfl) (by rfl)) (by rfl) (by rfl) ?_
                    refine Ls.does (some 111) (Does.readN (show Oper.op _ = Op.call { callee := Callee.value (Operand.func 40), args := #[Operand.tmp 107, Operand.tmp 110], argTypes := #[41, 22] } from rfl) Try.func40 (by kernel_rfl) (by kernel_rfl) (join_sl z c.rt.A c.rt.c c.rt.l (by omega)) (by rfl) (by rfl) ⟨ReadsIn.rd 1 (by rfl), ReadsIn.rd 9 (by rfl), trivial⟩ (fun _ => by rfl)) (by rfl) (by rfl) ?_
                    rintro q ⟨hq1, hq2⟩
                    refine Ent.fact 0 (by rfl) (p := q.l.length ≤ q.c) (fun w hw => Own.le hw) (fun hqc => ?_)
                    refine Ent.see 0 (by rfl) ?_
                    have hqp : q.p = ⟨z.p.start, z.p.cells ++ c.rt.l⟩ := by unfold RtS.p; rw [hq1, hq2]
                    refine Ls.ev (some 112) (Ev.move (show Oper.op _ = Op.move (Operand.tmp 3) from rfl) (by rfl)) (by rfl) (by rfl) ?_
                    refine Ls.does (some 113) (Does.call [6, 7, 8, 9, 0, 4] (show Oper.op _ = Op.call { callee := Callee.value (Operand.func 39), args := #[Operand.tmp 105, Operand.tmp 106, Operand.tmp 111, Operand.tmp 112], argTypes := #[48, 3, 41, 3] } from rfl) Try.func39 (by kernel_rfl) (by kernel_rfl) (take_sl G m hm g B hB k hk q tick (by rw [hq2, List.length_append] at *; omega)) (by rfl) (by rfl) (by rfl)) (by rfl) (by rfl) ?_
                    rintro ⟨B2, R⟩ hp
                    rw [hqp] at hp
                    refine Ls.does none (Does.store 3 (show Oper.op _ = Op.store 45 (Operand.tmp 8) (Operand.tmp 113) from rfl) (by rfl) (by rfl) (by rfl) (by kernel_rfl) (by rfl) (by kernel_rfl) (by rfl)) (by rfl) (by rfl) ?_
                    intro _ _
                    refine Ls.nil ?_
                    refine Cd.ret ?_
                    refine Ent.ret ((B2, R)) (hp) (Res.cell 3 (by rfl) (by rfl) (by rfl) (n := 4) (by kernel_rfl) (by rfl) (by rfl)) ?_ [0, 1, 2] (by rfl) ?_
                    · rfl
                    · rfl
                  · skip
                    rw [if_neg (of_decide_eq_false v4)] at hA
                    rw [hA]
                    have hrs := BkS.rt_set hB hk G.g noS
                    have hB2 := BkS.ok_rt hB (r := k) (x := noS) (Nat.le_refl _)
                    have hel2 := BkS.ep_get hB2 hk G.g
                    refine Cd.skip ?_
                    refine Cd.seq ?_
                    refine Cd.region ?_
                    refine Ls.ev (some 114) (Ev.move (show Oper.op _ = Op.move (Operand.tmp 0) from rfl) (by rfl)) (by rfl) (by rfl) ?_
                    refine Ls.ev (some 115) (Ev.move (show Oper.op _ = Op.move (Operand.tmp 1) from rfl) (by rfl)) (by rfl) (by rfl) ?_
                    refine Ls.ev (some 116) (Ev.buildP (pl := [(0, 1), (1, 1)]) (zs := [.int .i64 0, .slice none 0 0]) (show Oper.op _ = Op.build 41 #[] from rfl) (by rfl) (by kernel_rfl) (by rfl)) (by rfl) (by rfl) ?_
                    refine Ls.ev (some 117) (Ev.nilCheck (show Oper.op _ = Op.nilCheck (Operand.tmp 114) from rfl) (by rfl)) (by rfl) (by rfl) ?_
                    refine Ls.ev (some 118) (Ev.fieldAddr (k := 17) (show Oper.op _ = Op.fieldAddr 95 (Operand.tmp 117) 2 from rfl) (by rfl) (by kernel_rfl) (by rfl)) (by rfl) (by rfl) ?_
                    refine Ls.ev (some 119) (Ev.indexArr (sz := 2) (show Oper.op _ = Op.indexAddr 93 (Operand.tmp 118) (Operand.tmp 115) from rfl) (by rfl) (by rfl) Try.underlying93 (by kernel_rfl) (by omega)) (by rfl) (by rfl) ?_
                    refine Ls.does none (Does.store 5 (show Oper.op _ = Op.store 41 (Operand.tmp 119) (Operand.tmp 116) from rfl) (by rfl) (by rfl) (by rfl) (by kernel_rfl) (by rfl) (decide_eq_true (by rw [hvl]; show 0 + 17 + k * 2 + 2 ≤ 49; omega)) hrs) (by rfl) (by rfl) ?_
                    rintro _ -
                    refine Ls.nil ?_
                    refine Cd.seq ?_
                    refine Cd.region ?_
                    refine Ls.ev (some 120) (Ev.move (show Oper.op _ = Op.move (Operand.tmp 0) from rfl) (by rfl)) (by rfl) (by rfl) ?_
                    refine Ls.ev (some 121) (Ev.move (show Oper.op _ = Op.move (Operand.tmp 1) from rfl) (by rfl)) (by rfl) (by rfl) ?_
                    refine Ls.ev (some 122) (Ev.nilCheck (show Oper.op _ = Op.nilCheck (Operand.tmp 120) from rfl) (by rfl)) (by rfl) (by rfl) ?_
                    refine Ls.ev (some 123) (Ev.fieldAddr (k := 1) (show Oper.op _ = Op.fieldAddr 95 (Operand.tmp 122) 1 from rfl) (by rfl) (by kernel_rfl) (by rfl)) (by rfl) (by rfl) ?_
                    refine Ls.ev (some 124) (Ev.indexArr (sz := 1) (show Oper.op _ = Op.indexAddr 92 (Operand.tmp 123) (Operand.tmp 121) from rfl) (by rfl) (by rfl) Try.underlying92 (by kernel_rfl) (by omega)) (by rfl) (by rfl) ?_
                    refine Ls.ev (some 125) (Ev.load 5 (show Oper.op _ = Op.load 3 (Operand.tmp 124) from rfl) (by rfl) (by rfl) (by kernel_rfl) hel2) (by rfl) (by rfl) ?_
                    refine Ls.ev (some 126) (Ev.buildP (pl := [(0, 1), (1, 1), (2, 2)]) (zs := [.int .i64 0, .int .i64 0, .int .i64 0, .slice none 0 0]) (show Oper.op _ = Op.build 45 #[(1, Operand.tmp 125)] from rfl) (by rfl) (by kernel_rfl) (by rfl)) (by rfl) (by rfl) ?_
                    refine Ls.does none (Does.store 3 (show Oper.op _ = Op.store 45 (Operand.tmp 8) (Operand.tmp 126) from rfl) (by rfl) (by rfl) (by rfl) (by kernel_rfl) (by rfl) (by kernel_rfl) (by rfl)) (by rfl) (by rfl) ?_
                    intro _ _
                    refine Ls.nil ?_
                    refine Ent.nil 3 1 (Ent.see 0 (by rfl) (Ent.pick [0, 7, 0, 4, 6] (by rfl) ?_))
                    have hfam : ∀ i, ((({ B with rts := B.rts.set k noS } : BkS).rts.getD i noS).rd = (B.rts.getD i noS).rd) ∨ ((({ B with rts := B.rts.set k noS } : BkS).rts.getD i noS).rd = noS.rd) := by
                      intro i
                      dsimp only
                      rw [List.getD_eq_getElem?_getD, List.getD_eq_getElem?_getD, List.getElem?_set]
                      split
                      · right
                        rw [if_pos (by rw [hB.rts]; omega)]
                        rfl
                      · exact .inl rfl
                    refine Ent.map (fun w hs => Sat.starf_put (F := fun k : Nat => (B.rts.getD k noS).rd) (G := fun j : Nat => (({ B with rts := B.rts.set k noS } : BkS).rts.getD j noS).rd) (C := noS.rd) rfl hfam hs) ?_
                    have hp2 : ({ B with rts := B.rts.set k noS } : BkS).p = B.p.setRt k noR := by
                      unfold BkS.p BkP.setRt
                      dsimp only
                      rw [List.map_set, hkn]
                      rfl
                    refine Cd.ret ?_
                    refine Ent.ret ((({ B with rts := B.rts.set k noS } : BkS), ⟨0, B.eps.getD k 0, noS⟩)) (⟨hB2, hp2, by rw [hee]; rfl⟩) (Res.cell 2 (by rfl) (by rfl) (by rfl) (n := 4) (by kernel_rfl) (by rfl) (by rfl)) ?_ [3, 0, 1] (by rfl) ?_
                    · rfl
                    · rfl
end
def newS : BkS := ⟨List.replicate 16 0, List.replicate 16 noS⟩
theorem newS_ok : newS.Ok := ⟨rfl, rfl, fun x hx => by rw [List.eq_of_mem_replicate hx]; exact Nat.le_refl _⟩
theorem bnew_sl (gg : Nat) : Fn Try.prog 26 #[.pointer (some ⟨gg, 0, none⟩)] [] Nat (fun g => .pointer (some ⟨g, 0, none⟩)) (fun g => [blk g 95 (newS.vals gg)]) (fun _ => True) := by
  refine Fn.enter Try.func26 rfl Try.ntmps26 (by rfl) ?_
  intro w0
  refine Cd.seq ?_
  refine Cd.region ?_
  refine Ls.ev (some 2) (Ev.assign (show Oper.op _ = Op.assign (Operand.const (Value.pointer none)) from rfl) (by rfl)) (by rfl) (by rfl) ?_
  refine Ls.nil ?_
  refine Cd.seq ?_
  refine Cd.region ?_
  refine Ls.ev (some 3) (Ev.move (show Oper.op _ = Op.move (Operand.tmp 0) from rfl) (by rfl)) (by rfl) (by rfl) ?_
  refine Ls.ev (some 4) (Ev.buildP (pl := [(0, 1), (1, 16), (17, 32)]) (zs := [.pointer none, .int .i64 0, .int .i64 0, .int .i64 0, .int .i64 0, .int .i64 0, .int .i64 0, .int .i64 0, .int .i64 0, .int .i64 0, .int .i64 0, .int .i64 0, .int .i64 0, .int .i64 0, .int .i64 0, .int .i64 0, .int .i64 0, .int .i64 0, .slice none 0 0, .int .i64 0, .slice none 0 0, .int .i64 0, .slice none 0 0, .int .i64 0, .slice none 0 0, .int .i64 0, .slice none 0 0, .int .i64 0, .slice none 0 0, .int .i64 0, .slice none 0 0, .int .i64 0, .slice none 0 0, .int .i64 0, .slice none 0 0, .int .i64 0, .slice none 0 0, .int .i64 0, .slice none 0 0, .int .i64 0, .slice none 0 0, .int .i64 0, .slice none 0 0, .int .i64 0, .slice none 0 0, .int .i64 0, .slice none 0 0, .int .i64 0, .slice none 0 0]) (show Oper.op _ = Op.build 95 #[(0, Operand.tmp 3)] from rfl) (by rfl) (by kernel_rfl) (by rfl)) (by rfl) (by rfl) ?_
  refine Ls.does (some 5) (Does.box (show Oper.op _ = Op.box 95 (Operand.tmp 4) from rfl) (by rfl)) (by rfl) (by rfl) ?_
  intro g1 _
  refine Ls.ev (some 2) (Ev.assign (show Oper.op _ = Op.assign (Operand.tmp 5) from rfl) (by rfl)) (by rfl) (by rfl) ?_
  refine Ls.nil ?_
  refine Cd.ret ?_
  refine Ent.ret (g1) (trivial) (Res.tmp (by rfl) (by rfl)) ?_ [0] (by rfl) ?_
  · rfl
  · rfl
end Go.Proofs.Ytegjoabfoddadaa
/- the judge's maps: keys -/
namespace Go.Proofs.Ytegjoabfoddadaa
open Go.RowKit
/-- A call's key. -/
def ckey (p : Int × Int) : Value := .agg #[.int .i64 p.1, .int .i64 p.2]
theorem ckey_inj : ∀ x y, ckey x = ckey y → x = y := by
  rintro ⟨a, b⟩ ⟨c, d⟩ h
  unfold ckey at h
  simp at h
  rw [h.1, h.2]
theorem keyed_call : Maps.Keyed Try.prog 69 := Maps.Keyed.of_law (deep_law_laid (m := 9) (by kernel_rfl) (by decide) (of_decide_eq_true (by kernel_rfl)) (by kernel_rfl) (by kernel_rfl))
theorem keyLits_int {d : Nat} {n : Int} (h : (Lit.int .i64 n).wf = true) : Try.prog.keyLits (d + 1) 3 [.int .i64 n] = some [.int .i64 n] := by
  unfold Program.keyLits
  rw [Try.underlying3]
  simp [h]
theorem keyOf_call (p : Int × Int) (h1 : -9223372036854775808 ≤ p.1 ∧ p.1 ≤ 9223372036854775807) (h2 : -9223372036854775808 ≤ p.2 ∧ p.2 ≤ 9223372036854775807) : keyOf Try.prog 69 (ckey p) = some (.string (keyBytes [.int .i64 p.1, .int .i64 p.2])) := by
  obtain ⟨a, b⟩ := p
  have w1 := wf64 h1
  have w2 := wf64 h2
  dsimp only at w1 w2
  have hk : Try.prog.keyType 69 = true := by kernel_rfl
  have hf : (Value.agg #[.int .i64 a, .int .i64 b]).formed Try.prog 69 = true := by
    unfold Value.formed
    rw [Try.underlying69]
    rw [show Try.prog.cellsOf 69 = 2 by kernel_rfl]
    rfl
  have hsz : Try.prog.types.size = 161 + 2 := by kernel_rfl
  have hl : Try.prog.keyLits (161 + 2 + 1) 69 [.int .i64 a, .int .i64 b] = some [.int .i64 a, .int .i64 b] := by
    unfold Program.keyLits
    rw [Try.underlying69]
    dsimp only
    rw [if_pos (by rw [show Try.prog.cellsOf 69 = 2 by kernel_rfl]; exact ⟨rfl, by kernel_rfl⟩)]
    have hc : Try.prog.cellsOf 3 = 1 := by kernel_rfl
    simp [hc, keyLits_int w1, keyLits_int w2]
  unfold keyOf ckey
  rw [Try.underlying69]
  dsimp only
  rw [hk, hf, hsz, Bool.and_self, if_pos rfl]
  show (Try.prog.keyLits (161 + 2 + 1) 69 [.int .i64 a, .int .i64 b]).map _ = _
  rw [hl]
  rfl
end Go.Proofs.Ytegjoabfoddadaa
/-
  A map's entry, laid ahead of its store (m[k], n[j] = x, y): mapEntry, then entryStore.
-/
namespace Go.Proofs.Ytegjoabfoddadaa
open Go.RowKit Go.WideElems Go.ChangeShapes Go.WideShapes Go.MapKept Go.ChangeMaps
section
variable {ι : Type} {P : Program} {w : World} {k e t : TypeId} {b n : Nat} {z : Value} {Q : ι → Value} {f : ι → Option Value}
theorem upd_setBlock {w : World} {b : Nat} {es es' : Array MapEntry} {c c' : Nat} (hb : w.heap[b]? = some (.map es c)) : Upd (fun i => i = b) w (setBlock w b (.map es' c')) :=
  ⟨rfl, rfl, rfl, by simp [setBlock], fun i _ hi => heap_setBlock_other hb _ hi⟩
/-- What the entry of x is, between mapEntry and entryStore. -/
theorem MapO.entry [DecidableEq ι] (hQ : ∀ x y, Q x = Q y → x = y) (h : MapO w P k b n z Q f) (K : Maps.Keyed P k) (ht : P.underlying t = some (.map k e)) (hz : ∀ w, (zeroValue e).run P w = .ok z w) (hn : n < maxLen) {x : ι} {l : Lit} (hx : keyOf P k (Q x) = some l) :
    ∃ (v0 : Value) (st : Nat) (es1 : Array MapEntry) (c1 : Nat), (Instr.mapEntry t (.map (some b)) (Q x)).run P w = .ok (.tuple #[v0, goInt st]) (setBlock w b (.map es1 c1)) ∧ Upd (fun i => i = b) w (setBlock w b (.map es1 c1)) ∧ (setBlock w b (.map es1 c1)).heap[b]? = some (.map es1 c1) ∧
      ∀ (v : Value) (w2 : World), w2.heap[b]? = some (.map es1 c1) → ∃ w3, (Instr.entryStore t (.map (some b)) (goInt st) v).run P w2 = .ok () w3 ∧ MapO w3 P k b (n + 1) z Q (putI f x v) ∧ Upd (fun i => i = b) w2 w3 := by
  have hput := fun v => h.put_ hQ K ht hn hx v
  obtain ⟨D, ⟨es, c, hb, F, -, -⟩, -⟩ := h
  obtain ⟨born, fresh, -⟩ := F.stamped
  -- from the whole update to the two halves
  have fin : ∀ (st : Nat) (es1 : Array MapEntry) (c1 : Nat) (upd : Value → Array MapEntry), (∀ v, (Instr.mapUpdate t (.map (some b)) (Q x) v).run P w = .ok () (setBlock w b (.map (upd v) c1))) →
      (∀ v w2, w2.heap[b]? = some (.map es1 c1) → (Instr.entryStore t (.map (some b)) (goInt st) v).run P w2 = .ok () (setBlock w2 b (.map (upd v) c1))) →
      ∀ (v : Value) (w2 : World), w2.heap[b]? = some (.map es1 c1) → ∃ w3, (Instr.entryStore t (.map (some b)) (goInt st) v).run P w2 = .ok () w3 ∧ MapO w3 P k b (n + 1) z Q (putI f x v) ∧ Upd (fun i => i = b) w2 w3 := by
    intro st es1 c1 upd h1 h2 v w2 hw2
    obtain ⟨w', hr, hm, _⟩ := hput v
    rw [h1 v] at hr
    injection hr with _ hr
    subst hr
    exact ⟨_, h2 v w2 hw2, hm.block ((heap_setBlock_same hw2 _).trans (heap_setBlock_same hb _).symm), upd_setBlock hw2⟩
  rcases K.find w hx es.toList F.keys with ⟨hno, _⟩ | ⟨j, e0, hfd, hj, hk⟩
  · -- a new entry
    refine ⟨z, c, es.push ⟨Q x, z, c⟩, c + 1, ?_, upd_setBlock hb, heap_setBlock_same hb _, fin c _ _ (fun v => es.push ⟨Q x, v, c⟩) (fun v => ?_) (fun v w2 hw2 => ?_)⟩
    · simp [Instr.mapEntry, run_underlying ht, MapKept.run_getObj_map hb, K.check w false hx, hno, hz, MapKept.run_setObj_map _ hb, Result.andThen, setBlock]
    · simp [Instr.mapUpdate, run_underlying ht, MapKept.run_getObj_map hb, K.check w false hx, hno, MapKept.run_setObj_map _ hb, Result.andThen, setBlock]
    · have hfi : (es.push ⟨Q x, z, c⟩).findIdx? (fun u => ((u.born : Nat) : Int) == ((c : Nat) : Int)) = some es.size := by
        rw [findIdx_arr]
        refine findIdx_born (l := (es.push ⟨Q x, z, c⟩).toList) (j := es.size) (e0 := ⟨Q x, z, c⟩) ?_ (by simp)
        rw [Array.toList_push, List.map_append]
        refine List.nodup_append.2 ⟨fresh, by simp, fun a ha d hd had => ?_⟩
        obtain ⟨u, hu, rfl⟩ := List.mem_map.1 ha
        have h1 := born u hu
        simp at hd
        omega
      have hmd : (es.push ⟨Q x, z, c⟩).modify es.size (fun u => { u with val := v }) = es.push ⟨Q x, v, c⟩ := by
        refine Array.ext' ?_
        rw [Array.toList_modify, Array.toList_push, Array.toList_push, ← Array.length_toList, modify_last]
      simp [Instr.entryStore, MapKept.run_getObj_map hw2, asInt, asIntOf, goInt, hfi, hmd, MapKept.run_setObj_map _ hw2, Result.andThen, setBlock]
  · -- one that stands
    have hj2 : es[j]? = some e0 := by simpa using hj
    have hid : es.modify j (fun u => { u with key := Q x }) = es := by
      refine Array.ext' ?_
      rw [Array.toList_modify, modify_eq_set _ _ _ _ hj, show ({ e0 with key := Q x } : MapEntry) = e0 by rw [← hk]]
      exact set_self _ _ _ hj
    refine ⟨e0.val, e0.born, es, c, ?_, upd_setBlock hb, heap_setBlock_same hb _, fin e0.born _ _ (fun v => es.modify j (fun u => { u with key := Q x, val := v })) (fun v => ?_) (fun v w2 hw2 => ?_)⟩
    · simp [Instr.mapEntry, run_underlying ht, MapKept.run_getObj_map hb, K.check w false hx, hfd, hj2, hk, K.stays w hx, hid, MapKept.run_setObj_map _ hb, Result.andThen, setBlock]
    · simp [Instr.mapUpdate, run_underlying ht, MapKept.run_getObj_map hb, K.check w false hx, hfd, hj2, hk, K.stays w hx, MapKept.run_setObj_map _ hb, Result.andThen, setBlock]
    · have hfi : es.findIdx? (fun u => ((u.born : Nat) : Int) == ((e0.born : Nat) : Int)) = some j := by
        rw [findIdx_arr]
        exact findIdx_born fresh hj
      have hmd : es.modify j (fun u => { u with val := v }) = es.modify j (fun u => { u with key := Q x, val := v }) := by
        refine Array.ext' ?_
        rw [Array.toList_modify, Array.toList_modify, modify_eq_set _ _ _ _ hj, modify_eq_set _ _ _ _ hj, ← hk]
      simp [Instr.entryStore, MapKept.run_getObj_map hw2, asInt, asIntOf, goInt, hfi, hmd, MapKept.run_setObj_map _ hw2, Result.andThen, setBlock]
/-- A map with the entry of x laid, ahead of its store. -/
def mape [DecidableEq ι] (P : Program) (t k : TypeId) (b n : Nat) (z : Value) (Q : ι → Value) (f : ι → Option Value) (x : ι) (st : Nat) : Chunk where
  holds w := ∃ es c, w.heap[b]? = some (.map es c) ∧ ∃ m, m ≤ n ∧ ∀ (v : Value) (w2 : World), w2.heap[b]? = some (.map es c) → ∃ w3, (Instr.entryStore t (.map (some b)) (goInt st) v).run P w2 = .ok () w3 ∧ MapO w3 P k b m z Q (putI f x v) ∧ Upd (fun i => i = b) w2 w3
  foot i := i = b
  excl := true
  lt := fun _ i ⟨_, _, h, _⟩ e => by subst e; exact (Array.getElem?_eq_some_iff.1 h).1
  loc := fun _ _ _ he ⟨es, c, h, h2⟩ => ⟨es, c, (he b rfl).trans h, h2⟩
end
section
variable {ι : Type} [DecidableEq ι] {Q : ι → Value} {Γ : Ctx} {N : Frm} {P : Program} {E : Env} {H : List Chunk} {o : Oper} {x y u : Operand}
theorem Does.mapEntry (hQ : ∀ x y, Q x = Q y → x = y) {t k e b n : Nat} {z : Value} {q : ι} {f : ι → Option Value} {l : Lit} (i : Nat) (ho : o.op = .mapEntry t x y) (hx : E.ev x = some (.map (some b))) (hy : E.ev y = some (Q q)) (hi : H[i]? = some (mapo P k b n z Q f)) (K : Maps.Keyed P k) (ht : P.underlying t = some (.map k e)) (hz : ∀ w, (zeroValue e).run P w = .ok z w) (hn : n < 9223372036854775807) (hq : keyOf P k (Q q) = some l) :
    Does Γ N P E H o (Value × Nat) (fun s => .tuple #[s.1, .int .i64 s.2]) (fun s => H.set i (mape P t k b (n + 1) z Q f q s.2)) (fun _ => True) := .of fun ρ hρ w hs => by
  obtain ⟨m, hm, h⟩ := hs.mem hi
  obtain ⟨v0, st, es, c, hrun, hu, hb, hst⟩ := h.entry hQ K ht hz (show m < maxLen by unfold maxLen; omega) hq
  refine ⟨(v0, st), _, trivial, hs.turn hi rfl hu ⟨es, c, hb, m + 1, by omega, hst⟩ (fun k hk => .inl hk), .inl ?_⟩
  simp [execOp, ho, hρ x _ hx, hρ y _ hy, hrun, goInt]
theorem Does.entryStore {t k b n st : Nat} {z v : Value} {q : ι} {f : ι → Option Value} (i : Nat) (ho : o.op = .entryStore t x y u) (hx : E.ev x = some (.map (some b))) (hy : E.ev y = some (.int .i64 st)) (hu : E.ev u = some v) (hi : H[i]? = some (mape P t k b n z Q f q st)) :
    Does Γ N P E H o Unit (fun _ => undef) (fun _ => H.set i (mapo P k b n z Q (putI f q v))) (fun _ => True) := .of fun ρ hρ w hs => by
  obtain ⟨es, c, hb, m, hm, h⟩ := hs.mem hi
  obtain ⟨w3, hrun, hmo, hup⟩ := h v w hb
  refine ⟨(), w3, trivial, hs.turn hi rfl hup ⟨m, hm, hmo⟩ (fun k hk => .inl hk), .inr ⟨rfl, ?_⟩⟩
  have hy' : ∀ s : Nat, (Value.int .i64 s) = goInt s := fun _ => rfl
  simp [execOp, ho, hρ x _ hx, hρ y _ hy, hρ u _ hu, hy', hrun]
end
section
variable {Γ : Ctx} {N : Frm} {P : Program} {E : Env} {H : List Chunk} {κ : Cont} {ops : Array Oper} {o : Oper}
/-- The one operation that is ready makes memory; the same pieces stay. -/
theorem Rg.keep {Hs : List Chunk} {T : List Nat} {fuel : Nat} {listed : Array Bool} {ι : Type} {v : ι → Value} {H' : ι → List Chunk} {φ : ι → Prop} (i : Nat) (hi : ops[i]? = some o) (hr : Region.ready .any ops listed = [i]) (h : Does Γ N P E H o ι v H' φ) (hw : wantB ops E o = some true) (d : Option Tmp) (hd : (decide (o.dst = d) && dstB N d) = true)
    (hsub : ∀ j w, Sat Γ (H' j) w → Sat Γ Hs w) (k : ∀ j, φ j → Rg Γ N P (E.put d (v j)) (H' j) Hs T ops fuel (listed.setIfInBounds i true) κ) : Rg Γ N P E H Hs T ops (fuel + 1) listed κ := by
  simp only [Bool.and_eq_true, decide_eq_true_eq] at hd
  obtain ⟨rfl, hd⟩ := hd
  intro a w hrep hsat
  refine ⟨fun h => (by rw [hr] at h; cases h), fun j hj => ?_⟩
  rw [hr] at hj
  obtain rfl : j = i := by simpa using hj
  refine wpOp_step hi fun K hK => ?_
  rw [if_pos (wanted_of hrep hw)]
  exact h.run a w hrep hsat K _ fun x w' hx hs' => hK _ _ ⟨.inr (hsub x w' hs'), k x hx _ _ (hrep.put hd (v x)) hs'⟩
end
end Go.Proofs.Ytegjoabfoddadaa
/- the judge over pieces: what it has seen; has, same -/
namespace Go.Proofs.Ytegjoabfoddadaa
open Go.RowKit
/-- An event as it lies. -/
structure EvS where
  kind : Int
  robot : Int
  id : Int
  tick : Int
  call : CallS
  reply : RepS
  deriving Inhabited
def EvS.enc (x : EvS) : List Value := [.int .i64 x.kind, .int .i64 x.robot, .int .i64 x.id, .int .i64 x.tick, .int .i64 x.call.verb, .int .i64 x.call.ep, .int .i64 x.call.rt.s, .slice x.call.rt.A x.call.rt.l.length x.call.rt.c, .int .i64 x.reply.code, .int .i64 x.reply.ep, .int .i64 x.reply.rt.s, .slice x.reply.rt.A x.reply.rt.l.length x.reply.rt.c]
def EvS.p (x : EvS) : EvP := ⟨x.kind, x.robot, x.id, x.tick, x.call.p, x.reply.p⟩
def EvS.key (x : EvS) : Int × Int := (x.robot, x.id)
abbrev in64 (n : Int) : Prop := -9223372036854775808 ≤ n ∧ n ≤ 9223372036854775807
structure EvS.Ok (x : EvS) : Prop where
  robot : in64 x.robot
  id : in64 x.id
  call : x.call.rt.l.length ≤ 100 ∧ x.call.rt.l.length ≤ x.call.rt.c
  reply : x.reply.rt.l.length ≤ 100
/-- What a judge has seen, as it lies. -/
structure BeS where
  B : BkS
  ask : Int × Int → Option CallS
  dec : Int × Int → Option RepS
  last : Int → Option Int
  ans : Int × Int → Option Int
  tick : Int
  ticked : Bool
/-- Where it lies. -/
structure BeA where
  b : Nat
  g : Nat
  ma : Nat
  md : Nat
  ml : Nat
  mn : Nat
  deriving Inhabited
def noC : CallS := ⟨0, 0, noS⟩
def noRp : RepS := ⟨0, 0, noS⟩
def BeA.vals (D : BeA) (tick : Int) (ticked : Bool) : List Value := [.pointer (some ⟨D.g, 0, none⟩), .map (some D.ma), .map (some D.md), .map (some D.ml), .map (some D.mn), .int .i64 tick, .bool ticked]
def BeS.askF (S : BeS) (k : Int × Int) : Option Value := (S.ask k).map fun c => .agg c.enc.toArray
def BeS.decF (S : BeS) (k : Int × Int) : Option Value := (S.dec k).map fun c => .agg c.enc.toArray
def BeS.lastF (S : BeS) (r : Int) : Option Value := (S.last r).map (Value.int .i64)
def BeS.ansF (S : BeS) (k : Int × Int) : Option Value := (S.ans k).map (Value.int .i64)
abbrev zC : Value := .agg noC.enc.toArray
abbrev zP : Value := .agg noRp.enc.toArray
abbrev mapA (D : BeA) (n : Nat) (S : BeS) : Chunk := mapo Try.prog 69 D.ma n zC ckey S.askF
abbrev mapD (D : BeA) (n : Nat) (S : BeS) : Chunk := mapo Try.prog 69 D.md n zP ckey S.decF
abbrev mapL (D : BeA) (n : Nat) (S : BeS) : Chunk := mapo Try.prog 3 D.ml n (.int .i64 0) (Value.int .i64) S.lastF
abbrev mapN (D : BeA) (n : Nat) (S : BeS) : Chunk := mapo Try.prog 69 D.mn n (.int .i64 0) ckey S.ansF
def BeS.famA (S : BeS) : Chunk := starf fun k : Int × Int => ((S.ask k).getD noC).rt.rd
def BeS.famD (S : BeS) : Chunk := starf fun k : Int × Int => ((S.dec k).getD noRp).rt.rd
/-- A judge's pieces. -/
def beP (G : GrS) (_ : MapP) (D : BeA) (n : Nat) (S : BeS) : List Chunk := [blk D.b 75 (D.vals S.tick S.ticked), blk D.g 95 (S.B.vals G.g), mapA D n S, mapD D n S, mapL D n S, mapN D n S, S.B.fam, S.famA, S.famD]
def BeS.p (S : BeS) : JdS := ⟨S.B.p, fun k => (S.ask k).map CallS.p, fun k => (S.dec k).map RepS.p, fun r => (S.last r).getD 0, fun k => decide ((S.ans k).getD 0 ≠ 0), S.tick, S.ticked⟩
structure BeS.Ok (S : BeS) (n : Nat) : Prop where
  B : S.B.Ok
  ep : ∀ k, 0 ≤ S.B.eps.getD k 0 ∧ S.B.eps.getD k 0 ≤ n
  ask : ∀ k c, S.ask k = some c → c.rt.l.length ≤ 100 ∧ c.rt.l.length ≤ c.rt.c
  dec : ∀ k c, S.dec k = some c → c.rt.l.length ≤ 100
theorem BeS.ask_get (S : BeS) (k : Int × Int) : Value.tuple #[(S.askF k).getD zC, .bool (S.askF k).isSome] = .tuple #[.agg ((S.ask k).getD noC).enc.toArray, .bool (S.ask k).isSome] := by
  unfold BeS.askF
  cases S.ask k <;> rfl
theorem BeS.dec_get (S : BeS) (k : Int × Int) : Value.tuple #[(S.decF k).getD zP, .bool (S.decF k).isSome] = .tuple #[.agg ((S.dec k).getD noRp).enc.toArray, .bool (S.dec k).isSome] := by
  unfold BeS.decF
  cases S.dec k <;> rfl
theorem BeS.last_get (S : BeS) (r : Int) : (S.lastF r).getD (.int .i64 0) = .int .i64 ((S.last r).getD 0) := by
  unfold BeS.lastF
  cases S.last r <;> rfl
theorem BeS.ans_get (S : BeS) (k : Int × Int) : (S.ansF k).getD (.int .i64 0) = .int .i64 ((S.ans k).getD 0) := by
  unfold BeS.ansF
  cases S.ans k <;> rfl
theorem BeS.ask_one (S : BeS) (k : Int × Int) : (S.askF k).getD zC = .agg ((S.ask k).getD noC).enc.toArray := by
  unfold BeS.askF
  cases S.ask k <;> rfl
section
variable {Γ : Ctx} {N : Frm} {E : Env}
theorem Ent.mapMore {ι : Type} {Q : ι → Value} {P : Program} {H : List Chunk} {A : Asrt} (i : Nat) {k b n n' : Nat} {z : Value} {f : ι → Option Value} (hi : H[i]? = some (mapo P k b n z Q f)) (hn : n ≤ n') (h : Ent Γ N E (H.set i (mapo P k b n' z Q f)) A) : Ent Γ N E H A :=
  fun a w hr hs => h a w hr (hs.see hi rfl (fun _ ⟨q, hq, h⟩ => ⟨q, Nat.le_trans hq hn, h⟩) (fun _ h => h))
theorem Ent.beMore {G : GrS} {m : MapP} {D : BeA} {n : Nat} {S : BeS} {A : Asrt} (h : Ent Γ N E (beP G m D (n + 1) S) A) : Ent Γ N E (beP G m D n S) A :=
  Ent.mapMore 2 rfl (Nat.le_succ n) (Ent.mapMore 3 rfl (Nat.le_succ n) (Ent.mapMore 4 rfl (Nat.le_succ n) (Ent.mapMore 5 rfl (Nat.le_succ n) h)))
end
theorem BeS.Ok.more {S : BeS} {n : Nat} (h : S.Ok n) : S.Ok (n + 1) := ⟨h.B, fun k => by have := h.ep k; omega, h.ask, h.dec⟩
theorem has_sl (D : BeA) (S : BeS) (k : Int × Int) (h1 : in64 k.1) (h2 : in64 k.2) : Fn Try.prog 22 #[.pointer (some ⟨D.b, 0, none⟩), ckey k] [rblk D.b 75 (D.vals S.tick S.ticked), rmap Try.prog 69 D.ma zC ckey S.askF] Unit (fun _ => .bool (S.ask k).isSome) (fun _ => []) (fun _ => True) := by
  have hk := keyOf_call k h1 h2
  refine Fn.enter Try.func22 rfl Try.ntmps22 (by rfl) ?_
  intro w0
  skip
  refine Cd.seq ?_
  refine Cd.region ?_
  refine Ls.does (some 3) (Does.box (show Oper.op _ = Op.box 69 (Operand.tmp 1) from rfl) (by rfl)) (by rfl) (by rfl) ?_
  intro g1 _
  refine Ls.ev (some 4) (Ev.assign (show Oper.op _ = Op.assign (Operand.const (Value.bool false)) from rfl) (by rfl)) (by rfl) (by rfl) ?_
  refine Ls.nil ?_
  refine Cd.seq ?_
  refine Cd.draw [10] (by kernel_rfl) ?_
  refine Rg.ev 0 (by rfl) (fun _ h => h) (Ev.move (show Oper.op _ = Op.move (Operand.tmp 0) from rfl) (by rfl)) (by rfl) (some 8) (by rfl) (by kernel_rfl) (by kernel_rfl) (by kernel_rfl) (by kernel_rfl) ?_
  refine Rg.ev 1 (by rfl) (fun _ h => h) (Ev.nilCheck (show Oper.op _ = Op.nilCheck (Operand.tmp 8) from rfl) (by rfl)) (by rfl) (some 9) (by rfl) (by kernel_rfl) (by kernel_rfl) (by kernel_rfl) (by kernel_rfl) ?_
  refine Rg.ev 2 (by rfl) (fun _ h => h) (Ev.fieldAddr (k := 1) (show Oper.op _ = Op.fieldAddr 75 (Operand.tmp 9) 1 from rfl) (by rfl) (by kernel_rfl) (by rfl)) (by rfl) (some 10) (by rfl) (by kernel_rfl) (by kernel_rfl) (by kernel_rfl) (by kernel_rfl) ?_
  refine Rg.ev 3 (by rfl) (fun _ h => h) (Ev.loadB 1 (show Oper.op _ = Op.load 70 (Operand.tmp 10) from rfl) (by rfl) (by rfl) (by kernel_rfl) (by rfl)) (by rfl) (some 11) (by rfl) (by kernel_rfl) (by kernel_rfl) (by kernel_rfl) (by kernel_rfl) ?_
  refine Rg.ev 4 (by rfl) (fun _ h => h) (Ev.loads 0 (show Oper.op _ = Op.load 69 (Operand.tmp 3) from rfl) (by rfl) (by rfl) (n := 2) (by kernel_rfl) (by rfl) (by rfl)) (by rfl) (some 12) (by rfl) (by kernel_rfl) (by kernel_rfl) (by kernel_rfl) (by kernel_rfl) ?_
  refine Rg.ev 5 (by rfl) (fun _ h => h) (Ev.to (Ev.lookOkR 2 (show Oper.op _ = Op.lookup 70 (Operand.tmp 11) (Operand.tmp 12) true from rfl) (by rfl) (by rfl) (by rfl) keyed_call Try.underlying70 (zero_of (by kernel_rfl)) hk) (S.ask_get k)) (by rfl) (some 13) (by rfl) (by kernel_rfl) (by kernel_rfl) (by kernel_rfl) (by kernel_rfl) ?_
  refine Rg.ev 6 (by rfl) (fun _ h => h) (Ev.move (show Oper.op _ = Op.move (Operand.tmp 13) from rfl) (by rfl)) (by rfl) (some 7) (by rfl) (by kernel_rfl) (by kernel_rfl) (by kernel_rfl) (by kernel_rfl) ?_
  refine Rg.ev 7 (by rfl) (fun _ h => h) (Ev.extract (show Oper.op _ = Op.extract (Operand.tmp 7) 0 from rfl) (by rfl) (by rfl)) (by rfl) (some 14) (by rfl) (by kernel_rfl) (by kernel_rfl) (by kernel_rfl) (by kernel_rfl) ?_
  refine Rg.pv 8 (by rfl) (fun _ h => h) (fun _ => Ev.extract (show Oper.op _ = Op.extract (Operand.tmp 7) 1 from rfl) (by rfl) (by rfl)) (by rfl) (some 15) (by rfl) (by kernel_rfl) (by kernel_rfl) (by kernel_rfl) (by kernel_rfl) ?_
  refine Rg.does 9 (by rfl) (by kernel_rfl) (Does.alloc (cs := [.int .i64 0, .int .i64 0, .int .i64 0, .slice none 0 0]) (show Oper.op _ = Op.alloc 43 from rfl) (ZeroIs.mk (.agg #[.int .i64 0, .int .i64 0, .int .i64 0, .slice none 0 0]) (by kernel_rfl) (by rfl))) (by rfl) (some 5) (by rfl) (fun _ _ h => h.tail_) ?_
  intro g2 _
  refine Rg.tail 10 [] (by rfl) (by kernel_rfl) (Does.store 0 (show Oper.op _ = Op.store 43 (Operand.tmp 5) (Operand.tmp 14) from rfl) (by rfl) (by rfl) (by rfl) (by kernel_rfl) (by rfl) (by kernel_rfl) (by rfl)) (by rfl) none (by rfl) (by kernel_rfl) (by kernel_rfl) ?_
  intro _ _
  refine Rg.ev 11 (by rfl) (fun _ h => h) (Ev.assign (show Oper.op _ = Op.assign (Operand.tmp 15) from rfl) (by rfl)) (by rfl) (some 6) (by rfl) (by kernel_rfl) (by kernel_rfl) (by kernel_rfl) (by kernel_rfl) ?_
  refine Rg.done (by kernel_rfl) ?_ _
  refine Cd.seq ?_
  refine Cd.region ?_
  refine Ls.ev (some 16) (Ev.move (show Oper.op _ = Op.move (Operand.tmp 6) from rfl) (by rfl)) (by rfl) (by rfl) ?_
  refine Ls.ev (some 4) (Ev.assign (show Oper.op _ = Op.assign (Operand.tmp 16) from rfl) (by rfl)) (by rfl) (by rfl) ?_
  refine Ls.nil ?_
  refine Cd.ret ?_
  refine Ent.ret (()) (trivial) (Res.tmp (by rfl) (by rfl)) ?_ [] (by rfl) ?_
  · rfl
  · rfl
theorem same_sl (x y : RepS) (hx : x.rt.l.length ≤ 1048576) : Fn Try.prog 28 #[.agg x.enc.toArray, .agg y.enc.toArray] [x.rt.rd, y.rt.rd] Unit (fun _ => .bool (decide (x.p = y.p))) (fun _ => []) (fun _ => True) := by
  obtain ⟨c1, e1, s1, A, c, l⟩ := x
  obtain ⟨c2, e2, s2, D, d, m⟩ := y
  have hp : decide ((⟨c1, e1, ⟨s1, A, c, l⟩⟩ : RepS).p = (⟨c2, e2, ⟨s2, D, d, m⟩⟩ : RepS).p) = decide (c1 = c2 ∧ e1 = e2 ∧ s1 = s2 ∧ l = m) := by
    refine decide_eq_decide.2 ?_
    unfold RepS.p RtS.p
    simp
  rw [hp]
  dsimp only [RepS.enc, RtS.rd] at hx ⊢
  refine Fn.enter Try.func28 rfl Try.ntmps28 (by rfl) ?_
  intro w0
  refine Cd.seq ?_
  refine Cd.region ?_
  refine Ls.does (some 2) (Does.box (show Oper.op _ = Op.box 45 (Operand.tmp 0) from rfl) (by rfl)) (by rfl) (by rfl) ?_
  intro g1 _
  refine Ls.does (some 3) (Does.box (show Oper.op _ = Op.box 45 (Operand.tmp 1) from rfl) (by rfl)) (by rfl) (by rfl) ?_
  intro g2 _
  refine Ls.ev (some 4) (Ev.assign (show Oper.op _ = Op.assign (Operand.const (Value.bool false)) from rfl) (by rfl)) (by rfl) (by rfl) ?_
  refine Ls.nil ?_
  refine Cd.seq ?_
  refine Cd.region ?_
  refine Ls.ev (some 5) (Ev.fieldAddr (k := 0) (show Oper.op _ = Op.fieldAddr 45 (Operand.tmp 2) 0 from rfl) (by rfl) (by kernel_rfl) (by rfl)) (by rfl) (by rfl) ?_
  refine Ls.ev (some 6) (Ev.load 1 (show Oper.op _ = Op.load 30 (Operand.tmp 5) from rfl) (by rfl) (by rfl) (by kernel_rfl) (by rfl)) (by rfl) (by rfl) ?_
  refine Ls.ev (some 7) (Ev.fieldAddr (k := 0) (show Oper.op _ = Op.fieldAddr 45 (Operand.tmp 3) 0 from rfl) (by rfl) (by kernel_rfl) (by rfl)) (by rfl) (by rfl) ?_
  refine Ls.ev (some 8) (Ev.load 0 (show Oper.op _ = Op.load 30 (Operand.tmp 7) from rfl) (by rfl) (by rfl) (by kernel_rfl) (by rfl)) (by rfl) (by rfl) ?_
  refine Ls.ev (some 9) (Ev.eql (show Oper.op _ = Op.binOp BinOp.eql 30 (Operand.tmp 6) (Operand.tmp 8) 30 from rfl) (by rfl) (by rfl)) (by rfl) (by rfl) ?_
  refine Ls.ev (some 10) (Ev.move (show Oper.op _ = Op.move (Operand.tmp 9) from rfl) (by rfl)) (by rfl) (by rfl) ?_
  refine Ent.split 10 (by rfl) (fun h1 => ?_) (fun h1 => ?_)
  · skip
    refine Ls.pass (some 11) (by rfl) (by rfl) ?_
    refine Ls.pass (some 12) (by rfl) (by rfl) ?_
    refine Ls.pass (some 13) (by rfl) (by rfl) ?_
    refine Ls.pass (some 14) (by rfl) (by rfl) ?_
    refine Ls.pass (some 15) (by rfl) (by rfl) ?_
    refine Ls.ev (some 16) (Ev.pickF (show Oper.op _ = Op.pick (Operand.tmp 10) (Operand.tmp 15) (Operand.const (Value.bool false)) from rfl) (by rfl) (by rfl)) (by rfl) (by rfl) ?_
    refine Ls.ev (some 17) (Ev.move (show Oper.op _ = Op.move (Operand.tmp 16) from rfl) (by rfl)) (by rfl) (by rfl) ?_
    refine Ls.pass (some 18) (by rfl) (by rfl) ?_
    refine Ls.pass (some 19) (by rfl) (by rfl) ?_
    refine Ls.pass (some 20) (by rfl) (by rfl) ?_
    refine Ls.pass (some 21) (by rfl) (by rfl) ?_
    refine Ls.pass (some 22) (by rfl) (by rfl) ?_
    refine Ls.pass (some 23) (by rfl) (by rfl) ?_
    refine Ls.pass (some 24) (by rfl) (by rfl) ?_
    refine Ls.ev (some 25) (Ev.pickF (show Oper.op _ = Op.pick (Operand.tmp 17) (Operand.tmp 24) (Operand.const (Value.bool false)) from rfl) (by rfl) (by rfl)) (by rfl) (by rfl) ?_
    refine Ls.ev (some 26) (Ev.move (show Oper.op _ = Op.move (Operand.tmp 25) from rfl) (by rfl)) (by rfl) (by rfl) ?_
    refine Ls.pass (some 27) (by rfl) (by rfl) ?_
    refine Ls.pass (some 28) (by rfl) (by rfl) ?_
    refine Ls.pass (some 29) (by rfl) (by rfl) ?_
    refine Ls.pass (some 30) (by rfl) (by rfl) ?_
    refine Ls.pass (some 31) (by rfl) (by rfl) ?_
    refine Ls.pass (some 32) (by rfl) (by rfl) ?_
    refine Ls.pass (some 33) (by rfl) (by rfl) ?_
    refine Ls.ev (some 34) (Ev.pickF (show Oper.op _ = Op.pick (Operand.tmp 26) (Operand.tmp 33) (Operand.const (Value.bool false)) from rfl) (by rfl) (by rfl)) (by rfl) (by rfl) ?_
    refine Ls.ev (some 4) (Ev.assign (show Oper.op _ = Op.assign (Operand.tmp 34) from rfl) (by rfl)) (by rfl) (by rfl) ?_
    refine Ls.nil ?_
    refine Cd.ret ?_
    refine Ent.ret (()) (trivial) (Res.tmp (by rfl) (by rfl)) ?_ [] (by rfl) ?_
    · rw [decide_eq_false (fun e => (of_decide_eq_false h1) e.1)]
    · rfl
  skip
  refine Ls.ev (some 11) (Ev.fieldAddr (k := 1) (show Oper.op _ = Op.fieldAddr 45 (Operand.tmp 2) 1 from rfl) (by rfl) (by kernel_rfl) (by rfl)) (by rfl) (by rfl) ?_
  refine Ls.ev (some 12) (Ev.load 1 (show Oper.op _ = Op.load 3 (Operand.tmp 11) from rfl) (by rfl) (by rfl) (by kernel_rfl) (by rfl)) (by rfl) (by rfl) ?_
  refine Ls.ev (some 13) (Ev.fieldAddr (k := 1) (show Oper.op _ = Op.fieldAddr 45 (Operand.tmp 3) 1 from rfl) (by rfl) (by kernel_rfl) (by rfl)) (by rfl) (by rfl) ?_
  refine Ls.ev (some 14) (Ev.load 0 (show Oper.op _ = Op.load 3 (Operand.tmp 13) from rfl) (by rfl) (by rfl) (by kernel_rfl) (by rfl)) (by rfl) (by rfl) ?_
  refine Ls.ev (some 15) (Ev.eql (show Oper.op _ = Op.binOp BinOp.eql 3 (Operand.tmp 12) (Operand.tmp 14) 3 from rfl) (by rfl) (by rfl)) (by rfl) (by rfl) ?_
  refine Ls.ev (some 16) (Ev.pickT (show Oper.op _ = Op.pick (Operand.tmp 10) (Operand.tmp 15) (Operand.const (Value.bool false)) from rfl) (by rfl) (by rfl)) (by rfl) (by rfl) ?_
  refine Ls.ev (some 17) (Ev.move (show Oper.op _ = Op.move (Operand.tmp 16) from rfl) (by rfl)) (by rfl) (by rfl) ?_
  refine Ent.split 17 (by rfl) (fun h2 => ?_) (fun h2 => ?_)
  · skip
    refine Ls.pass (some 18) (by rfl) (by rfl) ?_
    refine Ls.pass (some 19) (by rfl) (by rfl) ?_
    refine Ls.pass (some 20) (by rfl) (by rfl) ?_
    refine Ls.pass (some 21) (by rfl) (by rfl) ?_
    refine Ls.pass (some 22) (by rfl) (by rfl) ?_
    refine Ls.pass (some 23) (by rfl) (by rfl) ?_
    refine Ls.pass (some 24) (by rfl) (by rfl) ?_
    refine Ls.ev (some 25) (Ev.pickF (show Oper.op _ = Op.pick (Operand.tmp 17) (Operand.tmp 24) (Operand.const (Value.bool false)) from rfl) (by rfl) (by rfl)) (by rfl) (by rfl) ?_
    refine Ls.ev (some 26) (Ev.move (show Oper.op _ = Op.move (Operand.tmp 25) from rfl) (by rfl)) (by rfl) (by rfl) ?_
    refine Ls.pass (some 27) (by rfl) (by rfl) ?_
    refine Ls.pass (some 28) (by rfl) (by rfl) ?_
    refine Ls.pass (some 29) (by rfl) (by rfl) ?_
    refine Ls.pass (some 30) (by rfl) (by rfl) ?_
    refine Ls.pass (some 31) (by rfl) (by rfl) ?_
    refine Ls.pass (some 32) (by rfl) (by rfl) ?_
    refine Ls.pass (some 33) (by rfl) (by rfl) ?_
    refine Ls.ev (some 34) (Ev.pickF (show Oper.op _ = Op.pick (Operand.tmp 26) (Operand.tmp 33) (Operand.const (Value.bool false)) from rfl) (by rfl) (by rfl)) (by rfl) (by rfl) ?_
    refine Ls.ev (some 4) (Ev.assign (show Oper.op _ = Op.assign (Operand.tmp 34) from rfl) (by rfl)) (by rfl) (by rfl) ?_
    refine Ls.nil ?_
    refine Cd.ret ?_
    refine Ent.ret (()) (trivial) (Res.tmp (by rfl) (by rfl)) ?_ [] (by rfl) ?_
    · rw [decide_eq_false (fun e => (of_decide_eq_false h2) e.2.1)]
    · rfl
  skip
  refine Ls.ev (some 18) (Ev.fieldAddr (k := 2) (show Oper.op _ = Op.fieldAddr 45 (Operand.tmp 2) 2 from rfl) (by rfl) (by kernel_rfl) (by rfl)) (by rfl) (by rfl) ?_
  refine Ls.ev (some 19) (Ev.fieldAddr (k := 0) (show Oper.op _ = Op.fieldAddr 41 (Operand.tmp 18) 0 from rfl) (by rfl) (by kernel_rfl) (by rfl)) (by rfl) (by rfl) ?_
  refine Ls.ev (some 20) (Ev.load 1 (show Oper.op _ = Op.load 3 (Operand.tmp 19) from rfl) (by rfl) (by rfl) (by kernel_rfl) (by rfl)) (by rfl) (by rfl) ?_
  refine Ls.ev (some 21) (Ev.fieldAddr (k := 2) (show Oper.op _ = Op.fieldAddr 45 (Operand.tmp 3) 2 from rfl) (by rfl) (by kernel_rfl) (by rfl)) (by rfl) (by rfl) ?_
  refine Ls.ev (some 22) (Ev.fieldAddr (k := 0) (show Oper.op _ = Op.fieldAddr 41 (Operand.tmp 21) 0 from rfl) (by rfl) (by kernel_rfl) (by rfl)) (by rfl) (by rfl) ?_
  refine Ls.ev (some 23) (Ev.load 0 (show Oper.op _ = Op.load 3 (Operand.tmp 22) from rfl) (by rfl) (by rfl) (by kernel_rfl) (by rfl)) (by rfl) (by rfl) ?_
  refine Ls.ev (some 24) (Ev.eql (show Oper.op _ = Op.binOp BinOp.eql 3 (Operand.tmp 20) (Operand.tmp 23) 3 from rfl) (by rfl) (by rfl)) (by rfl) (by rfl) ?_
  refine Ls.ev (some 25) (Ev.pickT (show Oper.op _ = Op.pick (Operand.tmp 17) (Operand.tmp 24) (Operand.const (Value.bool false)) from rfl) (by rfl) (by rfl)) (by rfl) (by rfl) ?_
  refine Ls.ev (some 26) (Ev.move (show Oper.op _ = Op.move (Operand.tmp 25) from rfl) (by rfl)) (by rfl) (by rfl) ?_
  refine Ent.split 26 (by rfl) (fun h3 => ?_) (fun h3 => ?_)
  · skip
    refine Ls.pass (some 27) (by rfl) (by rfl) ?_
    refine Ls.pass (some 28) (by rfl) (by rfl) ?_
    refine Ls.pass (some 29) (by rfl) (by rfl) ?_
    refine Ls.pass (some 30) (by rfl) (by rfl) ?_
    refine Ls.pass (some 31) (by rfl) (by rfl) ?_
    refine Ls.pass (some 32) (by rfl) (by rfl) ?_
    refine Ls.pass (some 33) (by rfl) (by rfl) ?_
    refine Ls.ev (some 34) (Ev.pickF (show Oper.op _ = Op.pick (Operand.tmp 26) (Operand.tmp 33) (Operand.const (Value.bool false)) from rfl) (by rfl) (by rfl)) (by rfl) (by rfl) ?_
    refine Ls.ev (some 4) (Ev.assign (show Oper.op _ = Op.assign (Operand.tmp 34) from rfl) (by rfl)) (by rfl) (by rfl) ?_
    refine Ls.nil ?_
    refine Cd.ret ?_
    refine Ent.ret (()) (trivial) (Res.tmp (by rfl) (by rfl)) ?_ [] (by rfl) ?_
    · rw [decide_eq_false (fun e => (of_decide_eq_false h3) e.2.2.1)]
    · rfl
  skip
  refine Ls.ev (some 27) (Ev.fieldAddr (k := 2) (show Oper.op _ = Op.fieldAddr 45 (Operand.tmp 2) 2 from rfl) (by rfl) (by kernel_rfl) (by rfl)) (by rfl) (by rfl) ?_
  refine Ls.ev (some 28) (Ev.fieldAddr (k := 1) (show Oper.op _ = Op.fieldAddr 41 (Operand.tmp 27) 1 from rfl) (by rfl) (by kernel_rfl) (by rfl)) (by rfl) (by rfl) ?_
  refine Ls.ev (some 29) (Ev.load 1 (show Oper.op _ = Op.load 22 (Operand.tmp 28) from rfl) (by rfl) (by rfl) (by kernel_rfl) (by rfl)) (by rfl) (by rfl) ?_
  refine Ls.ev (some 30) (Ev.fieldAddr (k := 2) (show Oper.op _ = Op.fieldAddr 45 (Operand.tmp 3) 2 from rfl) (by rfl) (by kernel_rfl) (by rfl)) (by rfl) (by rfl) ?_
  refine Ls.ev (some 31) (Ev.fieldAddr (k := 1) (show Oper.op _ = Op.fieldAddr 41 (Operand.tmp 30) 1 from rfl) (by rfl) (by kernel_rfl) (by rfl)) (by rfl) (by rfl) ?_
  refine Ls.ev (some 32) (Ev.load 0 (show Oper.op _ = Op.load 22 (Operand.tmp 31) from rfl) (by rfl) (by rfl) (by kernel_rfl) (by rfl)) (by rfl) (by rfl) ?_
  refine Ls.does (some 33) (Does.read (show Oper.op _ = Op.call { callee := Callee.value (Operand.func 44), args := #[Operand.tmp 29, Operand.tmp 32], argTypes := #[22, 22] } from rfl) Try.func44 (by kernel_rfl) (by kernel_rfl) (equalI_sl A D c d l m (by omega)) (by rfl) (by rfl) ⟨ReadsIn.rd 2 (by rfl), ReadsIn.rd 3 (by rfl), trivial⟩) (by rfl) (by rfl) ?_
  rintro _ -
  refine Ls.ev (some 34) (Ev.pickT (show Oper.op _ = Op.pick (Operand.tmp 26) (Operand.tmp 33) (Operand.const (Value.bool false)) from rfl) (by rfl) (by rfl)) (by rfl) (by rfl) ?_
  refine Ls.ev (some 4) (Ev.assign (show Oper.op _ = Op.assign (Operand.tmp 34) from rfl) (by rfl)) (by rfl) (by rfl) ?_
  refine Ls.nil ?_
  refine Cd.ret ?_
  refine Ent.ret (()) (trivial) (Res.tmp (by rfl) (by rfl)) ?_ [] (by rfl) ?_
  · rw [show decide (l = m) = decide (c1 = c2 ∧ e1 = e2 ∧ s1 = s2 ∧ l = m) from decide_eq_decide.2 ⟨fun h => ⟨of_decide_eq_true h1, of_decide_eq_true h2, of_decide_eq_true h3, h⟩, fun h => h.2.2.2⟩]
  · rfl
end Go.Proofs.Ytegjoabfoddadaa
/- the judge over pieces: decide -/
namespace Go.Proofs.Ytegjoabfoddadaa
open Go.RowKit
theorem take_eps {m : MapP} {b : BkP} {r : Int} {x : RtP} {t : Int} : (takeP m b r x t).1.eps = b.eps := by
  unfold takeP
  split
  · rfl
  · split <;> rfl
theorem apply_eps {m : MapP} {b : BkP} {r : Int} {c : CallP} {t : Int} {n : Nat} (h : ∀ k, 0 ≤ b.eps.getD k 0 ∧ b.eps.getD k 0 ≤ n) : ∀ k, 0 ≤ (applyP m b r c t).1.eps.getD k 0 ∧ (applyP m b r c t).1.eps.getD k 0 ≤ ((n + 1 : Nat) : Int) := by
  have h1 : ∀ k, 0 ≤ b.eps.getD k 0 ∧ b.eps.getD k 0 ≤ ((n + 1 : Nat) : Int) := fun k => by have := h k; omega
  have h2 : ∀ k, 0 ≤ (b.eps.set r.toNat (b.ep r + 1)).getD k 0 ∧ (b.eps.set r.toNat (b.ep r + 1)).getD k 0 ≤ ((n + 1 : Nat) : Int) := fun k => by
    have h3 := h r.toNat
    have h4 := h k
    have h5 : b.ep r = b.eps.getD r.toNat 0 := rfl
    rw [List.getD_eq_getElem?_getD, List.getElem?_set]
    split
    · split
      · simp only [Option.getD_some]; omega
      · simp only [Option.getD_none]; omega
    · rw [← List.getD_eq_getElem?_getD]; omega
  unfold applyP resvP
  repeat' split
  all_goals first | exact h1 | exact h2 | (rw [take_eps]; exact h1)
theorem take_len {m : MapP} {b : BkP} {r : Int} {x : RtP} {t : Int} : (takeP m b r x t).2.route.cells.length ≤ x.cells.length := by
  unfold takeP
  split
  · exact Nat.zero_le _
  · split
    · exact Nat.zero_le _
    · exact Nat.le_refl _
theorem apply_len {m : MapP} {b : BkP} {r : Int} {c : CallP} {t : Int} : (applyP m b r c t).2.route.cells.length ≤ 24 + c.route.cells.length := by
  have h0 := cut_len (b.rt r) t
  have h1 : ∀ x : RtP, x.cells.length ≤ 24 + c.route.cells.length → (takeP m b r x t).2.route.cells.length ≤ 24 + c.route.cells.length := fun x hx => Nat.le_trans take_len hx
  unfold applyP resvP
  repeat' split
  all_goals first | exact Nat.zero_le _ | exact Nat.le_trans h0 (Nat.le_add_right _ _) | (refine h1 _ ?_; first | exact Nat.le_add_left _ _ | (dsimp only; rw [List.length_append]; omega))
/-- A reply has been made. -/
def BeS.decide (S : BeS) (B : BkS) (k : Int × Int) (r : RepS) : BeS := { S with B := B, dec := fun j => if j = k then some r else S.dec j }
theorem BeS.dec_put (S : BeS) (B : BkS) {k : Int × Int} {r : RepS} : putI S.decF k (.agg r.enc.toArray) = (S.decide B k r).decF := by
  funext j
  unfold putI BeS.decF BeS.decide
  dsimp only
  split <;> rfl
theorem BeS.dec_map (S : BeS) (B : BkS) {D : BeA} {n : Nat} {k : Int × Int} {r : RepS} : mapo Try.prog 69 D.md n zP ckey (putI S.decF k (.agg r.enc.toArray)) = mapD D n (S.decide B k r) := congrArg (mapo _ _ _ _ _ _) (S.dec_put B)
theorem BeS.dec_fam (S : BeS) {B : BkS} {k : Int × Int} {r : RepS} {j : Int × Int} : (((S.decide B k r).dec j).getD noRp).rt.rd = ((S.dec j).getD noRp).rt.rd ∨ (((S.decide B k r).dec j).getD noRp).rt.rd = r.rt.rd := by
  unfold BeS.decide
  dsimp only
  split
  · exact .inr rfl
  · exact .inl rfl
theorem BeS.dec_ok (S : BeS) {B : BkS} {k : Int × Int} {r : RepS} (h : ∀ k c, S.dec k = some c → c.rt.l.length ≤ 100) (hr : r.rt.l.length ≤ 100) : ∀ j d, (S.decide B k r).dec j = some d → d.rt.l.length ≤ 100 := fun j d e => by
  unfold BeS.decide at e
  dsimp only at e
  split at e
  · injection e with e
    subst e
    exact hr
  · exact h j d e
theorem BeS.dec_p (S : BeS) (B : BkS) {k : Int × Int} {r : RepS} : (S.decide B k r).p = { S.p with bk := B.p, dec := upd S.p.dec k (some r.p) } := by
  unfold BeS.decide BeS.p
  dsimp only
  congr 1
  funext j
  unfold upd
  split <;> rfl
theorem none_of {α : Type} {o : Option α} (h : o.isSome = false) : o = none := by
  cases o with
  | none => rfl
  | some _ => cases h
theorem decP_dec {m : MapP} {S : BeS} {x : EvS} (h : (S.dec x.key).isSome = true) : decP m S.p x.p = (S.p, 3) := by
  obtain ⟨r, hr⟩ := Option.isSome_iff_exists.1 h
  have h1 : S.p.dec (x.p.robot, x.p.id) = some r.p := by
    show (S.dec x.key).map RepS.p = some r.p
    rw [hr]; rfl
  unfold decP
  rw [h1]
theorem decP_ask {m : MapP} {S : BeS} {x : EvS} (h : (S.ask x.key).isSome = false) : decP m S.p x.p = (S.p, 3) := by
  have h1 : S.p.asked (x.p.robot, x.p.id) = none := by
    show (S.ask x.key).map CallS.p = none
    rw [none_of h]; rfl
  unfold decP
  rw [h1]
  cases S.p.dec (x.p.robot, x.p.id) <;> rfl
theorem decP_go {m : MapP} {S : BeS} {x : EvS} {c : CallS} (h1 : (S.dec x.key).isSome = false) (h2 : S.ask x.key = some c) : decP m S.p x.p =
    if x.reply.code ≠ 0 ∨ (applyP m S.B.p x.robot c.p x.tick).2 ≠ x.reply.p then ({ S.p with bk := (applyP m S.B.p x.robot c.p x.tick).1 }, 4)
    else ({ S.p with bk := (applyP m S.B.p x.robot c.p x.tick).1, dec := upd S.p.dec (x.robot, x.id) (some x.reply.p) }, 0) := by
  have e1 : S.p.dec (x.p.robot, x.p.id) = none := by
    show (S.dec x.key).map RepS.p = none
    rw [none_of h1]; rfl
  have e2 : S.p.asked (x.p.robot, x.p.id) = some c.p := by
    show (S.ask x.key).map CallS.p = some c.p
    rw [h2]; rfl
  unfold decP
  rw [e1, e2]
  rfl
section
variable (G : GrS) (m : MapP) (hm : goodM m = true)
include hm
set_option maxHeartbeats 2000000 in
theorem decide_sl (D : BeA) (n : Nat) (hn : n ≤ 100000) (S : BeS) (hS : S.Ok n) (x : EvS) (hx : x.Ok) :
    Fn Try.prog 27 #[.pointer (some ⟨D.b, 0, none⟩), ckey x.key, .agg x.enc.toArray] (beP G m D n S ++ [G.b m, G.r m, x.reply.rt.rd]) (BeS × Int) (fun p => .int .i64 p.2) (fun p => beP G m D (n + 1) p.1) (fun p => p.1.Ok (n + 1) ∧ p.1.p = (decP m S.p x.p).1 ∧ p.2 = (decP m S.p x.p).2) := by
  have hk := keyOf_call x.key hx.robot hx.id
  have hhas := has_sl D S x.key hx.robot hx.id
  unfold beP
  refine Fn.enter Try.func27 rfl Try.ntmps27 (by rfl) ?_
  intro w0
  refine Cd.seq ?_
  refine Cd.region ?_
  refine Ls.does (some 4) (Does.box (show Oper.op _ = Op.box 69 (Operand.tmp 1) from rfl) (by rfl)) (by rfl) (by rfl) ?_
  intro g1 _
  refine Ls.does (some 5) (Does.box (show Oper.op _ = Op.box 47 (Operand.tmp 2) from rfl) (by rfl)) (by rfl) (by rfl) ?_
  intro g2 _
  refine Ls.ev (some 6) (Ev.assign (show Oper.op _ = Op.assign (Operand.const (Value.int IntKind.i64 0)) from rfl) (by rfl)) (by rfl) (by rfl) ?_
  refine Ls.nil ?_
  refine Cd.seq ?_
  refine Cd.seq ?_
  refine Cd.draw [10] (by kernel_rfl) ?_
  refine Rg.ev 0 (by rfl) (fun _ h => h) (Ev.move (show Oper.op _ = Op.move (Operand.tmp 0) from rfl) (by rfl)) (by rfl) (some 11) (by rfl) (by kernel_rfl) (by kernel_rfl) (by kernel_rfl) (by kernel_rfl) ?_
  refine Rg.ev 1 (by rfl) (fun _ h => h) (Ev.nilCheck (show Oper.op _ = Op.nilCheck (Operand.tmp 11) from rfl) (by rfl)) (by rfl) (some 12) (by rfl) (by kernel_rfl) (by kernel_rfl) (by kernel_rfl) (by kernel_rfl) ?_
  refine Rg.ev 2 (by rfl) (fun _ h => h) (Ev.fieldAddr (k := 2) (show Oper.op _ = Op.fieldAddr 75 (Operand.tmp 12) 2 from rfl) (by rfl) (by kernel_rfl) (by rfl)) (by rfl) (some 13) (by rfl) (by kernel_rfl) (by kernel_rfl) (by kernel_rfl) (by kernel_rfl) ?_
  refine Rg.ev 3 (by rfl) (fun _ h => h) (Ev.load 2 (show Oper.op _ = Op.load 71 (Operand.tmp 13) from rfl) (by rfl) (by rfl) (by kernel_rfl) (by rfl)) (by rfl) (some 14) (by rfl) (by kernel_rfl) (by kernel_rfl) (by kernel_rfl) (by kernel_rfl) ?_
  refine Rg.ev 4 (by rfl) (fun _ h => h) (Ev.loads 1 (show Oper.op _ = Op.load 69 (Operand.tmp 4) from rfl) (by rfl) (by rfl) (n := 2) (by kernel_rfl) (by rfl) (by rfl)) (by rfl) (some 15) (by rfl) (by kernel_rfl) (by kernel_rfl) (by kernel_rfl) (by kernel_rfl) ?_
  refine Rg.ev 5 (by rfl) (fun _ h => h) (Ev.to (Ev.lookOk 5 (show Oper.op _ = Op.lookup 71 (Operand.tmp 14) (Operand.tmp 15) true from rfl) (by rfl) (by rfl) (by rfl) keyed_call Try.underlying71 (zero_of (by kernel_rfl)) hk) (S.dec_get x.key)) (by rfl) (some 16) (by rfl) (by kernel_rfl) (by kernel_rfl) (by kernel_rfl) (by kernel_rfl) ?_
  refine Rg.ev 6 (by rfl) (fun _ h => h) (Ev.move (show Oper.op _ = Op.move (Operand.tmp 16) from rfl) (by rfl)) (by rfl) (some 10) (by rfl) (by kernel_rfl) (by kernel_rfl) (by kernel_rfl) (by kernel_rfl) ?_
  refine Rg.ev 7 (by rfl) (fun _ h => h) (Ev.extract (show Oper.op _ = Op.extract (Operand.tmp 10) 0 from rfl) (by rfl) (by rfl)) (by rfl) (some 17) (by rfl) (by kernel_rfl) (by kernel_rfl) (by kernel_rfl) (by kernel_rfl) ?_
  refine Rg.pv 8 (by rfl) (fun _ h => h) (fun _ => Ev.extract (show Oper.op _ = Op.extract (Operand.tmp 10) 1 from rfl) (by rfl) (by rfl)) (by rfl) (some 18) (by rfl) (by kernel_rfl) (by kernel_rfl) (by kernel_rfl) (by kernel_rfl) ?_
  refine Rg.does 9 (by rfl) (by kernel_rfl) (Does.alloc (cs := [.int .i64 0, .int .i64 0, .int .i64 0, .slice none 0 0]) (show Oper.op _ = Op.alloc 45 from rfl) (ZeroIs.mk (.agg #[.int .i64 0, .int .i64 0, .int .i64 0, .slice none 0 0]) (by kernel_rfl) (by rfl))) (by rfl) (some 7) (by rfl) (fun _ _ h => h.tail_) ?_
  intro g3 _
  refine Rg.tail 10 [] (by rfl) (by kernel_rfl) (Does.store 0 (show Oper.op _ = Op.store 45 (Operand.tmp 7) (Operand.tmp 17) from rfl) (by rfl) (by rfl) (by rfl) (by kernel_rfl) (by rfl) (by kernel_rfl) (by rfl)) (by rfl) none (by rfl) (by kernel_rfl) (by kernel_rfl) ?_
  intro _ _
  refine Rg.ev 11 (by rfl) (fun _ h => h) (Ev.assign (show Oper.op _ = Op.assign (Operand.tmp 18) from rfl) (by rfl)) (by rfl) (some 8) (by rfl) (by kernel_rfl) (by kernel_rfl) (by kernel_rfl) (by kernel_rfl) ?_
  refine Rg.done (by kernel_rfl) ?_ _
  refine Cd.seq ?_
  refine Cd.region ?_
  refine Ls.ev (some 19) (Ev.move (show Oper.op _ = Op.move (Operand.tmp 8) from rfl) (by rfl)) (by rfl) (by rfl) ?_
  refine Ls.ev (some 20) (Ev.move (show Oper.op _ = Op.move (Operand.tmp 19) from rfl) (by rfl)) (by rfl) (by rfl) ?_
  refine Ent.split 20 (by rfl) (fun h1 => ?_) (fun h1 => ?_)
  · skip
    refine Ls.ev (some 21) (Ev.move (show Oper.op _ = Op.move (Operand.tmp 0) from rfl) (by rfl)) (by rfl) (by rfl) ?_
    refine Ls.ev (some 22) (Ev.loads 2 (show Oper.op _ = Op.load 69 (Operand.tmp 4) from rfl) (by rfl) (by rfl) (n := 2) (by kernel_rfl) (by rfl) (by rfl)) (by rfl) (by rfl) ?_
    refine Ls.does (some 23) (Does.read (show Oper.op _ = Op.call { callee := Callee.value (Operand.func 22), args := #[Operand.tmp 21, Operand.tmp 22], argTypes := #[54, 69] } from rfl) Try.func22 (by kernel_rfl) (by kernel_rfl) (hhas) (by rfl) (by rfl) ⟨blkIn 3 (by rfl), mapoIn 5 (by rfl), trivial⟩) (by rfl) (by rfl) ?_
    rintro _ -
    refine Ls.ev (some 24) (Ev.not (show Oper.op _ = Op.unOp UnOp.not 4 (Operand.tmp 23) from rfl) (by rfl)) (by rfl) (by rfl) ?_
    refine Ls.ev (some 25) (Ev.pickF (show Oper.op _ = Op.pick (Operand.tmp 20) (Operand.const (Value.bool true)) (Operand.tmp 24) from rfl) (by rfl) (by rfl)) (by rfl) (by rfl) ?_
    refine Ls.nil ?_
    refine Cd.cond _ (by rfl) (fun h2 => ?_) (fun h2 => ?_)
    · skip
      have h2 : (S.ask x.key).isSome = false := by simpa using h2
      rw [decP_ask h2]
      refine Cd.seq ?_
      refine Cd.region ?_
      refine Ls.ev (some 6) (Ev.assign (show Oper.op _ = Op.assign (Operand.const (Value.int IntKind.i64 3)) from rfl) (by rfl)) (by rfl) (by rfl) ?_
      refine Ls.nil ?_
      refine Ent.pick [3, 4, 5, 6, 7, 8, 9, 10, 11] (by rfl) (Ent.beMore (G := G) (m := m) (D := D) (S := S) ?_)
      refine Cd.ret ?_
      refine Ent.ret ((S, 3)) (⟨hS.more, rfl, rfl⟩) (Res.tmp (by rfl) (by rfl)) ?_ [0, 1, 2, 3, 4, 5, 6, 7, 8] (by rfl) ?_
      · rfl
      · rfl
    · skip
      have h2 : (S.ask x.key).isSome = true := by simpa using h2
      obtain ⟨c, hc⟩ := Option.isSome_iff_exists.1 h2
      have hcl := hS.ask _ _ hc
      have hdg := decP_go (m := m) h1 hc
      have hap := apply_sl G m hm D.g S.B hS.B (fun k => by have := hS.ep k; omega) x.robot c x.tick hcl
      refine Cd.skip ?_
      refine Cd.seq ?_
      refine Cd.seq ?_
      refine Ent.map (fun w hs => hs.starf_get 10 x.key rfl) ?_
      show Ent _ _ _ (((S.ask x.key).getD noC).rt.rd :: _) _
      rw [hc, Option.getD_some]
      refine Ent.pick [2, 3, 4, 6, 5, 10, 13, 14, 0, 7, 8, 9, 11, 12, 15] (by rfl) ?_
      refine Ent.norm ([(0, .pointer (some ⟨D.b, 0, none⟩)), (4, .pointer (some ⟨g1, 0, none⟩)), (5, .pointer (some ⟨g2, 0, none⟩)), (6, .int .i64 0)]) (_) (by repeat (first | exact trivial | refine ⟨by rfl, ?_⟩ | refine ⟨by simp only [List.length_append, List.length_cons, List.length_nil]; rfl, ?_⟩ | refine ⟨by push_cast; rfl, ?_⟩)) (by rfl) ?_
      skip
      refine Cd.drawS [0, 1, 2, 3] [16] (by kernel_rfl) ?_
      refine Rg.ev 0 (by rfl) (fun _ h => h.pick [0, 1, 2, 3] rfl) (Ev.move (show Oper.op _ = Op.move (Operand.tmp 0) from rfl) (by rfl)) (by rfl) (some 26) (by rfl) (by kernel_rfl) (by kernel_rfl) (by kernel_rfl) (by kernel_rfl) ?_
      refine Rg.ev 1 (by rfl) (fun _ h => h.pick [0, 1, 2, 3] rfl) (Ev.nilCheck (show Oper.op _ = Op.nilCheck (Operand.tmp 26) from rfl) (by rfl)) (by rfl) (some 27) (by rfl) (by kernel_rfl) (by kernel_rfl) (by kernel_rfl) (by kernel_rfl) ?_
      refine Rg.ev 2 (by rfl) (fun _ h => h.pick [0, 1, 2, 3] rfl) (Ev.fieldAddr (k := 0) (show Oper.op _ = Op.fieldAddr 75 (Operand.tmp 27) 0 from rfl) (by rfl) (by kernel_rfl) (by rfl)) (by rfl) (some 28) (by rfl) (by kernel_rfl) (by kernel_rfl) (by kernel_rfl) (by kernel_rfl) ?_
      refine Rg.ev 3 (by rfl) (fun _ h => h.pick [0, 1, 2, 3] rfl) (Ev.load 2 (show Oper.op _ = Op.load 48 (Operand.tmp 28) from rfl) (by rfl) (by rfl) (by kernel_rfl) (by rfl)) (by rfl) (some 29) (by rfl) (by kernel_rfl) (by kernel_rfl) (by kernel_rfl) (by kernel_rfl) ?_
      refine Rg.ev 4 (by rfl) (fun _ h => h.pick [0, 1, 2, 3] rfl) (Ev.fieldAddr (k := 1) (show Oper.op _ = Op.fieldAddr 47 (Operand.tmp 5) 1 from rfl) (by rfl) (by kernel_rfl) (by rfl)) (by rfl) (some 30) (by rfl) (by kernel_rfl) (by kernel_rfl) (by kernel_rfl) (by kernel_rfl) ?_
      refine Rg.ev 5 (by rfl) (fun _ h => h.pick [0, 1, 2, 3] rfl) (Ev.load 0 (show Oper.op _ = Op.load 3 (Operand.tmp 30) from rfl) (by rfl) (by rfl) (by kernel_rfl) (by rfl)) (by rfl) (some 31) (by rfl) (by kernel_rfl) (by kernel_rfl) (by kernel_rfl) (by kernel_rfl) ?_
      refine Rg.ev 6 (by rfl) (fun _ h => h.pick [0, 1, 2, 3] rfl) (Ev.move (show Oper.op _ = Op.move (Operand.tmp 0) from rfl) (by rfl)) (by rfl) (some 32) (by rfl) (by kernel_rfl) (by kernel_rfl) (by kernel_rfl) (by kernel_rfl) ?_
      refine Rg.ev 7 (by rfl) (fun _ h => h.pick [0, 1, 2, 3] rfl) (Ev.nilCheck (show Oper.op _ = Op.nilCheck (Operand.tmp 32) from rfl) (by rfl)) (by rfl) (some 33) (by rfl) (by kernel_rfl) (by kernel_rfl) (by kernel_rfl) (by kernel_rfl) ?_
      refine Rg.ev 8 (by rfl) (fun _ h => h.pick [0, 1, 2, 3] rfl) (Ev.fieldAddr (k := 1) (show Oper.op _ = Op.fieldAddr 75 (Operand.tmp 33) 1 from rfl) (by rfl) (by kernel_rfl) (by rfl)) (by rfl) (some 34) (by rfl) (by kernel_rfl) (by kernel_rfl) (by kernel_rfl) (by kernel_rfl) ?_
      refine Rg.ev 9 (by rfl) (fun _ h => h.pick [0, 1, 2, 3] rfl) (Ev.load 2 (show Oper.op _ = Op.load 70 (Operand.tmp 34) from rfl) (by rfl) (by rfl) (by kernel_rfl) (by rfl)) (by rfl) (some 35) (by rfl) (by kernel_rfl) (by kernel_rfl) (by kernel_rfl) (by kernel_rfl) ?_
      refine Rg.ev 10 (by rfl) (fun _ h => h.pick [0, 1, 2, 3] rfl) (Ev.loads 1 (show Oper.op _ = Op.load 69 (Operand.tmp 4) from rfl) (by rfl) (by rfl) (n := 2) (by kernel_rfl) (by rfl) (by rfl)) (by rfl) (some 36) (by rfl) (by kernel_rfl) (by kernel_rfl) (by kernel_rfl) (by kernel_rfl) ?_
      refine Rg.ev 11 (by rfl) (fun _ h => h.pick [0, 1, 2, 3] rfl) (Ev.to (Ev.lookO 3 (show Oper.op _ = Op.lookup 70 (Operand.tmp 35) (Operand.tmp 36) false from rfl) (by rfl) (by rfl) (by rfl) keyed_call Try.underlying70 (zero_of (by kernel_rfl)) hk) ((S.ask_one x.key).trans (by rw [hc]))) (by rfl) (some 37) (by rfl) (by kernel_rfl) (by kernel_rfl) (by kernel_rfl) (by kernel_rfl) ?_
      refine Rg.ev 12 (by rfl) (fun _ h => h.pick [0, 1, 2, 3] rfl) (Ev.fieldAddr (k := 3) (show Oper.op _ = Op.fieldAddr 47 (Operand.tmp 5) 3 from rfl) (by rfl) (by kernel_rfl) (by rfl)) (by rfl) (some 38) (by rfl) (by kernel_rfl) (by kernel_rfl) (by kernel_rfl) (by kernel_rfl) ?_
      refine Rg.ev 13 (by rfl) (fun _ h => h.pick [0, 1, 2, 3] rfl) (Ev.load 0 (show Oper.op _ = Op.load 3 (Operand.tmp 38) from rfl) (by rfl) (by rfl) (by kernel_rfl) (by rfl)) (by rfl) (some 39) (by rfl) (by kernel_rfl) (by kernel_rfl) (by kernel_rfl) (by kernel_rfl) ?_
      skip
      refine Rg.float1 15 (ι := Nat) (some 9) (fun g => .pointer (some ⟨g, 0, none⟩)) (fun g => blk g 45 (refS 0).enc) ?_
      skip
      skip
      refine RgF.does 14 (by rfl) (by rfl) (.inr (by kernel_rfl)) (by kernel_rfl) (Does.alloc (cs := (refS 0).enc) (show Oper.op _ = Op.alloc 45 from rfl) (ZeroIs.mk (.agg (refS 0).enc.toArray) (by kernel_rfl) (by rfl))) (by rfl) (some 9) (by rfl) (fun _ => by repeat (first | exact trivial | refine ⟨by rfl, ?_⟩ | refine ⟨by simp only [List.length_append, List.length_cons, List.length_nil]; rfl, ?_⟩ | refine ⟨by push_cast; rfl, ?_⟩)) (by exact fun _ _ h => h.last) (by exact fun _ _ h => h.pick [0, 1, 2, 3] (by rfl)) (Does.call [4, 5, 6, 7, 8, 0, 1, 2, 3, 6, 7, 9, 10, 11, 12, 13, 14] (show Oper.op _ = Op.call { callee := Callee.value (Operand.func 23), args := #[Operand.tmp 29, Operand.tmp 31, Operand.tmp 37, Operand.tmp 39], argTypes := #[48, 3, 43, 3] } from rfl) Try.func23 (by kernel_rfl) (by kernel_rfl) (hap) (by rfl) (by rfl) (by rfl)) (by rfl) (some 40) (by rfl) (by exact fun _ _ h => h.pick [3, 4, 5, 6] (by rfl)) (fun _ => Does.call [4, 5, 6, 7, 8, 0, 1, 2, 3, 6, 7, 9, 10, 11, 12, 13, 14, 15] (show Oper.op _ = Op.call { callee := Callee.value (Operand.func 23), args := #[Operand.tmp 29, Operand.tmp 31, Operand.tmp 37, Operand.tmp 39], argTypes := #[48, 3, 43, 3] } from rfl) Try.func23 (by kernel_rfl) (by kernel_rfl) (hap) (by rfl) (by rfl) (by rfl)) (fun _ => by rfl) (by exact fun _ _ _ h => h.pick [3, 4, 5, 6] (by rfl)) ?_
      rintro ⟨B', rp⟩ ⟨hB', hB1, hB2⟩
      dsimp only at hB' hB1 hB2
      refine RgF.land (by rfl) (by kernel_rfl) (Does.alloc (cs := (refS 0).enc) (show Oper.op _ = Op.alloc 45 from rfl) (ZeroIs.mk (.agg (refS 0).enc.toArray) (by kernel_rfl) (by rfl))) (by rfl) (some 9) (by rfl) (fun _ => by repeat (first | exact trivial | refine ⟨by rfl, ?_⟩ | refine ⟨by simp only [List.length_append, List.length_cons, List.length_nil]; rfl, ?_⟩ | refine ⟨by push_cast; rfl, ?_⟩)) (by exact fun _ _ h => h.last) (by exact fun _ _ h => h.pick [3, 4, 5, 6] (by rfl)) ?_
      intro g4
      refine Rg.one 16 (by kernel_rfl) ?_; refine RgO.tail 16 (by rfl) (Does.store 15 (show Oper.op _ = Op.store 45 (Operand.tmp 9) (Operand.tmp 40) from rfl) (by rfl) (by rfl) (by rfl) (by kernel_rfl) (by rfl) (by kernel_rfl) (by rfl)) (by rfl) none (by rfl) (by kernel_rfl) (by kernel_rfl) ?_
      intro _ _
      refine Rg.done (by kernel_rfl) ?_ _
      refine Cd.seq ?_
      refine Ent.pick [15, 3, 4, 5, 0, 6, 9, 10, 11, 1, 12, 13, 7, 8, 14, 2] (by rfl) ?_
      dsimp only
      refine Ent.norm ([(0, .pointer (some ⟨D.b, 0, none⟩)), (4, .pointer (some ⟨g1, 0, none⟩)), (5, .pointer (some ⟨g2, 0, none⟩)), (6, .int .i64 0), (9, .pointer (some ⟨g4, 0, none⟩))]) ([blk g4 45 rp.enc, blk g2 47 x.enc, blk g1 69 [.int .i64 x.robot, .int .i64 x.id], blk D.b 75 (D.vals S.tick S.ticked), blk D.g 95 (B'.vals G.g), mapA D n S, mapD D n S, mapL D n S, mapN D n S, B'.fam, S.famA, S.famD, G.b m, G.r m, x.reply.rt.rd, rp.rt.rd]) (by repeat (first | exact trivial | refine ⟨by rfl, ?_⟩ | refine ⟨by simp only [List.length_append, List.length_cons, List.length_nil]; rfl, ?_⟩ | refine ⟨by push_cast; rfl, ?_⟩)) (by rfl) ?_
      have hrl : rp.rt.l.length ≤ 124 := by
        have h6 := apply_len (m := m) (b := S.B.p) (r := x.robot) (c := c.p) (t := x.tick)
        rw [← hB2] at h6
        have h7 : rp.p.route.cells.length = rp.rt.l.length := rfl
        have h8 : c.p.route.cells.length = c.rt.l.length := rfl
        omega
      have hq := same_sl rp x.reply (by omega)
      have hep : ∀ k, 0 ≤ B'.eps.getD k 0 ∧ B'.eps.getD k 0 ≤ ((n + 1 : Nat) : Int) := by
        have h6 := apply_eps (m := m) (b := S.B.p) (r := x.robot) (c := c.p) (t := x.tick) hS.ep
        rw [← hB1] at h6
        exact h6
      rw [← hB1, ← hB2] at hdg
      rw [hdg]
      clear hdg
      refine Ent.mapMore 5 rfl (Nat.le_succ n) ?_
      refine Ent.mapMore 7 rfl (Nat.le_succ n) ?_
      refine Ent.mapMore 8 rfl (Nat.le_succ n) ?_
      dsimp only [List.set]
      refine Cd.cut (ι := Unit) (fun _ => [(0, .pointer (some ⟨D.b, 0, none⟩)), (4, .pointer (some ⟨g1, 0, none⟩)), (5, .pointer (some ⟨g2, 0, none⟩)), (6, .int .i64 0), (51, .bool (decide (x.reply.code ≠ 0 ∨ rp.p ≠ x.reply.p)))]) (fun _ => [blk g4 45 rp.enc, blk g2 47 x.enc, blk g1 69 [.int .i64 x.robot, .int .i64 x.id], blk D.b 75 (D.vals S.tick S.ticked), blk D.g 95 (B'.vals G.g), mapA D (n + 1) S, mapD D n S, mapL D (n + 1) S, mapN D (n + 1) S, B'.fam, S.famA, S.famD, G.b m, G.r m, x.reply.rt.rd, rp.rt.rd]) (fun _ => True) ?_ ?_
      · skip
        refine Cd.region ?_
        refine Ls.ev (some 41) (Ev.fieldAddr (k := 8) (show Oper.op _ = Op.fieldAddr 47 (Operand.tmp 5) 5 from rfl) (by rfl) (by kernel_rfl) (by rfl)) (by rfl) (by rfl) ?_
        refine Ls.ev (some 42) (Ev.fieldAddr (k := 0) (show Oper.op _ = Op.fieldAddr 45 (Operand.tmp 41) 0 from rfl) (by rfl) (by kernel_rfl) (by rfl)) (by rfl) (by rfl) ?_
        refine Ls.ev (some 43) (Ev.load 1 (show Oper.op _ = Op.load 30 (Operand.tmp 42) from rfl) (by rfl) (by rfl) (by kernel_rfl) (by rfl)) (by rfl) (by rfl) ?_
        refine Ls.ev (some 44) (Ev.neq (show Oper.op _ = Op.binOp BinOp.neq 30 (Operand.tmp 43) (Operand.const (Value.int IntKind.i64 0)) 30 from rfl) (by rfl) (by rfl)) (by rfl) (by rfl) ?_
        refine Ls.ev (some 45) (Ev.move (show Oper.op _ = Op.move (Operand.tmp 44) from rfl) (by rfl)) (by rfl) (by rfl) ?_
        refine Ent.split 45 (by rfl) (fun h5 => ?_) (fun h5 => ?_)
        · skip
          have h5 := of_decide_eq_false h5
          refine Ls.ev (some 46) (Ev.loads 0 (show Oper.op _ = Op.load 45 (Operand.tmp 9) from rfl) (by rfl) (by rfl) (n := 4) (by kernel_rfl) (by rfl) (by rfl)) (by rfl) (by rfl) ?_
          refine Ls.ev (some 47) (Ev.fieldAddr (k := 8) (show Oper.op _ = Op.fieldAddr 47 (Operand.tmp 5) 5 from rfl) (by rfl) (by kernel_rfl) (by rfl)) (by rfl) (by rfl) ?_
          refine Ls.ev (some 48) (Ev.loads 1 (show Oper.op _ = Op.load 45 (Operand.tmp 47) from rfl) (by rfl) (by rfl) (n := 4) (by kernel_rfl) (by rfl) (by rfl)) (by rfl) (by rfl) ?_
          refine Ls.does (some 49) (Does.read (show Oper.op _ = Op.call { callee := Callee.value (Operand.func 28), args := #[Operand.tmp 46, Operand.tmp 48], argTypes := #[45, 45] } from rfl) Try.func28 (by kernel_rfl) (by kernel_rfl) (hq) (by rfl) (by rfl) ⟨ReadsIn.rd 15 (by rfl), ReadsIn.rd 14 (by rfl), trivial⟩) (by rfl) (by rfl) ?_
          rintro _ -
          refine Ls.ev (some 50) (Ev.not (show Oper.op _ = Op.unOp UnOp.not 4 (Operand.tmp 49) from rfl) (by rfl)) (by rfl) (by rfl) ?_
          refine Ls.ev (some 51) (Ev.pickF (show Oper.op _ = Op.pick (Operand.tmp 45) (Operand.const (Value.bool true)) (Operand.tmp 50) from rfl) (by rfl) (by rfl)) (by rfl) (by rfl) ?_
          refine Ls.nil ?_
          refine Ent.inv (()) ?_ ?_ ?_
          · (try dsimp only); skip
          · (repeat (first | exact trivial | refine ⟨by rfl, ?_⟩ | refine ⟨by simp only [List.length_append, List.length_cons, List.length_nil]; rfl, ?_⟩ | refine ⟨by push_cast; rfl, ?_⟩ | refine ⟨by (show some (Value.bool _) = some (Value.bool _); rw [← decide_not, show decide (x.reply.code ≠ 0 ∨ rp.p ≠ x.reply.p) = decide (¬ rp.p = x.reply.p) from decide_eq_decide.2 (or_iff_right h5)]), ?_⟩))
          · rfl
        · skip
          refine Ls.pass (some 46) (by rfl) (by rfl) ?_
          refine Ls.pass (some 47) (by rfl) (by rfl) ?_
          refine Ls.pass (some 48) (by rfl) (by rfl) ?_
          refine Ls.pass (some 49) (by rfl) (by rfl) ?_
          refine Ls.pass (some 50) (by rfl) (by rfl) ?_
          refine Ls.ev (some 51) (Ev.pickT (show Oper.op _ = Op.pick (Operand.tmp 45) (Operand.const (Value.bool true)) (Operand.tmp 50) from rfl) (by rfl) (by rfl)) (by rfl) (by rfl) ?_
          refine Ls.nil ?_
          refine Ent.inv (()) ?_ ?_ ?_
          · (try dsimp only); skip
          · (repeat (first | exact trivial | refine ⟨by rfl, ?_⟩ | refine ⟨by simp only [List.length_append, List.length_cons, List.length_nil]; rfl, ?_⟩ | refine ⟨by push_cast; rfl, ?_⟩ | refine ⟨by (show some (Value.bool _) = some (Value.bool _); rw [show decide (x.reply.code ≠ 0 ∨ rp.p ≠ x.reply.p) = true from decide_eq_true (.inl (of_decide_eq_true h5))]), ?_⟩))
          · rfl
      skip
      rintro _ -
      refine Cd.cond _ (by rfl) (fun h6 => ?_) (fun h6 => ?_)
      · skip
        rw [if_pos (of_decide_eq_true h6)]
        refine Cd.seq ?_
        refine Cd.region ?_
        refine Ls.ev (some 6) (Ev.assign (show Oper.op _ = Op.assign (Operand.const (Value.int IntKind.i64 4)) from rfl) (by rfl)) (by rfl) (by rfl) ?_
        refine Ls.nil ?_
        refine Ent.mapMore 6 rfl (Nat.le_succ n) ?_
        refine Ent.pick [3, 4, 5, 6, 7, 8, 9, 10, 11] (by rfl) ?_
        refine Cd.ret ?_
        refine Ent.ret (({ S with B := B' }, 4)) (⟨⟨hB', hep, hS.ask, hS.dec⟩, rfl, rfl⟩) (Res.tmp (by rfl) (by rfl)) ?_ [0, 1, 2, 3, 4, 5, 6, 7, 8] (by rfl) ?_
        · rfl
        · rfl
      · skip
        rw [if_neg (of_decide_eq_false h6)]
        refine Cd.skip ?_
        refine Cd.seq ?_
        refine Cd.draw [7] (by kernel_rfl) ?_
        refine Rg.ev 0 (by rfl) (fun _ h => h) (Ev.move (show Oper.op _ = Op.move (Operand.tmp 0) from rfl) (by rfl)) (by rfl) (some 52) (by rfl) (by kernel_rfl) (by kernel_rfl) (by kernel_rfl) (by kernel_rfl) ?_
        refine Rg.ev 1 (by rfl) (fun _ h => h) (Ev.nilCheck (show Oper.op _ = Op.nilCheck (Operand.tmp 52) from rfl) (by rfl)) (by rfl) (some 53) (by rfl) (by kernel_rfl) (by kernel_rfl) (by kernel_rfl) (by kernel_rfl) ?_
        refine Rg.ev 2 (by rfl) (fun _ h => h) (Ev.fieldAddr (k := 2) (show Oper.op _ = Op.fieldAddr 75 (Operand.tmp 53) 2 from rfl) (by rfl) (by kernel_rfl) (by rfl)) (by rfl) (some 54) (by rfl) (by kernel_rfl) (by kernel_rfl) (by kernel_rfl) (by kernel_rfl) ?_
        refine Rg.ev 3 (by rfl) (fun _ h => h) (Ev.load 3 (show Oper.op _ = Op.load 71 (Operand.tmp 54) from rfl) (by rfl) (by rfl) (by kernel_rfl) (by rfl)) (by rfl) (some 55) (by rfl) (by kernel_rfl) (by kernel_rfl) (by kernel_rfl) (by kernel_rfl) ?_
        refine Rg.ev 4 (by rfl) (fun _ h => h) (Ev.loads 2 (show Oper.op _ = Op.load 69 (Operand.tmp 4) from rfl) (by rfl) (by rfl) (n := 2) (by kernel_rfl) (by rfl) (by rfl)) (by rfl) (some 56) (by rfl) (by kernel_rfl) (by kernel_rfl) (by kernel_rfl) (by kernel_rfl) ?_
        refine Rg.ev 5 (by rfl) (fun _ h => h) (Ev.fieldAddr (k := 8) (show Oper.op _ = Op.fieldAddr 47 (Operand.tmp 5) 5 from rfl) (by rfl) (by kernel_rfl) (by rfl)) (by rfl) (some 57) (by rfl) (by kernel_rfl) (by kernel_rfl) (by kernel_rfl) (by kernel_rfl) ?_
        refine Rg.ev 6 (by rfl) (fun _ h => h) (Ev.loads 1 (show Oper.op _ = Op.load 45 (Operand.tmp 57) from rfl) (by rfl) (by rfl) (n := 4) (by kernel_rfl) (by rfl) (by rfl)) (by rfl) (some 58) (by rfl) (by kernel_rfl) (by kernel_rfl) (by kernel_rfl) (by kernel_rfl) ?_
        refine Rg.tail 7 [] (by rfl) (by kernel_rfl) (Does.mapPutO ckey_inj 6 (show Oper.op _ = Op.mapUpdate 71 (Operand.tmp 55) (Operand.tmp 56) (Operand.tmp 58) from rfl) (by rfl) (by rfl) (by rfl) (by rfl) keyed_call Try.underlying71 (by omega) hk) (by rfl) none (by rfl) (by kernel_rfl) (by kernel_rfl) ?_
        intro _ _
        refine Rg.done (by kernel_rfl) ?_ _
        refine Cd.seq ?_
        refine Cd.region ?_
        refine Ls.ev (some 6) (Ev.assign (show Oper.op _ = Op.assign (Operand.const (Value.int IntKind.i64 0)) from rfl) (by rfl)) (by rfl) (by rfl) ?_
        refine Ls.nil ?_
        refine Ent.pick [3, 4, 5, 6, 7, 8, 9, 10, 14, 11] (by rfl) ?_
        refine Ent.pick [8, 9, 0, 1, 2, 3, 4, 5, 6, 7] (by rfl) ?_
        refine Ent.map (fun w hs => Sat.starf_put (F := fun k : Int × Int => ((S.dec k).getD noRp).rt.rd) (G := fun k : Int × Int => (((S.decide B' x.key x.reply).dec k).getD noRp).rt.rd) (C := x.reply.rt.rd) rfl (fun k => S.dec_fam) hs) ?_
        refine Ent.norm [(0, .pointer (some ⟨D.b, 0, none⟩)), (6, .int .i64 0)] (starf (fun k : Int × Int => (((S.decide B' x.key x.reply).dec k).getD noRp).rt.rd) :: [blk D.b 75 (D.vals S.tick S.ticked), blk D.g 95 (B'.vals G.g), mapA D (n + 1) S, mapD D (n + 1) (S.decide B' x.key x.reply), mapL D (n + 1) S, mapN D (n + 1) S, B'.fam, S.famA]) (by exact ⟨by rfl, by rfl, trivial⟩) (by rw [← S.dec_map B']; rfl) ?_
        refine Cd.ret ?_
        refine Ent.ret ((S.decide B' x.key x.reply, 0)) (⟨⟨hB', hep, hS.ask, S.dec_ok hS.dec hx.reply⟩, S.dec_p B', rfl⟩) (Res.tmp (by rfl) (by rfl)) ?_ [1, 2, 3, 4, 5, 6, 7, 8, 0] (by rfl) ?_
        · rfl
        · rfl
  · skip
    rw [decP_dec h1]
    refine Ls.pass (some 21) (by rfl) (by rfl) ?_
    refine Ls.pass (some 22) (by rfl) (by rfl) ?_
    refine Ls.pass (some 23) (by rfl) (by rfl) ?_
    refine Ls.pass (some 24) (by rfl) (by rfl) ?_
    refine Ls.ev (some 25) (Ev.pickT (show Oper.op _ = Op.pick (Operand.tmp 20) (Operand.const (Value.bool true)) (Operand.tmp 24) from rfl) (by rfl) (by rfl)) (by rfl) (by rfl) ?_
    refine Ls.nil ?_
    refine Cd.cond_true (by rfl) (rfl) ?_
    refine Cd.seq ?_
    refine Cd.region ?_
    refine Ls.ev (some 6) (Ev.assign (show Oper.op _ = Op.assign (Operand.const (Value.int IntKind.i64 3)) from rfl) (by rfl)) (by rfl) (by rfl) ?_
    refine Ls.nil ?_
    refine Ent.pick [3, 4, 5, 6, 7, 8, 9, 10, 11] (by rfl) (Ent.beMore (G := G) (m := m) (D := D) (S := S) ?_)
    refine Cd.ret ?_
    refine Ent.ret ((S, 3)) (⟨hS.more, rfl, rfl⟩) (Res.tmp (by rfl) (by rfl)) ?_ [0, 1, 2, 3, 4, 5, 6, 7, 8] (by rfl) ?_
    · rfl
    · rfl
end
end Go.Proofs.Ytegjoabfoddadaa
