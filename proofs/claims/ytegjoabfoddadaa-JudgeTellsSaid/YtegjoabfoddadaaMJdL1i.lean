/-
  Texts joined: JdK, JdL, JdM, JdN, JdO, SlV, JdV, JdW, JdX, DcA.
-/
import Derived.Test.YtegjoabfoddadaaMJdL1f
import Derived.Test.YtegjoabfoddadaaMJdL1h
import Derived.Test.YtegjoabfoddadaaProg
import Derived.Laws.StructEq
import Derived.ChangeKeysEq
/- the judge over pieces: see -/
namespace Go.Proofs.Ytegjoabfoddadaa
open Go.RowKit
/-- A call has been made. -/
def BeS.called (S : BeS) (k : Int × Int) (c : CallS) : BeS := { S with ask := fun j => if j = k then some c else S.ask j, last := fun r => if r = k.1 then some k.2 else S.last r }
theorem BeS.call_map (S : BeS) {D : BeA} {n : Nat} {k : Int × Int} {c : CallS} : mapo Try.prog 69 D.ma n zC ckey (putI S.askF k (.agg c.enc.toArray)) = mapA D n (S.called k c) := congrArg (mapo _ _ _ _ _ _) (by
  funext j
  unfold putI BeS.askF BeS.called
  dsimp only
  split <;> rfl)
theorem BeS.call_last (S : BeS) {D : BeA} {n : Nat} {k : Int × Int} {c : CallS} : mapo Try.prog 3 D.ml n (.int .i64 0) (Value.int .i64) (putI S.lastF k.1 (.int .i64 k.2)) = mapL D n (S.called k c) := congrArg (mapo _ _ _ _ _ _) (by
  funext j
  unfold putI BeS.lastF BeS.called
  dsimp only
  split <;> rfl)
theorem BeS.call_fam (S : BeS) {k : Int × Int} {c : CallS} {j : Int × Int} : (((S.called k c).ask j).getD noC).rt.rd = ((S.ask j).getD noC).rt.rd ∨ (((S.called k c).ask j).getD noC).rt.rd = c.rt.rd := by
  unfold BeS.called
  dsimp only
  split
  · exact .inr rfl
  · exact .inl rfl
theorem BeS.call_ok (S : BeS) {k : Int × Int} {c : CallS} (h : ∀ k c, S.ask k = some c → c.rt.l.length ≤ 100 ∧ c.rt.l.length ≤ c.rt.c) (hc : c.rt.l.length ≤ 100 ∧ c.rt.l.length ≤ c.rt.c) : ∀ j d, (S.called k c).ask j = some d → d.rt.l.length ≤ 100 ∧ d.rt.l.length ≤ d.rt.c := fun j d e => by
  unfold BeS.called at e
  dsimp only at e
  split at e
  · injection e with e
    subst e
    exact hc
  · exact h j d e
theorem BeS.call_p (S : BeS) {k : Int × Int} {c : CallS} : (S.called k c).p = { S.p with last := upd S.p.last k.1 k.2, asked := upd S.p.asked k (some c.p) } := by
  unfold BeS.called BeS.p
  dsimp only
  congr 1
  · funext j
    unfold upd
    split <;> rfl
  · funext j
    unfold upd
    split <;> rfl
theorem or3_a {A C : Prop} {b : Bool} [Decidable A] [Decidable C] (h : decide A = true) : true = decide (A ∨ b = false ∨ C) := (decide_eq_true (.inl (of_decide_eq_true h))).symm
theorem or3_b {A C : Prop} {b : Bool} [Decidable A] [Decidable C] (h : (!b) = true) : true = decide (A ∨ b = false ∨ C) := (decide_eq_true (.inr (.inl (by simpa using h)))).symm
theorem or3_c {A C : Prop} {b : Bool} [Decidable A] [Decidable C] (h1 : ¬ A) (h2 : (!b) = false) : decide C = decide (A ∨ b = false ∨ C) := decide_eq_decide.2 (by
  have : b = true := by simpa using h2
  simp [h1, this])
section
variable {o : Option RepS} {r : RepS} {c : Int}
theorem rep_a (h : ¬ c = 0) : o.isSome = decide ((c = 0 ∧ o.map RepS.p ≠ some r.p) ∨ (c ≠ 0 ∧ o.isSome = true)) := by
  cases o <;> simp [h]
theorem rep_b (h : c = 0) (h2 : (!o.isSome) = true) : true = decide ((c = 0 ∧ o.map RepS.p ≠ some r.p) ∨ (c ≠ 0 ∧ o.isSome = true)) := by
  cases o with
  | none => simp [h]
  | some _ => cases h2
theorem rep_c {b : Bool} (h : c = 0) (h2 : (!o.isSome) = false) (h3 : (!decide ((o.getD noRp).p = r.p)) = b) : b = decide ((c = 0 ∧ o.map RepS.p ≠ some r.p) ∨ (c ≠ 0 ∧ o.isSome = true)) := by
  cases o with
  | none => cases h2
  | some d =>
    rw [← h3]
    simp [h]
end
/-- An answer has been seen. -/
def BeS.answered (S : BeS) (k : Int × Int) : BeS := { S with ans := fun j => if j = k then some 1 else S.ans j }
theorem BeS.ans_map (S : BeS) {D : BeA} {n : Nat} {k : Int × Int} : mapo Try.prog 69 D.mn n (.int .i64 0) ckey (putI S.ansF k (.int .i64 1)) = mapN D n (S.answered k) := congrArg (mapo _ _ _ _ _ _) (by
  funext j
  unfold putI BeS.ansF BeS.answered
  dsimp only
  split <;> rfl)
theorem BeS.ans_p (S : BeS) {k : Int × Int} : (S.answered k).p = { S.p with ans := upd S.p.ans k true } := by
  unfold BeS.answered BeS.p
  dsimp only
  congr 1
  funext j
  unfold upd
  split <;> rfl
theorem BeS.ans_eq (S : BeS) (x : EvS) : ansP S.p x.p = if x.id ≠ (S.last x.robot).getD 0 ∨ (S.ask x.key).isSome = false ∨ (S.ans x.key).getD 0 ≠ 0 then (S.p, 5)
    else if (x.reply.code = 0 ∧ (S.dec x.key).map RepS.p ≠ some x.reply.p) ∨ (x.reply.code ≠ 0 ∧ (S.dec x.key).isSome = true) then (S.p, 6)
    else ({ S.p with ans := upd S.p.ans x.key true }, 0) := by
  have e0 : S.p.asked x.key = none ↔ (S.ask x.key).isSome = false := by
    show (S.ask x.key).map CallS.p = none ↔ _
    cases S.ask x.key <;> simp
  have e1 : S.p.ans x.key = true ↔ (S.ans x.key).getD 0 ≠ 0 := by
    show Decidable.decide ((S.ans x.key).getD 0 ≠ 0) = true ↔ _
    exact decide_eq_true_iff
  have e2 : S.p.dec x.key ≠ none ↔ (S.dec x.key).isSome = true := by
    show (S.dec x.key).map RepS.p ≠ none ↔ _
    cases S.dec x.key <;> simp
  show (if x.id ≠ S.p.last x.robot ∨ S.p.asked x.key = none ∨ S.p.ans x.key = true then (S.p, (5 : Int)) else if (x.reply.code = 0 ∧ S.p.dec x.key ≠ some x.reply.p) ∨ (x.reply.code ≠ 0 ∧ S.p.dec x.key ≠ none) then (S.p, 6) else ({ S.p with ans := upd S.p.ans x.key true }, 0)) = _
  simp only [e0, e1, e2]
  rfl
section
variable (G : GrS) (m : MapP) (hm : goodM m = true)
include hm
set_option maxHeartbeats 4000000 in
set_option maxRecDepth 20000 in
theorem see_sl (D : BeA) (n : Nat) (hn : n ≤ 100000) (S : BeS) (hS : S.Ok n) (x : EvS) (hx : x.Ok) :
    Fn Try.prog 16 #[.pointer (some ⟨D.b, 0, none⟩), .agg x.enc.toArray] (beP G m D n S ++ [G.b m, G.r m, x.call.rt.rd, x.reply.rt.rd]) (BeS × Int) (fun p => .int .i64 p.2) (fun p => beP G m D (n + 1) p.1) (fun p => p.1.Ok (n + 1) ∧ p.1.p = (seeP m S.p x.p).1 ∧ p.2 = (seeP m S.p x.p).2) := by
  have hk := keyOf_call x.key hx.robot hx.id
  have hki := keyOf_int hx.robot
  have hhas := has_sl D S x.key hx.robot hx.id
  have hse : seeP m S.p x.p = if 1 ≤ x.kind ∧ x.kind ≤ 3 ∧ isR x.robot = false then (S.p, 1)
    else if x.kind = 1 then (if x.id ≤ (S.last x.robot).getD 0 then (S.p, 2) else ({ S.p with last := upd S.p.last x.robot x.id, asked := upd S.p.asked x.key (some x.call.p) }, 0))
    else if x.kind = 3 then decP m S.p x.p
    else if x.kind = 2 then ansP S.p x.p
    else if x.kind = 4 then (if S.ticked = true ∧ x.tick < S.tick then (S.p, 1) else ({ S.p with tick := x.tick, ticked := true }, 0))
    else (S.p, 1) := rfl
  unfold beP
  refine Fn.enter Try.func16 rfl Try.ntmps16 (by rfl) ?_
  intro w0
  refine Cd.seq ?_
  refine Cd.region ?_
  refine Ls.does (some 3) (Does.box (show Oper.op _ = Op.box 47 (Operand.tmp 1) from rfl) (by rfl)) (by rfl) (by rfl) ?_
  intro g1 _
  refine Ls.ev (some 4) (Ev.assign (show Oper.op _ = Op.assign (Operand.const (Value.int IntKind.i64 0)) from rfl) (by rfl)) (by rfl) (by rfl) ?_
  refine Ls.nil ?_
  refine Cd.seq ?_
  refine Cd.region ?_
  refine Ls.ev (some 8) (Ev.fieldAddr (k := 1) (show Oper.op _ = Op.fieldAddr 47 (Operand.tmp 3) 1 from rfl) (by rfl) (by kernel_rfl) (by rfl)) (by rfl) (by rfl) ?_
  refine Ls.ev (some 9) (Ev.load 0 (show Oper.op _ = Op.load 3 (Operand.tmp 8) from rfl) (by rfl) (by rfl) (by kernel_rfl) (by rfl)) (by rfl) (by rfl) ?_
  refine Ls.ev (some 10) (Ev.fieldAddr (k := 2) (show Oper.op _ = Op.fieldAddr 47 (Operand.tmp 3) 2 from rfl) (by rfl) (by kernel_rfl) (by rfl)) (by rfl) (by rfl) ?_
  refine Ls.ev (some 11) (Ev.load 0 (show Oper.op _ = Op.load 3 (Operand.tmp 10) from rfl) (by rfl) (by rfl) (by kernel_rfl) (by rfl)) (by rfl) (by rfl) ?_
  refine Ls.ev (some 12) (Ev.buildP (pl := [(0, 1), (1, 1)]) (zs := [.int .i64 0, .int .i64 0]) (show Oper.op _ = Op.build 69 #[(0, Operand.tmp 9), (1, Operand.tmp 11)] from rfl) (by rfl) (by kernel_rfl) (by rfl)) (by rfl) (by rfl) ?_
  refine Ls.does (some 5) (Does.alloc (cs := [.int .i64 0, .int .i64 0]) (show Oper.op _ = Op.alloc 69 from rfl) (ZeroIs.mk (.agg #[.int .i64 0, .int .i64 0]) (by kernel_rfl) (by rfl))) (by rfl) (by rfl) ?_
  intro g2 _
  refine Ls.does none (Does.store 0 (show Oper.op _ = Op.store 69 (Operand.tmp 5) (Operand.tmp 12) from rfl) (by rfl) (by rfl) (by rfl) (by kernel_rfl) (by rfl) (by kernel_rfl) (by rfl)) (by rfl) (by rfl) ?_
  intro _ _
  refine Ls.nil ?_
  refine Cd.seq ?_
  refine Cd.seq ?_
  refine Cd.cut (ι := Unit) (fun _ => [(0, .pointer (some ⟨D.b, 0, none⟩)), (3, .pointer (some ⟨g1, 0, none⟩)), (4, .int .i64 0), (5, .pointer (some ⟨g2, 0, none⟩)), (30, .bool (decide (1 ≤ x.kind ∧ x.kind ≤ 3 ∧ (x.robot < 0 ∨ 16 ≤ x.robot))))]) (fun _ => [blk g2 69 [.int .i64 x.robot, .int .i64 x.id], blk g1 47 x.enc, blk D.b 75 (D.vals S.tick S.ticked), blk D.g 95 (S.B.vals G.g), mapA D n S, mapD D n S, mapL D n S, mapN D n S, S.B.fam, S.famA, S.famD, G.b m, G.r m, x.call.rt.rd, x.reply.rt.rd]) (fun _ => True) ?_ ?_
  · skip
    refine Cd.region ?_
    refine Ls.ev (some 13) (Ev.fieldAddr (k := 0) (show Oper.op _ = Op.fieldAddr 47 (Operand.tmp 3) 0 from rfl) (by rfl) (by kernel_rfl) (by rfl)) (by rfl) (by rfl) ?_
    refine Ls.ev (some 14) (Ev.load 1 (show Oper.op _ = Op.load 38 (Operand.tmp 13) from rfl) (by rfl) (by rfl) (by kernel_rfl) (by rfl)) (by rfl) (by rfl) ?_
    refine Ls.ev (some 15) (Ev.geq (show Oper.op _ = Op.binOp BinOp.geq 38 (Operand.tmp 14) (Operand.const (Value.int IntKind.i64 1)) 38 from rfl) (by rfl) (by rfl)) (by rfl) (by rfl) ?_
    refine Ls.ev (some 16) (Ev.move (show Oper.op _ = Op.move (Operand.tmp 15) from rfl) (by rfl)) (by rfl) (by rfl) ?_
    refine Ent.split 16 (by rfl) (fun hT1 => ?_) (fun hT1 => ?_)
    · first | have hT1 := of_decide_eq_false hT1 | have hT1 := of_not_decide_false hT1 | skip
      refine Ls.pass (some 17) (by rfl) (by rfl) ?_
      refine Ls.pass (some 18) (by rfl) (by rfl) ?_
      refine Ls.pass (some 19) (by rfl) (by rfl) ?_
      refine Ls.ev (some 20) (Ev.pickF (show Oper.op _ = Op.pick (Operand.tmp 16) (Operand.tmp 19) (Operand.const (Value.bool false)) from rfl) (by rfl) (by rfl)) (by rfl) (by rfl) ?_
      refine Ls.ev (some 21) (Ev.move (show Oper.op _ = Op.move (Operand.tmp 20) from rfl) (by rfl)) (by rfl) (by rfl) ?_
      refine Ls.pass (some 22) (by rfl) (by rfl) ?_
      refine Ls.pass (some 23) (by rfl) (by rfl) ?_
      refine Ls.pass (some 24) (by rfl) (by rfl) ?_
      refine Ls.pass (some 25) (by rfl) (by rfl) ?_
      refine Ls.pass (some 26) (by rfl) (by rfl) ?_
      refine Ls.pass (some 27) (by rfl) (by rfl) ?_
      refine Ls.pass (some 28) (by rfl) (by rfl) ?_
      refine Ls.pass (some 29) (by rfl) (by rfl) ?_
      refine Ls.ev (some 30) (Ev.pickF (show Oper.op _ = Op.pick (Operand.tmp 21) (Operand.tmp 29) (Operand.const (Value.bool false)) from rfl) (by rfl) (by rfl)) (by rfl) (by rfl) ?_
      refine Ls.nil ?_
      refine Ent.inv () ?_ ?_ ?_
      · exact trivial
      · (repeat (first | exact trivial | refine ⟨by rfl, ?_⟩ | refine ⟨by simp only [List.length_append, List.length_cons, List.length_nil]; rfl, ?_⟩ | refine ⟨by push_cast; rfl, ?_⟩ | refine ⟨by (show some (Value.bool _) = some (Value.bool _); congr 2; first | rfl | exact (decide_eq_true (by omega)).symm | exact (decide_eq_false (by omega)).symm | exact decide_eq_decide.2 (by omega)), ?_⟩))
      · rfl
    · first | have hT1 := of_decide_eq_true hT1 | have hT1 := of_not_decide_true hT1 | skip
      refine Ls.ev (some 17) (Ev.fieldAddr (k := 0) (show Oper.op _ = Op.fieldAddr 47 (Operand.tmp 3) 0 from rfl) (by rfl) (by kernel_rfl) (by rfl)) (by rfl) (by rfl) ?_
      refine Ls.ev (some 18) (Ev.load 1 (show Oper.op _ = Op.load 38 (Operand.tmp 17) from rfl) (by rfl) (by rfl) (by kernel_rfl) (by rfl)) (by rfl) (by rfl) ?_
      refine Ls.ev (some 19) (Ev.leq (show Oper.op _ = Op.binOp BinOp.leq 38 (Operand.tmp 18) (Operand.const (Value.int IntKind.i64 3)) 38 from rfl) (by rfl) (by rfl)) (by rfl) (by rfl) ?_
      refine Ls.ev (some 20) (Ev.pickT (show Oper.op _ = Op.pick (Operand.tmp 16) (Operand.tmp 19) (Operand.const (Value.bool false)) from rfl) (by rfl) (by rfl)) (by rfl) (by rfl) ?_
      refine Ls.ev (some 21) (Ev.move (show Oper.op _ = Op.move (Operand.tmp 20) from rfl) (by rfl)) (by rfl) (by rfl) ?_
      refine Ent.split 21 (by rfl) (fun hT2 => ?_) (fun hT2 => ?_)
      · first | have hT2 := of_decide_eq_false hT2 | have hT2 := of_not_decide_false hT2 | skip
        refine Ls.pass (some 22) (by rfl) (by rfl) ?_
        refine Ls.pass (some 23) (by rfl) (by rfl) ?_
        refine Ls.pass (some 24) (by rfl) (by rfl) ?_
        refine Ls.pass (some 25) (by rfl) (by rfl) ?_
        refine Ls.pass (some 26) (by rfl) (by rfl) ?_
        refine Ls.pass (some 27) (by rfl) (by rfl) ?_
        refine Ls.pass (some 28) (by rfl) (by rfl) ?_
        refine Ls.pass (some 29) (by rfl) (by rfl) ?_
        refine Ls.ev (some 30) (Ev.pickF (show Oper.op _ = Op.pick (Operand.tmp 21) (Operand.tmp 29) (Operand.const (Value.bool false)) from rfl) (by rfl) (by rfl)) (by rfl) (by rfl) ?_
        refine Ls.nil ?_
        refine Ent.inv () ?_ ?_ ?_
        · exact trivial
        · (repeat (first | exact trivial | refine ⟨by rfl, ?_⟩ | refine ⟨by simp only [List.length_append, List.length_cons, List.length_nil]; rfl, ?_⟩ | refine ⟨by push_cast; rfl, ?_⟩ | refine ⟨by (show some (Value.bool _) = some (Value.bool _); congr 2; first | rfl | exact (decide_eq_true (by omega)).symm | exact (decide_eq_false (by omega)).symm | exact decide_eq_decide.2 (by omega)), ?_⟩))
        · rfl
      · first | have hT2 := of_decide_eq_true hT2 | have hT2 := of_not_decide_true hT2 | skip
        refine Ls.ev (some 22) (Ev.fieldAddr (k := 1) (show Oper.op _ = Op.fieldAddr 47 (Operand.tmp 3) 1 from rfl) (by rfl) (by kernel_rfl) (by rfl)) (by rfl) (by rfl) ?_
        refine Ls.ev (some 23) (Ev.load 1 (show Oper.op _ = Op.load 3 (Operand.tmp 22) from rfl) (by rfl) (by rfl) (by kernel_rfl) (by rfl)) (by rfl) (by rfl) ?_
        refine Ls.ev (some 24) (Ev.lss (show Oper.op _ = Op.binOp BinOp.lss 3 (Operand.tmp 23) (Operand.const (Value.int IntKind.i64 0)) 3 from rfl) (by rfl) (by rfl)) (by rfl) (by rfl) ?_
        refine Ls.ev (some 25) (Ev.move (show Oper.op _ = Op.move (Operand.tmp 24) from rfl) (by rfl)) (by rfl) (by rfl) ?_
        refine Ent.split 25 (by rfl) (fun hT3 => ?_) (fun hT3 => ?_)
        · first | have hT3 := of_decide_eq_false hT3 | have hT3 := of_not_decide_false hT3 | skip
          refine Ls.ev (some 26) (Ev.fieldAddr (k := 1) (show Oper.op _ = Op.fieldAddr 47 (Operand.tmp 3) 1 from rfl) (by rfl) (by kernel_rfl) (by rfl)) (by rfl) (by rfl) ?_
          refine Ls.ev (some 27) (Ev.load 1 (show Oper.op _ = Op.load 3 (Operand.tmp 26) from rfl) (by rfl) (by rfl) (by kernel_rfl) (by rfl)) (by rfl) (by rfl) ?_
          refine Ls.ev (some 28) (Ev.geq (show Oper.op _ = Op.binOp BinOp.geq 3 (Operand.tmp 27) (Operand.const (Value.int IntKind.i64 16)) 3 from rfl) (by rfl) (by rfl)) (by rfl) (by rfl) ?_
          refine Ls.ev (some 29) (Ev.pickF (show Oper.op _ = Op.pick (Operand.tmp 25) (Operand.const (Value.bool true)) (Operand.tmp 28) from rfl) (by rfl) (by rfl)) (by rfl) (by rfl) ?_
          refine Ls.ev (some 30) (Ev.pickT (show Oper.op _ = Op.pick (Operand.tmp 21) (Operand.tmp 29) (Operand.const (Value.bool false)) from rfl) (by rfl) (by rfl)) (by rfl) (by rfl) ?_
          refine Ls.nil ?_
          refine Ent.inv () ?_ ?_ ?_
          · exact trivial
          · (repeat (first | exact trivial | refine ⟨by rfl, ?_⟩ | refine ⟨by simp only [List.length_append, List.length_cons, List.length_nil]; rfl, ?_⟩ | refine ⟨by push_cast; rfl, ?_⟩ | refine ⟨by (show some (Value.bool _) = some (Value.bool _); congr 2; first | rfl | exact (decide_eq_true (by omega)).symm | exact (decide_eq_false (by omega)).symm | exact decide_eq_decide.2 (by omega)), ?_⟩))
          · rfl
        · first | have hT3 := of_decide_eq_true hT3 | have hT3 := of_not_decide_true hT3 | skip
          refine Ls.pass (some 26) (by rfl) (by rfl) ?_
          refine Ls.pass (some 27) (by rfl) (by rfl) ?_
          refine Ls.pass (some 28) (by rfl) (by rfl) ?_
          refine Ls.ev (some 29) (Ev.pickT (show Oper.op _ = Op.pick (Operand.tmp 25) (Operand.const (Value.bool true)) (Operand.tmp 28) from rfl) (by rfl) (by rfl)) (by rfl) (by rfl) ?_
          refine Ls.ev (some 30) (Ev.pickT (show Oper.op _ = Op.pick (Operand.tmp 21) (Operand.tmp 29) (Operand.const (Value.bool false)) from rfl) (by rfl) (by rfl)) (by rfl) (by rfl) ?_
          refine Ls.nil ?_
          refine Ent.inv () ?_ ?_ ?_
          · exact trivial
          · (repeat (first | exact trivial | refine ⟨by rfl, ?_⟩ | refine ⟨by simp only [List.length_append, List.length_cons, List.length_nil]; rfl, ?_⟩ | refine ⟨by push_cast; rfl, ?_⟩ | refine ⟨by (show some (Value.bool _) = some (Value.bool _); congr 2; first | rfl | exact (decide_eq_true (by omega)).symm | exact (decide_eq_false (by omega)).symm | exact decide_eq_decide.2 (by omega)), ?_⟩))
          · rfl
  skip
  rintro _ -
  refine Cd.cond _ (by rfl) (fun h1 => ?_) (fun h1 => ?_)
  · skip
    have h1 : 1 ≤ x.kind ∧ x.kind ≤ 3 ∧ isR x.robot = false := by
      obtain ⟨h2, h3, h4⟩ := of_decide_eq_true h1
      refine ⟨h2, h3, ?_⟩
      unfold isR
      rw [← Bool.decide_and]
      exact decide_eq_false (by omega)
    rw [if_pos h1] at hse
    rw [hse]
    refine Cd.seq ?_
    refine Cd.region ?_
    refine Ls.ev (some 4) (Ev.assign (show Oper.op _ = Op.assign (Operand.const (Value.int IntKind.i64 1)) from rfl) (by rfl)) (by rfl) (by rfl) ?_
    refine Ls.nil ?_
    refine Ent.pick [2, 3, 4, 5, 6, 7, 8, 9, 10] (by rfl) (Ent.beMore (G := G) (m := m) (D := D) (S := S) ?_)
    refine Cd.ret ?_
    refine Ent.ret ((S, 1)) (⟨hS.more, rfl, rfl⟩) (Res.tmp (by rfl) (by rfl)) ?_ [0, 1, 2, 3, 4, 5, 6, 7, 8] (by rfl) ?_
    · rfl
    · rfl
  skip
  have h1' : ¬ (1 ≤ x.kind ∧ x.kind ≤ 3 ∧ isR x.robot = false) := by
    rintro ⟨h2, h3, h4⟩
    refine (of_decide_eq_false h1) ⟨h2, h3, ?_⟩
    unfold isR at h4
    rw [← Bool.decide_and] at h4
    have := of_decide_eq_false h4
    omega
  rw [if_neg h1'] at hse
  refine Cd.skip ?_
  refine Cd.seq ?_
  refine Cd.seq ?_
  refine Cd.region ?_
  refine Ls.ev (some 31) (Ev.fieldAddr (k := 0) (show Oper.op _ = Op.fieldAddr 47 (Operand.tmp 3) 0 from rfl) (by rfl) (by kernel_rfl) (by rfl)) (by rfl) (by rfl) ?_
  refine Ls.ev (some 32) (Ev.load 1 (show Oper.op _ = Op.load 38 (Operand.tmp 31) from rfl) (by rfl) (by rfl) (by kernel_rfl) (by rfl)) (by rfl) (by rfl) ?_
  refine Ls.nil ?_
  refine Cd.block ?_
  refine Cd.seq ?_
  refine Cd.region ?_
  refine Ls.ev (some 34) (Ev.eql (show Oper.op _ = Op.binOp BinOp.eql 38 (Operand.tmp 32) (Operand.const (Value.int IntKind.i64 1)) 38 from rfl) (by rfl) (by rfl)) (by rfl) (by rfl) ?_
  refine Ls.ev (some 33) (Ev.assign (show Oper.op _ = Op.assign (Operand.tmp 34) from rfl) (by rfl)) (by rfl) (by rfl) ?_
  refine Ls.nil ?_
  refine Cd.cond _ (by rfl) (fun h2 => ?_) (fun h2 => ?_)
  · skip
    have h2 := of_decide_eq_true h2
    rw [if_pos h2] at hse
    refine Cd.seq ?_
    refine Cd.seq ?_
    refine Cd.draw [] (by kernel_rfl) ?_
    refine Rg.ev 0 (by rfl) (fun _ h => h) (Ev.fieldAddr (k := 2) (show Oper.op _ = Op.fieldAddr 47 (Operand.tmp 3) 2 from rfl) (by rfl) (by kernel_rfl) (by rfl)) (by rfl) (some 35) (by rfl) (by kernel_rfl) (by kernel_rfl) (by kernel_rfl) (by kernel_rfl) ?_
    refine Rg.ev 1 (by rfl) (fun _ h => h) (Ev.load 1 (show Oper.op _ = Op.load 3 (Operand.tmp 35) from rfl) (by rfl) (by rfl) (by kernel_rfl) (by rfl)) (by rfl) (some 36) (by rfl) (by kernel_rfl) (by kernel_rfl) (by kernel_rfl) (by kernel_rfl) ?_
    refine Rg.ev 2 (by rfl) (fun _ h => h) (Ev.move (show Oper.op _ = Op.move (Operand.tmp 0) from rfl) (by rfl)) (by rfl) (some 37) (by rfl) (by kernel_rfl) (by kernel_rfl) (by kernel_rfl) (by kernel_rfl) ?_
    refine Rg.ev 3 (by rfl) (fun _ h => h) (Ev.nilCheck (show Oper.op _ = Op.nilCheck (Operand.tmp 37) from rfl) (by rfl)) (by rfl) (some 38) (by rfl) (by kernel_rfl) (by kernel_rfl) (by kernel_rfl) (by kernel_rfl) ?_
    refine Rg.ev 4 (by rfl) (fun _ h => h) (Ev.fieldAddr (k := 3) (show Oper.op _ = Op.fieldAddr 75 (Operand.tmp 38) 3 from rfl) (by rfl) (by kernel_rfl) (by rfl)) (by rfl) (some 39) (by rfl) (by kernel_rfl) (by kernel_rfl) (by kernel_rfl) (by kernel_rfl) ?_
    refine Rg.ev 5 (by rfl) (fun _ h => h) (Ev.load 2 (show Oper.op _ = Op.load 72 (Operand.tmp 39) from rfl) (by rfl) (by rfl) (by kernel_rfl) (by rfl)) (by rfl) (some 40) (by rfl) (by kernel_rfl) (by kernel_rfl) (by kernel_rfl) (by kernel_rfl) ?_
    refine Rg.ev 6 (by rfl) (fun _ h => h) (Ev.fieldAddr (k := 1) (show Oper.op _ = Op.fieldAddr 47 (Operand.tmp 3) 1 from rfl) (by rfl) (by kernel_rfl) (by rfl)) (by rfl) (some 41) (by rfl) (by kernel_rfl) (by kernel_rfl) (by kernel_rfl) (by kernel_rfl) ?_
    refine Rg.ev 7 (by rfl) (fun _ h => h) (Ev.load 1 (show Oper.op _ = Op.load 3 (Operand.tmp 41) from rfl) (by rfl) (by rfl) (by kernel_rfl) (by rfl)) (by rfl) (some 42) (by rfl) (by kernel_rfl) (by kernel_rfl) (by kernel_rfl) (by kernel_rfl) ?_
    refine Rg.ev 8 (by rfl) (fun _ h => h) (Ev.to (Ev.lookO 6 (show Oper.op _ = Op.lookup 72 (Operand.tmp 40) (Operand.tmp 42) false from rfl) (by rfl) (by rfl) (by rfl) keyed_int Try.underlying72 (zero_of (by kernel_rfl)) hki) (S.last_get x.robot)) (by rfl) (some 43) (by rfl) (by kernel_rfl) (by kernel_rfl) (by kernel_rfl) (by kernel_rfl) ?_
    refine Rg.ev 9 (by rfl) (fun _ h => h) (Ev.leq (show Oper.op _ = Op.binOp BinOp.leq 3 (Operand.tmp 36) (Operand.tmp 43) 3 from rfl) (by rfl) (by rfl)) (by rfl) (some 44) (by rfl) (by kernel_rfl) (by kernel_rfl) (by kernel_rfl) (by kernel_rfl) ?_
    refine Rg.done (by kernel_rfl) ?_ _
    refine Cd.cond _ (by rfl) (fun h3 => ?_) (fun h3 => ?_)
    · skip
      rw [if_pos (of_decide_eq_true h3)] at hse
      rw [hse]
      refine Cd.seq ?_
      refine Cd.region ?_
      refine Ls.ev (some 4) (Ev.assign (show Oper.op _ = Op.assign (Operand.const (Value.int IntKind.i64 2)) from rfl) (by rfl)) (by rfl) (by rfl) ?_
      refine Ls.nil ?_
      refine Ent.pick [2, 3, 4, 5, 6, 7, 8, 9, 10] (by rfl) (Ent.beMore (G := G) (m := m) (D := D) (S := S) ?_)
      refine Cd.ret ?_
      refine Ent.ret ((S, 2)) (⟨hS.more, rfl, rfl⟩) (Res.tmp (by rfl) (by rfl)) ?_ [0, 1, 2, 3, 4, 5, 6, 7, 8] (by rfl) ?_
      · rfl
      · rfl
    · skip
      rw [if_neg (of_decide_eq_false h3)] at hse
      rw [hse]
      clear hse
      refine Cd.skip ?_
      refine Ent.norm ([(0, .pointer (some ⟨D.b, 0, none⟩)), (3, .pointer (some ⟨g1, 0, none⟩)), (4, .int .i64 0), (5, .pointer (some ⟨g2, 0, none⟩))]) (_) (by repeat (first | exact trivial | refine ⟨by rfl, ?_⟩ | refine ⟨by simp only [List.length_append, List.length_cons, List.length_nil]; rfl, ?_⟩ | refine ⟨by push_cast; rfl, ?_⟩)) (by rfl) ?_
      skip
      refine Cd.drawS [0, 1, 2] [20] (by kernel_rfl) ?_
      refine Rg.ev 0 (by rfl) (fun _ h => h.pick [0, 1, 2] rfl) (Ev.move (show Oper.op _ = Op.move (Operand.tmp 0) from rfl) (by rfl)) (by rfl) (some 45) (by rfl) (by kernel_rfl) (by kernel_rfl) (by kernel_rfl) (by kernel_rfl) ?_
      refine Rg.ev 1 (by rfl) (fun _ h => h.pick [0, 1, 2] rfl) (Ev.nilCheck (show Oper.op _ = Op.nilCheck (Operand.tmp 45) from rfl) (by rfl)) (by rfl) (some 46) (by rfl) (by kernel_rfl) (by kernel_rfl) (by kernel_rfl) (by kernel_rfl) ?_
      refine Rg.ev 2 (by rfl) (fun _ h => h.pick [0, 1, 2] rfl) (Ev.fieldAddr (k := 3) (show Oper.op _ = Op.fieldAddr 75 (Operand.tmp 46) 3 from rfl) (by rfl) (by kernel_rfl) (by rfl)) (by rfl) (some 47) (by rfl) (by kernel_rfl) (by kernel_rfl) (by kernel_rfl) (by kernel_rfl) ?_
      refine Rg.ev 3 (by rfl) (fun _ h => h.pick [0, 1, 2] rfl) (Ev.load 2 (show Oper.op _ = Op.load 72 (Operand.tmp 47) from rfl) (by rfl) (by rfl) (by kernel_rfl) (by rfl)) (by rfl) (some 48) (by rfl) (by kernel_rfl) (by kernel_rfl) (by kernel_rfl) (by kernel_rfl) ?_
      refine Rg.ev 4 (by rfl) (fun _ h => h.pick [0, 1, 2] rfl) (Ev.fieldAddr (k := 1) (show Oper.op _ = Op.fieldAddr 47 (Operand.tmp 3) 1 from rfl) (by rfl) (by kernel_rfl) (by rfl)) (by rfl) (some 49) (by rfl) (by kernel_rfl) (by kernel_rfl) (by kernel_rfl) (by kernel_rfl) ?_
      refine Rg.ev 5 (by rfl) (fun _ h => h.pick [0, 1, 2] rfl) (Ev.load 1 (show Oper.op _ = Op.load 3 (Operand.tmp 49) from rfl) (by rfl) (by rfl) (by kernel_rfl) (by rfl)) (by rfl) (some 50) (by rfl) (by kernel_rfl) (by kernel_rfl) (by kernel_rfl) (by kernel_rfl) ?_
      refine Rg.ev 6 (by rfl) (fun _ h => h.pick [0, 1, 2] rfl) (Ev.move (show Oper.op _ = Op.move (Operand.tmp 0) from rfl) (by rfl)) (by rfl) (some 51) (by rfl) (by kernel_rfl) (by kernel_rfl) (by kernel_rfl) (by kernel_rfl) ?_
      refine Rg.ev 7 (by rfl) (fun _ h => h.pick [0, 1, 2] rfl) (Ev.nilCheck (show Oper.op _ = Op.nilCheck (Operand.tmp 51) from rfl) (by rfl)) (by rfl) (some 52) (by rfl) (by kernel_rfl) (by kernel_rfl) (by kernel_rfl) (by kernel_rfl) ?_
      refine Rg.ev 8 (by rfl) (fun _ h => h.pick [0, 1, 2] rfl) (Ev.fieldAddr (k := 1) (show Oper.op _ = Op.fieldAddr 75 (Operand.tmp 52) 1 from rfl) (by rfl) (by kernel_rfl) (by rfl)) (by rfl) (some 53) (by rfl) (by kernel_rfl) (by kernel_rfl) (by kernel_rfl) (by kernel_rfl) ?_
      refine Rg.ev 9 (by rfl) (fun _ h => h.pick [0, 1, 2] rfl) (Ev.load 2 (show Oper.op _ = Op.load 70 (Operand.tmp 53) from rfl) (by rfl) (by rfl) (by kernel_rfl) (by rfl)) (by rfl) (some 54) (by rfl) (by kernel_rfl) (by kernel_rfl) (by kernel_rfl) (by kernel_rfl) ?_
      refine Rg.ev 10 (by rfl) (fun _ h => h.pick [0, 1, 2] rfl) (Ev.loads 0 (show Oper.op _ = Op.load 69 (Operand.tmp 5) from rfl) (by rfl) (by rfl) (n := 2) (by kernel_rfl) (by rfl) (by rfl)) (by rfl) (some 55) (by rfl) (by kernel_rfl) (by kernel_rfl) (by kernel_rfl) (by kernel_rfl) ?_
      refine Rg.ev 11 (by rfl) (fun _ h => h.pick [0, 1, 2] rfl) (Ev.fieldAddr (k := 2) (show Oper.op _ = Op.fieldAddr 47 (Operand.tmp 3) 2 from rfl) (by rfl) (by kernel_rfl) (by rfl)) (by rfl) (some 56) (by rfl) (by kernel_rfl) (by kernel_rfl) (by kernel_rfl) (by kernel_rfl) ?_
      refine Rg.ev 12 (by rfl) (fun _ h => h.pick [0, 1, 2] rfl) (Ev.load 1 (show Oper.op _ = Op.load 3 (Operand.tmp 56) from rfl) (by rfl) (by rfl) (by kernel_rfl) (by rfl)) (by rfl) (some 57) (by rfl) (by kernel_rfl) (by kernel_rfl) (by kernel_rfl) (by kernel_rfl) ?_
      refine Rg.ev 13 (by rfl) (fun _ h => h.pick [0, 1, 2] rfl) (Ev.fieldAddr (k := 4) (show Oper.op _ = Op.fieldAddr 47 (Operand.tmp 3) 4 from rfl) (by rfl) (by kernel_rfl) (by rfl)) (by rfl) (some 58) (by rfl) (by kernel_rfl) (by kernel_rfl) (by kernel_rfl) (by kernel_rfl) ?_
      refine Rg.ev 14 (by rfl) (fun _ h => h.pick [0, 1, 2] rfl) (Ev.loads 1 (show Oper.op _ = Op.load 43 (Operand.tmp 58) from rfl) (by rfl) (by rfl) (n := 4) (by kernel_rfl) (by rfl) (by rfl)) (by rfl) (some 59) (by rfl) (by kernel_rfl) (by kernel_rfl) (by kernel_rfl) (by kernel_rfl) ?_
      refine Rg.keep 15 (by rfl) (by kernel_rfl) (Does.mapEntry inj_int 6 (show Oper.op _ = Op.mapEntry 72 (Operand.tmp 48) (Operand.tmp 50) from rfl) (by rfl) (by rfl) (by rfl) keyed_int Try.underlying72 (zero_of (by kernel_rfl)) (by omega) hki) (by rfl) (some 60) (by rfl) (fun _ _ h => by have h2 := h.pick [0, 1, 2] (by rfl); exact h2) ?_
      rintro ⟨v1, s1⟩ -
      refine Rg.ev 16 (by rfl) (fun _ h => h.pick [0, 1, 2] rfl) (Ev.extract (show Oper.op _ = Op.extract (Operand.tmp 60) 1 from rfl) (by rfl) (by rfl)) (by rfl) (some 61) (by rfl) (by kernel_rfl) (by kernel_rfl) (by kernel_rfl) (by kernel_rfl) ?_
      refine Rg.keep 17 (by rfl) (by kernel_rfl) (Does.entryStore 6 (show Oper.op _ = Op.entryStore 72 (Operand.tmp 48) (Operand.tmp 61) (Operand.tmp 57) from rfl) (by rfl) (by rfl) (by rfl) (by rfl)) (by rfl) none (by rfl) (fun _ _ h => by have h2 := h.pick [0, 1, 2] (by rfl); exact h2) ?_
      rintro _ -
      refine Rg.keep 18 (by rfl) (by kernel_rfl) (Does.mapEntry ckey_inj 4 (show Oper.op _ = Op.mapEntry 70 (Operand.tmp 54) (Operand.tmp 55) from rfl) (by rfl) (by rfl) (by rfl) keyed_call Try.underlying70 (zero_of (by kernel_rfl)) (by omega) hk) (by rfl) (some 62) (by rfl) (fun _ _ h => by have h2 := h.pick [0, 1, 2] (by rfl); exact h2) ?_
      rintro ⟨v2, s2⟩ -
      refine Rg.ev 19 (by rfl) (fun _ h => h.pick [0, 1, 2] rfl) (Ev.extract (show Oper.op _ = Op.extract (Operand.tmp 62) 1 from rfl) (by rfl) (by rfl)) (by rfl) (some 63) (by rfl) (by kernel_rfl) (by kernel_rfl) (by kernel_rfl) (by kernel_rfl) ?_
      refine Rg.tail 20 [] (by rfl) (by kernel_rfl) (Does.entryStore 4 (show Oper.op _ = Op.entryStore 70 (Operand.tmp 54) (Operand.tmp 63) (Operand.tmp 59) from rfl) (by rfl) (by rfl) (by rfl) (by rfl)) (by rfl) none (by rfl) (by kernel_rfl) (by kernel_rfl) ?_
      rintro _ -
      refine Rg.done (by kernel_rfl) ?_ _
      refine Cd.seq ?_
      refine Cd.region ?_
      refine Ls.ev (some 4) (Ev.assign (show Oper.op _ = Op.assign (Operand.const (Value.int IntKind.i64 0)) from rfl) (by rfl)) (by rfl) (by rfl) ?_
      refine Ls.nil ?_
      refine Ent.mapMore 5 rfl (Nat.le_succ n) ?_
      refine Ent.mapMore 7 rfl (Nat.le_succ n) ?_
      refine Ent.pick [13, 9, 2, 3, 4, 5, 6, 7, 8, 10] (by rfl) ?_
      refine Ent.map (fun w hs => Sat.starf_put (F := fun k : Int × Int => ((S.ask k).getD noC).rt.rd) (G := fun k : Int × Int => (((S.called x.key x.call).ask k).getD noC).rt.rd) (C := x.call.rt.rd) rfl (fun k => S.call_fam) hs) ?_
      refine Ent.norm [(0, .pointer (some ⟨D.b, 0, none⟩)), (4, .int .i64 0)] (starf (fun k : Int × Int => (((S.called x.key x.call).ask k).getD noC).rt.rd) :: [blk D.b 75 (D.vals S.tick S.ticked), blk D.g 95 (S.B.vals G.g), mapA D (n + 1) (S.called x.key x.call), mapD D (n + 1) S, mapL D (n + 1) (S.called x.key x.call), mapN D (n + 1) S, S.B.fam, S.famD]) (by exact ⟨by rfl, by rfl, trivial⟩) (by rw [← S.call_map, ← S.call_last]; rfl) ?_
      refine Cd.ret ?_
      refine Ent.ret ((S.called x.key x.call, 0)) (⟨⟨hS.B, hS.more.ep, S.call_ok hS.ask hx.call, hS.dec⟩, S.call_p, rfl⟩) (Res.tmp (by rfl) (by rfl)) ?_ [1, 2, 3, 4, 5, 6, 7, 0, 8] (by rfl) ?_
      · rfl
      · rfl
  skip
  have h2 := of_decide_eq_false h2
  rw [if_neg h2] at hse
  refine Cd.seq ?_
  refine Cd.region ?_
  refine Ls.ev (some 65) (Ev.eql (show Oper.op _ = Op.binOp BinOp.eql 38 (Operand.tmp 32) (Operand.const (Value.int IntKind.i64 3)) 38 from rfl) (by rfl) (by rfl)) (by rfl) (by rfl) ?_
  refine Ls.ev (some 64) (Ev.assign (show Oper.op _ = Op.assign (Operand.tmp 65) from rfl) (by rfl)) (by rfl) (by rfl) ?_
  refine Ls.nil ?_
  refine Cd.cond _ (by rfl) (fun h3 => ?_) (fun h3 => ?_)
  · skip
    have h3 := of_decide_eq_true h3
    rw [if_pos h3] at hse
    rw [hse]
    refine Cd.seq ?_
    refine Cd.region ?_
    refine Ls.ev (some 66) (Ev.move (show Oper.op _ = Op.move (Operand.tmp 0) from rfl) (by rfl)) (by rfl) (by rfl) ?_
    refine Ls.ev (some 67) (Ev.loads 0 (show Oper.op _ = Op.load 69 (Operand.tmp 5) from rfl) (by rfl) (by rfl) (n := 2) (by kernel_rfl) (by rfl) (by rfl)) (by rfl) (by rfl) ?_
    refine Ls.ev (some 68) (Ev.loads 1 (show Oper.op _ = Op.load 47 (Operand.tmp 3) from rfl) (by rfl) (by rfl) (n := 12) (by kernel_rfl) (by rfl) (by rfl)) (by rfl) (by rfl) ?_
    refine Ls.does (some 69) (Does.call [2, 3, 4, 5, 6, 7, 8, 9, 10, 11, 12, 14] (show Oper.op _ = Op.call { callee := Callee.value (Operand.func 27), args := #[Operand.tmp 66, Operand.tmp 67, Operand.tmp 68], argTypes := #[54, 69, 47] } from rfl) Try.func27 (by kernel_rfl) (by kernel_rfl) (decide_sl G m hm D n hn S hS x hx) (by rfl) (by rfl) (by rfl)) (by rfl) (by rfl) ?_
    rintro ⟨S', r⟩ ⟨hS', hp, hr⟩
    refine Ls.ev (some 4) (Ev.assign (show Oper.op _ = Op.assign (Operand.tmp 69) from rfl) (by rfl)) (by rfl) (by rfl) ?_
    refine Ls.nil ?_
    refine Cd.ret ?_
    refine Ent.ret ((S', r)) (⟨hS', hp, hr⟩) (Res.tmp (by rfl) (by rfl)) ?_ [0, 1, 2, 3, 4, 5, 6, 7, 8] (by rfl) ?_
    · rfl
    · rfl
  skip
  have h3 := of_decide_eq_false h3
  rw [if_neg h3] at hse
  refine Cd.seq ?_
  refine Cd.region ?_
  refine Ls.ev (some 71) (Ev.eql (show Oper.op _ = Op.binOp BinOp.eql 38 (Operand.tmp 32) (Operand.const (Value.int IntKind.i64 2)) 38 from rfl) (by rfl) (by rfl)) (by rfl) (by rfl) ?_
  refine Ls.ev (some 70) (Ev.assign (show Oper.op _ = Op.assign (Operand.tmp 71) from rfl) (by rfl)) (by rfl) (by rfl) ?_
  refine Ls.nil ?_
  refine Cd.cond _ (by rfl) (fun h4 => ?_) (fun h4 => ?_)
  · skip
    have h4 := of_decide_eq_true h4
    rw [if_pos h4] at hse
    rw [hse]
    clear hse
    have han : ansP S.p x.p = if x.id ≠ (S.last x.robot).getD 0 ∨ (S.ask x.key).isSome = false ∨ (S.ans x.key).getD 0 ≠ 0 then (S.p, 5)
        else if (x.reply.code = 0 ∧ (S.dec x.key).map RepS.p ≠ some x.reply.p) ∨ (x.reply.code ≠ 0 ∧ (S.dec x.key).isSome = true) then (S.p, 6)
        else ({ S.p with ans := upd S.p.ans x.key true }, 0) := S.ans_eq x
    refine Cd.seq ?_
    refine Cd.seq ?_
    refine Cd.cut (ι := Unit) (fun _ => [(0, .pointer (some ⟨D.b, 0, none⟩)), (3, .pointer (some ⟨g1, 0, none⟩)), (4, .int .i64 0), (5, .pointer (some ⟨g2, 0, none⟩)), (96, .bool (decide (x.id ≠ (S.last x.robot).getD 0 ∨ (S.ask x.key).isSome = false ∨ (S.ans x.key).getD 0 ≠ 0)))]) (fun _ => [blk g2 69 [.int .i64 x.robot, .int .i64 x.id], blk g1 47 x.enc, blk D.b 75 (D.vals S.tick S.ticked), blk D.g 95 (S.B.vals G.g), mapA D n S, mapD D n S, mapL D n S, mapN D n S, S.B.fam, S.famA, S.famD, G.b m, G.r m, x.call.rt.rd, x.reply.rt.rd]) (fun _ => True) ?_ ?_
    · skip
      refine Cd.draw [] (by kernel_rfl) ?_
      refine Rg.ev 0 (by rfl) (fun _ h => h) (Ev.fieldAddr (k := 2) (show Oper.op _ = Op.fieldAddr 47 (Operand.tmp 3) 2 from rfl) (by rfl) (by kernel_rfl) (by rfl)) (by rfl) (some 72) (by rfl) (by kernel_rfl) (by kernel_rfl) (by kernel_rfl) (by kernel_rfl) ?_
      refine Rg.ev 1 (by rfl) (fun _ h => h) (Ev.load 1 (show Oper.op _ = Op.load 3 (Operand.tmp 72) from rfl) (by rfl) (by rfl) (by kernel_rfl) (by rfl)) (by rfl) (some 73) (by rfl) (by kernel_rfl) (by kernel_rfl) (by kernel_rfl) (by kernel_rfl) ?_
      refine Rg.ev 2 (by rfl) (fun _ h => h) (Ev.move (show Oper.op _ = Op.move (Operand.tmp 0) from rfl) (by rfl)) (by rfl) (some 74) (by rfl) (by kernel_rfl) (by kernel_rfl) (by kernel_rfl) (by kernel_rfl) ?_
      refine Rg.ev 3 (by rfl) (fun _ h => h) (Ev.nilCheck (show Oper.op _ = Op.nilCheck (Operand.tmp 74) from rfl) (by rfl)) (by rfl) (some 75) (by rfl) (by kernel_rfl) (by kernel_rfl) (by kernel_rfl) (by kernel_rfl) ?_
      refine Rg.ev 4 (by rfl) (fun _ h => h) (Ev.fieldAddr (k := 3) (show Oper.op _ = Op.fieldAddr 75 (Operand.tmp 75) 3 from rfl) (by rfl) (by kernel_rfl) (by rfl)) (by rfl) (some 76) (by rfl) (by kernel_rfl) (by kernel_rfl) (by kernel_rfl) (by kernel_rfl) ?_
      refine Rg.ev 5 (by rfl) (fun _ h => h) (Ev.load 2 (show Oper.op _ = Op.load 72 (Operand.tmp 76) from rfl) (by rfl) (by rfl) (by kernel_rfl) (by rfl)) (by rfl) (some 77) (by rfl) (by kernel_rfl) (by kernel_rfl) (by kernel_rfl) (by kernel_rfl) ?_
      refine Rg.ev 6 (by rfl) (fun _ h => h) (Ev.fieldAddr (k := 1) (show Oper.op _ = Op.fieldAddr 47 (Operand.tmp 3) 1 from rfl) (by rfl) (by kernel_rfl) (by rfl)) (by rfl) (some 78) (by rfl) (by kernel_rfl) (by kernel_rfl) (by kernel_rfl) (by kernel_rfl) ?_
      refine Rg.ev 7 (by rfl) (fun _ h => h) (Ev.load 1 (show Oper.op _ = Op.load 3 (Operand.tmp 78) from rfl) (by rfl) (by rfl) (by kernel_rfl) (by rfl)) (by rfl) (some 79) (by rfl) (by kernel_rfl) (by kernel_rfl) (by kernel_rfl) (by kernel_rfl) ?_
      refine Rg.ev 8 (by rfl) (fun _ h => h) (Ev.to (Ev.lookO 6 (show Oper.op _ = Op.lookup 72 (Operand.tmp 77) (Operand.tmp 79) false from rfl) (by rfl) (by rfl) (by rfl) keyed_int Try.underlying72 (zero_of (by kernel_rfl)) hki) (S.last_get x.robot)) (by rfl) (some 80) (by rfl) (by kernel_rfl) (by kernel_rfl) (by kernel_rfl) (by kernel_rfl) ?_
      refine Rg.ev 9 (by rfl) (fun _ h => h) (Ev.neq (show Oper.op _ = Op.binOp BinOp.neq 3 (Operand.tmp 73) (Operand.tmp 80) 3 from rfl) (by rfl) (by rfl)) (by rfl) (some 81) (by rfl) (by kernel_rfl) (by kernel_rfl) (by kernel_rfl) (by kernel_rfl) ?_
      refine Rg.ev 10 (by rfl) (fun _ h => h) (Ev.move (show Oper.op _ = Op.move (Operand.tmp 81) from rfl) (by rfl)) (by rfl) (some 82) (by rfl) (by kernel_rfl) (by kernel_rfl) (by kernel_rfl) (by kernel_rfl) ?_
      refine Ent.split 82 (by rfl) (fun e1 => ?_) (fun e1 => ?_)
      · skip
        have e1 := of_decide_eq_false e1
        refine Rg.ev 11 (by rfl) (fun _ h => h) (Ev.move (show Oper.op _ = Op.move (Operand.tmp 0) from rfl) (by rfl)) (by rfl) (some 83) (by rfl) (by kernel_rfl) (by kernel_rfl) (by kernel_rfl) (by kernel_rfl) ?_
        refine Rg.ev 12 (by rfl) (fun _ h => h) (Ev.loads 0 (show Oper.op _ = Op.load 69 (Operand.tmp 5) from rfl) (by rfl) (by rfl) (n := 2) (by kernel_rfl) (by rfl) (by rfl)) (by rfl) (some 84) (by rfl) (by kernel_rfl) (by kernel_rfl) (by kernel_rfl) (by kernel_rfl) ?_
        refine Rg.does 13 (by rfl) (by kernel_rfl) (Does.read (show Oper.op _ = Op.call { callee := Callee.value (Operand.func 22), args := #[Operand.tmp 83, Operand.tmp 84], argTypes := #[54, 69] } from rfl) Try.func22 (by kernel_rfl) (by kernel_rfl) (hhas) (by rfl) (by rfl) ⟨blkIn 2 (by rfl), mapoIn 4 (by rfl), trivial⟩) (by rfl) (some 85) (by rfl) (by exact fun _ _ h => h) ?_
        rintro _ -
        refine Rg.ev 14 (by rfl) (fun _ h => h) (Ev.not (show Oper.op _ = Op.unOp UnOp.not 4 (Operand.tmp 85) from rfl) (by rfl)) (by rfl) (some 86) (by rfl) (by kernel_rfl) (by kernel_rfl) (by kernel_rfl) (by kernel_rfl) ?_
        refine Rg.ev 15 (by rfl) (fun _ h => h) (Ev.pickF (show Oper.op _ = Op.pick (Operand.tmp 82) (Operand.const (Value.bool true)) (Operand.tmp 86) from rfl) (by rfl) (by rfl)) (by rfl) (some 87) (by rfl) (by kernel_rfl) (by kernel_rfl) (by kernel_rfl) (by kernel_rfl) ?_
        refine Rg.ev 16 (by rfl) (fun _ h => h) (Ev.move (show Oper.op _ = Op.move (Operand.tmp 87) from rfl) (by rfl)) (by rfl) (some 88) (by rfl) (by kernel_rfl) (by kernel_rfl) (by kernel_rfl) (by kernel_rfl) ?_
        refine Ent.split 88 (by rfl) (fun e2 => ?_) (fun e2 => ?_)
        · skip
          refine Rg.ev 17 (by rfl) (fun _ h => h) (Ev.move (show Oper.op _ = Op.move (Operand.tmp 0) from rfl) (by rfl)) (by rfl) (some 89) (by rfl) (by kernel_rfl) (by kernel_rfl) (by kernel_rfl) (by kernel_rfl) ?_
          refine Rg.ev 18 (by rfl) (fun _ h => h) (Ev.nilCheck (show Oper.op _ = Op.nilCheck (Operand.tmp 89) from rfl) (by rfl)) (by rfl) (some 90) (by rfl) (by kernel_rfl) (by kernel_rfl) (by kernel_rfl) (by kernel_rfl) ?_
          refine Rg.ev 19 (by rfl) (fun _ h => h) (Ev.fieldAddr (k := 4) (show Oper.op _ = Op.fieldAddr 75 (Operand.tmp 90) 4 from rfl) (by rfl) (by kernel_rfl) (by rfl)) (by rfl) (some 91) (by rfl) (by kernel_rfl) (by kernel_rfl) (by kernel_rfl) (by kernel_rfl) ?_
          refine Rg.ev 20 (by rfl) (fun _ h => h) (Ev.load 2 (show Oper.op _ = Op.load 73 (Operand.tmp 91) from rfl) (by rfl) (by rfl) (by kernel_rfl) (by rfl)) (by rfl) (some 92) (by rfl) (by kernel_rfl) (by kernel_rfl) (by kernel_rfl) (by kernel_rfl) ?_
          refine Rg.ev 21 (by rfl) (fun _ h => h) (Ev.loads 0 (show Oper.op _ = Op.load 69 (Operand.tmp 5) from rfl) (by rfl) (by rfl) (n := 2) (by kernel_rfl) (by rfl) (by rfl)) (by rfl) (some 93) (by rfl) (by kernel_rfl) (by kernel_rfl) (by kernel_rfl) (by kernel_rfl) ?_
          refine Rg.ev 22 (by rfl) (fun _ h => h) (Ev.to (Ev.lookO 7 (show Oper.op _ = Op.lookup 73 (Operand.tmp 92) (Operand.tmp 93) false from rfl) (by rfl) (by rfl) (by rfl) keyed_call Try.underlying73 (zero_of (by kernel_rfl)) hk) (S.ans_get x.key)) (by rfl) (some 94) (by rfl) (by kernel_rfl) (by kernel_rfl) (by kernel_rfl) (by kernel_rfl) ?_
          refine Rg.ev 23 (by rfl) (fun _ h => h) (Ev.neq (show Oper.op _ = Op.binOp BinOp.neq 3 (Operand.tmp 94) (Operand.const (Value.int IntKind.i64 0)) 3 from rfl) (by rfl) (by rfl)) (by rfl) (some 95) (by rfl) (by kernel_rfl) (by kernel_rfl) (by kernel_rfl) (by kernel_rfl) ?_
          refine Rg.ev 24 (by rfl) (fun _ h => h) (Ev.pickF (show Oper.op _ = Op.pick (Operand.tmp 88) (Operand.const (Value.bool true)) (Operand.tmp 95) from rfl) (by rfl) (by rfl)) (by rfl) (some 96) (by rfl) (by kernel_rfl) (by kernel_rfl) (by kernel_rfl) (by kernel_rfl) ?_
          refine Rg.done (by kernel_rfl) ?_ _
          refine Ent.inv (()) ?_ ?_ ?_
          · (try dsimp only); skip
          · (repeat (first | exact trivial | refine ⟨by rfl, ?_⟩ | refine ⟨by simp only [List.length_append, List.length_cons, List.length_nil]; rfl, ?_⟩ | refine ⟨by push_cast; rfl, ?_⟩ | refine ⟨by exact congrArg (fun b => some (Value.bool b)) (or3_c e1 e2), ?_⟩))
          · rfl
        · skip
          refine Rg.pass 17 (by rfl) (fun _ h => h) (by rfl) (some 89) (by rfl) (by kernel_rfl) (by kernel_rfl) (by kernel_rfl) (by kernel_rfl) ?_
          refine Rg.pass 18 (by rfl) (fun _ h => h) (by rfl) (some 90) (by rfl) (by kernel_rfl) (by kernel_rfl) (by kernel_rfl) (by kernel_rfl) ?_
          refine Rg.pass 19 (by rfl) (fun _ h => h) (by rfl) (some 91) (by rfl) (by kernel_rfl) (by kernel_rfl) (by kernel_rfl) (by kernel_rfl) ?_
          refine Rg.pass 20 (by rfl) (fun _ h => h) (by rfl) (some 92) (by rfl) (by kernel_rfl) (by kernel_rfl) (by kernel_rfl) (by kernel_rfl) ?_
          refine Rg.pass 21 (by rfl) (fun _ h => h) (by rfl) (some 93) (by rfl) (by kernel_rfl) (by kernel_rfl) (by kernel_rfl) (by kernel_rfl) ?_
          refine Rg.pass 22 (by rfl) (fun _ h => h) (by rfl) (some 94) (by rfl) (by kernel_rfl) (by kernel_rfl) (by kernel_rfl) (by kernel_rfl) ?_
          refine Rg.pass 23 (by rfl) (fun _ h => h) (by rfl) (some 95) (by rfl) (by kernel_rfl) (by kernel_rfl) (by kernel_rfl) (by kernel_rfl) ?_
          refine Rg.ev 24 (by rfl) (fun _ h => h) (Ev.pickT (show Oper.op _ = Op.pick (Operand.tmp 88) (Operand.const (Value.bool true)) (Operand.tmp 95) from rfl) (by rfl) (by rfl)) (by rfl) (some 96) (by rfl) (by kernel_rfl) (by kernel_rfl) (by kernel_rfl) (by kernel_rfl) ?_
          refine Rg.done (by kernel_rfl) ?_ _
          refine Ent.inv (()) ?_ ?_ ?_
          · (try dsimp only); skip
          · (repeat (first | exact trivial | refine ⟨by rfl, ?_⟩ | refine ⟨by simp only [List.length_append, List.length_cons, List.length_nil]; rfl, ?_⟩ | refine ⟨by push_cast; rfl, ?_⟩ | refine ⟨by exact congrArg (fun b => some (Value.bool b)) (or3_b e2), ?_⟩))
          · rfl
      · skip
        refine Rg.pass 11 (by rfl) (fun _ h => h) (by rfl) (some 83) (by rfl) (by kernel_rfl) (by kernel_rfl) (by kernel_rfl) (by kernel_rfl) ?_
        refine Rg.pass 12 (by rfl) (fun _ h => h) (by rfl) (some 84) (by rfl) (by kernel_rfl) (by kernel_rfl) (by kernel_rfl) (by kernel_rfl) ?_
        refine Rg.pass 13 (by rfl) (fun _ h => h) (by rfl) (some 85) (by rfl) (by kernel_rfl) (by kernel_rfl) (by kernel_rfl) (by kernel_rfl) ?_
        refine Rg.pass 14 (by rfl) (fun _ h => h) (by rfl) (some 86) (by rfl) (by kernel_rfl) (by kernel_rfl) (by kernel_rfl) (by kernel_rfl) ?_
        refine Rg.ev 15 (by rfl) (fun _ h => h) (Ev.pickT (show Oper.op _ = Op.pick (Operand.tmp 82) (Operand.const (Value.bool true)) (Operand.tmp 86) from rfl) (by rfl) (by rfl)) (by rfl) (some 87) (by rfl) (by kernel_rfl) (by kernel_rfl) (by kernel_rfl) (by kernel_rfl) ?_
        refine Rg.ev 16 (by rfl) (fun _ h => h) (Ev.move (show Oper.op _ = Op.move (Operand.tmp 87) from rfl) (by rfl)) (by rfl) (some 88) (by rfl) (by kernel_rfl) (by kernel_rfl) (by kernel_rfl) (by kernel_rfl) ?_
        refine Rg.pass 17 (by rfl) (fun _ h => h) (by rfl) (some 89) (by rfl) (by kernel_rfl) (by kernel_rfl) (by kernel_rfl) (by kernel_rfl) ?_
        refine Rg.pass 18 (by rfl) (fun _ h => h) (by rfl) (some 90) (by rfl) (by kernel_rfl) (by kernel_rfl) (by kernel_rfl) (by kernel_rfl) ?_
        refine Rg.pass 19 (by rfl) (fun _ h => h) (by rfl) (some 91) (by rfl) (by kernel_rfl) (by kernel_rfl) (by kernel_rfl) (by kernel_rfl) ?_
        refine Rg.pass 20 (by rfl) (fun _ h => h) (by rfl) (some 92) (by rfl) (by kernel_rfl) (by kernel_rfl) (by kernel_rfl) (by kernel_rfl) ?_
        refine Rg.pass 21 (by rfl) (fun _ h => h) (by rfl) (some 93) (by rfl) (by kernel_rfl) (by kernel_rfl) (by kernel_rfl) (by kernel_rfl) ?_
        refine Rg.pass 22 (by rfl) (fun _ h => h) (by rfl) (some 94) (by rfl) (by kernel_rfl) (by kernel_rfl) (by kernel_rfl) (by kernel_rfl) ?_
        refine Rg.pass 23 (by rfl) (fun _ h => h) (by rfl) (some 95) (by rfl) (by kernel_rfl) (by kernel_rfl) (by kernel_rfl) (by kernel_rfl) ?_
        refine Rg.ev 24 (by rfl) (fun _ h => h) (Ev.pickT (show Oper.op _ = Op.pick (Operand.tmp 88) (Operand.const (Value.bool true)) (Operand.tmp 95) from rfl) (by rfl) (by rfl)) (by rfl) (some 96) (by rfl) (by kernel_rfl) (by kernel_rfl) (by kernel_rfl) (by kernel_rfl) ?_
        refine Rg.done (by kernel_rfl) ?_ _
        skip
        refine Ent.inv (()) ?_ ?_ ?_
        · (try dsimp only); skip
        · (repeat (first | exact trivial | refine ⟨by rfl, ?_⟩ | refine ⟨by simp only [List.length_append, List.length_cons, List.length_nil]; rfl, ?_⟩ | refine ⟨by push_cast; rfl, ?_⟩ | refine ⟨by exact congrArg (fun b => some (Value.bool b)) (or3_a e1), ?_⟩))
        · rfl
    skip
    rintro _ -
    refine Cd.cond _ (by rfl) (fun h6 => ?_) (fun h6 => ?_)
    · skip
      rw [if_pos (of_decide_eq_true h6)] at han
      rw [han]
      refine Cd.seq ?_
      refine Cd.region ?_
      refine Ls.ev (some 4) (Ev.assign (show Oper.op _ = Op.assign (Operand.const (Value.int IntKind.i64 5)) from rfl) (by rfl)) (by rfl) (by rfl) ?_
      refine Ls.nil ?_
      refine Ent.pick [2, 3, 4, 5, 6, 7, 8, 9, 10] (by rfl) (Ent.beMore (G := G) (m := m) (D := D) (S := S) ?_)
      refine Cd.ret ?_
      refine Ent.ret ((S, 5)) (⟨hS.more, rfl, rfl⟩) (Res.tmp (by rfl) (by rfl)) ?_ [0, 1, 2, 3, 4, 5, 6, 7, 8] (by rfl) ?_
      · rfl
      · rfl
    skip
    rw [if_neg (of_decide_eq_false h6)] at han
    rw [han]
    clear han
    have hdl : ((S.dec x.key).getD noRp).rt.l.length ≤ 1048576 := by
      cases hd : S.dec x.key with
      | none => exact Nat.zero_le _
      | some d => exact Nat.le_trans (hS.dec _ _ hd) (by decide)
    have hq := same_sl ((S.dec x.key).getD noRp) x.reply hdl
    refine Cd.skip ?_
    refine Cd.seq ?_
    refine Cd.draw [10] (by kernel_rfl) ?_
    refine Rg.ev 0 (by rfl) (fun _ h => h) (Ev.move (show Oper.op _ = Op.move (Operand.tmp 0) from rfl) (by rfl)) (by rfl) (some 98) (by rfl) (by kernel_rfl) (by kernel_rfl) (by kernel_rfl) (by kernel_rfl) ?_
    refine Rg.ev 1 (by rfl) (fun _ h => h) (Ev.nilCheck (show Oper.op _ = Op.nilCheck (Operand.tmp 98) from rfl) (by rfl)) (by rfl) (some 99) (by rfl) (by kernel_rfl) (by kernel_rfl) (by kernel_rfl) (by kernel_rfl) ?_
    refine Rg.ev 2 (by rfl) (fun _ h => h) (Ev.fieldAddr (k := 2) (show Oper.op _ = Op.fieldAddr 75 (Operand.tmp 99) 2 from rfl) (by rfl) (by kernel_rfl) (by rfl)) (by rfl) (some 100) (by rfl) (by kernel_rfl) (by kernel_rfl) (by kernel_rfl) (by kernel_rfl) ?_
    refine Rg.ev 3 (by rfl) (fun _ h => h) (Ev.load 2 (show Oper.op _ = Op.load 71 (Operand.tmp 100) from rfl) (by rfl) (by rfl) (by kernel_rfl) (by rfl)) (by rfl) (some 101) (by rfl) (by kernel_rfl) (by kernel_rfl) (by kernel_rfl) (by kernel_rfl) ?_
    refine Rg.ev 4 (by rfl) (fun _ h => h) (Ev.loads 0 (show Oper.op _ = Op.load 69 (Operand.tmp 5) from rfl) (by rfl) (by rfl) (n := 2) (by kernel_rfl) (by rfl) (by rfl)) (by rfl) (some 102) (by rfl) (by kernel_rfl) (by kernel_rfl) (by kernel_rfl) (by kernel_rfl) ?_
    refine Rg.ev 5 (by rfl) (fun _ h => h) (Ev.to (Ev.lookOk 5 (show Oper.op _ = Op.lookup 71 (Operand.tmp 101) (Operand.tmp 102) true from rfl) (by rfl) (by rfl) (by rfl) keyed_call Try.underlying71 (zero_of (by kernel_rfl)) hk) (S.dec_get x.key)) (by rfl) (some 103) (by rfl) (by kernel_rfl) (by kernel_rfl) (by kernel_rfl) (by kernel_rfl) ?_
    refine Rg.ev 6 (by rfl) (fun _ h => h) (Ev.move (show Oper.op _ = Op.move (Operand.tmp 103) from rfl) (by rfl)) (by rfl) (some 97) (by rfl) (by kernel_rfl) (by kernel_rfl) (by kernel_rfl) (by kernel_rfl) ?_
    refine Rg.ev 7 (by rfl) (fun _ h => h) (Ev.extract (show Oper.op _ = Op.extract (Operand.tmp 97) 0 from rfl) (by rfl) (by rfl)) (by rfl) (some 104) (by rfl) (by kernel_rfl) (by kernel_rfl) (by kernel_rfl) (by kernel_rfl) ?_
    refine Rg.pv 8 (by rfl) (fun _ h => h) (fun _ => Ev.extract (show Oper.op _ = Op.extract (Operand.tmp 97) 1 from rfl) (by rfl) (by rfl)) (by rfl) (some 105) (by rfl) (by kernel_rfl) (by kernel_rfl) (by kernel_rfl) (by kernel_rfl) ?_
    refine Rg.does 9 (by rfl) (by kernel_rfl) (Does.alloc (cs := [.int .i64 0, .int .i64 0, .int .i64 0, .slice none 0 0]) (show Oper.op _ = Op.alloc 45 from rfl) (ZeroIs.mk (.agg #[.int .i64 0, .int .i64 0, .int .i64 0, .slice none 0 0]) (by kernel_rfl) (by rfl))) (by rfl) (some 6) (by rfl) (fun _ _ h => h.tail_) ?_
    intro g3 _
    refine Rg.tail 10 [] (by rfl) (by kernel_rfl) (Does.store 0 (show Oper.op _ = Op.store 45 (Operand.tmp 6) (Operand.tmp 104) from rfl) (by rfl) (by rfl) (by rfl) (by kernel_rfl) (by rfl) (by kernel_rfl) (by rfl)) (by rfl) none (by rfl) (by kernel_rfl) (by kernel_rfl) ?_
    intro _ _
    refine Rg.ev 11 (by rfl) (fun _ h => h) (Ev.assign (show Oper.op _ = Op.assign (Operand.tmp 105) from rfl) (by rfl)) (by rfl) (some 7) (by rfl) (by kernel_rfl) (by kernel_rfl) (by kernel_rfl) (by kernel_rfl) ?_
    refine Rg.done (by kernel_rfl) ?_ _
    refine Cd.seq ?_
    refine Cd.seq ?_
    refine Ent.map (fun w hs => hs.starf_get 11 x.key rfl) ?_
    refine Ent.norm ([(0, .pointer (some ⟨D.b, 0, none⟩)), (3, .pointer (some ⟨g1, 0, none⟩)), (4, .int .i64 0), (5, .pointer (some ⟨g2, 0, none⟩)), (6, .pointer (some ⟨g3, 0, none⟩)), (7, .bool (S.dec x.key).isSome)]) ([((S.dec x.key).getD noRp).rt.rd, blk g3 45 ((S.dec x.key).getD noRp).enc, blk g2 69 [.int .i64 x.robot, .int .i64 x.id], blk g1 47 x.enc, blk D.b 75 (D.vals S.tick S.ticked), blk D.g 95 (S.B.vals G.g), mapA D n S, mapD D n S, mapL D n S, mapN D n S, S.B.fam, S.famA, S.famD, G.b m, G.r m, x.call.rt.rd, x.reply.rt.rd]) (by repeat (first | exact trivial | refine ⟨by rfl, ?_⟩ | refine ⟨by simp only [List.length_append, List.length_cons, List.length_nil]; rfl, ?_⟩ | refine ⟨by push_cast; rfl, ?_⟩)) (by rfl) ?_
    refine Cd.cut (ι := Unit) (fun _ => [(0, .pointer (some ⟨D.b, 0, none⟩)), (3, .pointer (some ⟨g1, 0, none⟩)), (4, .int .i64 0), (5, .pointer (some ⟨g2, 0, none⟩)), (6, .pointer (some ⟨g3, 0, none⟩)), (129, .bool (decide ((x.reply.code = 0 ∧ (S.dec x.key).map RepS.p ≠ some x.reply.p) ∨ (x.reply.code ≠ 0 ∧ (S.dec x.key).isSome = true))))]) (fun _ => [((S.dec x.key).getD noRp).rt.rd, blk g3 45 ((S.dec x.key).getD noRp).enc, blk g2 69 [.int .i64 x.robot, .int .i64 x.id], blk g1 47 x.enc, blk D.b 75 (D.vals S.tick S.ticked), blk D.g 95 (S.B.vals G.g), mapA D n S, mapD D n S, mapL D n S, mapN D n S, S.B.fam, S.famA, S.famD, G.b m, G.r m, x.call.rt.rd, x.reply.rt.rd]) (fun _ => True) ?_ ?_
    · skip
      refine Cd.region ?_
      refine Ls.ev (some 106) (Ev.fieldAddr (k := 8) (show Oper.op _ = Op.fieldAddr 47 (Operand.tmp 3) 5 from rfl) (by rfl) (by kernel_rfl) (by rfl)) (by rfl) (by rfl) ?_
      refine Ls.ev (some 107) (Ev.fieldAddr (k := 0) (show Oper.op _ = Op.fieldAddr 45 (Operand.tmp 106) 0 from rfl) (by rfl) (by kernel_rfl) (by rfl)) (by rfl) (by rfl) ?_
      refine Ls.ev (some 108) (Ev.load 3 (show Oper.op _ = Op.load 30 (Operand.tmp 107) from rfl) (by rfl) (by rfl) (by kernel_rfl) (by rfl)) (by rfl) (by rfl) ?_
      refine Ls.ev (some 109) (Ev.eql (show Oper.op _ = Op.binOp BinOp.eql 30 (Operand.tmp 108) (Operand.const (Value.int IntKind.i64 0)) 30 from rfl) (by rfl) (by rfl)) (by rfl) (by rfl) ?_
      refine Ls.ev (some 110) (Ev.move (show Oper.op _ = Op.move (Operand.tmp 109) from rfl) (by rfl)) (by rfl) (by rfl) ?_
      refine Ent.split 110 (by rfl) (fun c1 => ?_) (fun c1 => ?_)
      · skip
        refine Ls.pass (some 111) (by rfl) (by rfl) ?_
        refine Ls.pass (some 112) (by rfl) (by rfl) ?_
        refine Ls.pass (some 113) (by rfl) (by rfl) ?_
        refine Ls.pass (some 114) (by rfl) (by rfl) ?_
        refine Ls.pass (some 115) (by rfl) (by rfl) ?_
        refine Ls.pass (some 116) (by rfl) (by rfl) ?_
        refine Ls.pass (some 117) (by rfl) (by rfl) ?_
        refine Ls.pass (some 118) (by rfl) (by rfl) ?_
        refine Ls.pass (some 119) (by rfl) (by rfl) ?_
        refine Ls.ev (some 120) (Ev.pickF (show Oper.op _ = Op.pick (Operand.tmp 110) (Operand.tmp 119) (Operand.const (Value.bool false)) from rfl) (by rfl) (by rfl)) (by rfl) (by rfl) ?_
        refine Ls.ev (some 121) (Ev.move (show Oper.op _ = Op.move (Operand.tmp 120) from rfl) (by rfl)) (by rfl) (by rfl) ?_
        refine Ls.ev (some 122) (Ev.fieldAddr (k := 8) (show Oper.op _ = Op.fieldAddr 47 (Operand.tmp 3) 5 from rfl) (by rfl) (by kernel_rfl) (by rfl)) (by rfl) (by rfl) ?_
        refine Ls.ev (some 123) (Ev.fieldAddr (k := 0) (show Oper.op _ = Op.fieldAddr 45 (Operand.tmp 122) 0 from rfl) (by rfl) (by kernel_rfl) (by rfl)) (by rfl) (by rfl) ?_
        refine Ls.ev (some 124) (Ev.load 3 (show Oper.op _ = Op.load 30 (Operand.tmp 123) from rfl) (by rfl) (by rfl) (by kernel_rfl) (by rfl)) (by rfl) (by rfl) ?_
        refine Ls.ev (some 125) (Ev.neq (show Oper.op _ = Op.binOp BinOp.neq 30 (Operand.tmp 124) (Operand.const (Value.int IntKind.i64 0)) 30 from rfl) (by rfl) (by rfl)) (by rfl) (by rfl) ?_
        refine Ls.ev (some 126) (Ev.move (show Oper.op _ = Op.move (Operand.tmp 125) from rfl) (by rfl)) (by rfl) (by rfl) ?_
        refine Ent.split 126 (by rfl) (fun c2 => ?_) (fun c2 => ?_)
        · skip
          exact absurd (of_decide_eq_false c1) (of_decide_eq_false c2)
        · skip
          refine Ls.ev (some 127) (Ev.move (show Oper.op _ = Op.move (Operand.tmp 7) from rfl) (by rfl)) (by rfl) (by rfl) ?_
          refine Ls.ev (some 128) (Ev.pickT (show Oper.op _ = Op.pick (Operand.tmp 126) (Operand.tmp 127) (Operand.const (Value.bool false)) from rfl) (by rfl) (by rfl)) (by rfl) (by rfl) ?_
          refine Ls.ev (some 129) (Ev.pickF (show Oper.op _ = Op.pick (Operand.tmp 121) (Operand.const (Value.bool true)) (Operand.tmp 128) from rfl) (by rfl) (by rfl)) (by rfl) (by rfl) ?_
          refine Ls.nil ?_
          refine Ent.inv (()) ?_ ?_ ?_
          · (try dsimp only); skip
          · (repeat (first | exact trivial | refine ⟨by rfl, ?_⟩ | refine ⟨by simp only [List.length_append, List.length_cons, List.length_nil]; rfl, ?_⟩ | refine ⟨by push_cast; rfl, ?_⟩ | refine ⟨by exact congrArg (fun b => some (Value.bool b)) (rep_a (of_decide_eq_false c1)), ?_⟩))
          · rfl
      · skip
        refine Ls.ev (some 111) (Ev.move (show Oper.op _ = Op.move (Operand.tmp 7) from rfl) (by rfl)) (by rfl) (by rfl) ?_
        refine Ls.ev (some 112) (Ev.not (show Oper.op _ = Op.unOp UnOp.not 4 (Operand.tmp 111) from rfl) (by rfl)) (by rfl) (by rfl) ?_
        refine Ls.ev (some 113) (Ev.move (show Oper.op _ = Op.move (Operand.tmp 112) from rfl) (by rfl)) (by rfl) (by rfl) ?_
        refine Ent.split 113 (by rfl) (fun c3 => ?_) (fun c3 => ?_)
        · skip
          refine Ls.ev (some 114) (Ev.loads 1 (show Oper.op _ = Op.load 45 (Operand.tmp 6) from rfl) (by rfl) (by rfl) (n := 4) (by kernel_rfl) (by rfl) (by rfl)) (by rfl) (by rfl) ?_
          refine Ls.ev (some 115) (Ev.fieldAddr (k := 8) (show Oper.op _ = Op.fieldAddr 47 (Operand.tmp 3) 5 from rfl) (by rfl) (by kernel_rfl) (by rfl)) (by rfl) (by rfl) ?_
          refine Ls.ev (some 116) (Ev.loads 3 (show Oper.op _ = Op.load 45 (Operand.tmp 115) from rfl) (by rfl) (by rfl) (n := 4) (by kernel_rfl) (by rfl) (by rfl)) (by rfl) (by rfl) ?_
          refine Ls.does (some 117) (Does.read (show Oper.op _ = Op.call { callee := Callee.value (Operand.func 28), args := #[Operand.tmp 114, Operand.tmp 116], argTypes := #[45, 45] } from rfl) Try.func28 (by kernel_rfl) (by kernel_rfl) (hq) (by rfl) (by rfl) ⟨ReadsIn.rd 0 (by rfl), ReadsIn.rd 16 (by rfl), trivial⟩) (by rfl) (by rfl) ?_
          rintro _ -
          refine Ls.ev (some 118) (Ev.not (show Oper.op _ = Op.unOp UnOp.not 4 (Operand.tmp 117) from rfl) (by rfl)) (by rfl) (by rfl) ?_
          refine Ls.ev (some 119) (Ev.pickF (show Oper.op _ = Op.pick (Operand.tmp 113) (Operand.const (Value.bool true)) (Operand.tmp 118) from rfl) (by rfl) (by rfl)) (by rfl) (by rfl) ?_
          refine Ls.ev (some 120) (Ev.pickT (show Oper.op _ = Op.pick (Operand.tmp 110) (Operand.tmp 119) (Operand.const (Value.bool false)) from rfl) (by rfl) (by rfl)) (by rfl) (by rfl) ?_
          refine Ls.ev (some 121) (Ev.move (show Oper.op _ = Op.move (Operand.tmp 120) from rfl) (by rfl)) (by rfl) (by rfl) ?_
          refine Ent.split 121 (by rfl) (fun c4 => ?_) (fun c4 => ?_)
          · skip
            refine Ls.ev (some 122) (Ev.fieldAddr (k := 8) (show Oper.op _ = Op.fieldAddr 47 (Operand.tmp 3) 5 from rfl) (by rfl) (by kernel_rfl) (by rfl)) (by rfl) (by rfl) ?_
            refine Ls.ev (some 123) (Ev.fieldAddr (k := 0) (show Oper.op _ = Op.fieldAddr 45 (Operand.tmp 122) 0 from rfl) (by rfl) (by kernel_rfl) (by rfl)) (by rfl) (by rfl) ?_
            refine Ls.ev (some 124) (Ev.load 3 (show Oper.op _ = Op.load 30 (Operand.tmp 123) from rfl) (by rfl) (by rfl) (by kernel_rfl) (by rfl)) (by rfl) (by rfl) ?_
            refine Ls.ev (some 125) (Ev.neq (show Oper.op _ = Op.binOp BinOp.neq 30 (Operand.tmp 124) (Operand.const (Value.int IntKind.i64 0)) 30 from rfl) (by rfl) (by rfl)) (by rfl) (by rfl) ?_
            refine Ls.ev (some 126) (Ev.move (show Oper.op _ = Op.move (Operand.tmp 125) from rfl) (by rfl)) (by rfl) (by rfl) ?_
            refine Ent.split 126 (by rfl) (fun c5 => ?_) (fun c5 => ?_)
            · skip
              refine Ls.pass (some 127) (by rfl) (by rfl) ?_
              refine Ls.ev (some 128) (Ev.pickF (show Oper.op _ = Op.pick (Operand.tmp 126) (Operand.tmp 127) (Operand.const (Value.bool false)) from rfl) (by rfl) (by rfl)) (by rfl) (by rfl) ?_
              refine Ls.ev (some 129) (Ev.pickF (show Oper.op _ = Op.pick (Operand.tmp 121) (Operand.const (Value.bool true)) (Operand.tmp 128) from rfl) (by rfl) (by rfl)) (by rfl) (by rfl) ?_
              refine Ls.nil ?_
              refine Ent.inv (()) ?_ ?_ ?_
              · (try dsimp only); skip
              · (repeat (first | exact trivial | refine ⟨by rfl, ?_⟩ | refine ⟨by simp only [List.length_append, List.length_cons, List.length_nil]; rfl, ?_⟩ | refine ⟨by push_cast; rfl, ?_⟩ | refine ⟨by exact congrArg (fun b => some (Value.bool b)) (rep_c (of_decide_eq_true c1) c3 c4), ?_⟩))
              · rfl
            · skip
              exact absurd (of_decide_eq_true c1) (of_decide_eq_true c5)
          · skip
            refine Ls.pass (some 122) (by rfl) (by rfl) ?_
            refine Ls.pass (some 123) (by rfl) (by rfl) ?_
            refine Ls.pass (some 124) (by rfl) (by rfl) ?_
            refine Ls.pass (some 125) (by rfl) (by rfl) ?_
            refine Ls.pass (some 126) (by rfl) (by rfl) ?_
            refine Ls.pass (some 127) (by rfl) (by rfl) ?_
            refine Ls.pass (some 128) (by rfl) (by rfl) ?_
            refine Ls.ev (some 129) (Ev.pickT (show Oper.op _ = Op.pick (Operand.tmp 121) (Operand.const (Value.bool true)) (Operand.tmp 128) from rfl) (by rfl) (by rfl)) (by rfl) (by rfl) ?_
            refine Ls.nil ?_
            refine Ent.inv (()) ?_ ?_ ?_
            · (try dsimp only); skip
            · (repeat (first | exact trivial | refine ⟨by rfl, ?_⟩ | refine ⟨by simp only [List.length_append, List.length_cons, List.length_nil]; rfl, ?_⟩ | refine ⟨by push_cast; rfl, ?_⟩ | refine ⟨by exact congrArg (fun b => some (Value.bool b)) (rep_c (of_decide_eq_true c1) c3 c4), ?_⟩))
            · rfl
        · skip
          refine Ls.pass (some 114) (by rfl) (by rfl) ?_
          refine Ls.pass (some 115) (by rfl) (by rfl) ?_
          refine Ls.pass (some 116) (by rfl) (by rfl) ?_
          refine Ls.pass (some 117) (by rfl) (by rfl) ?_
          refine Ls.pass (some 118) (by rfl) (by rfl) ?_
          refine Ls.ev (some 119) (Ev.pickT (show Oper.op _ = Op.pick (Operand.tmp 113) (Operand.const (Value.bool true)) (Operand.tmp 118) from rfl) (by rfl) (by rfl)) (by rfl) (by rfl) ?_
          refine Ls.ev (some 120) (Ev.pickT (show Oper.op _ = Op.pick (Operand.tmp 110) (Operand.tmp 119) (Operand.const (Value.bool false)) from rfl) (by rfl) (by rfl)) (by rfl) (by rfl) ?_
          refine Ls.ev (some 121) (Ev.move (show Oper.op _ = Op.move (Operand.tmp 120) from rfl) (by rfl)) (by rfl) (by rfl) ?_
          refine Ls.pass (some 122) (by rfl) (by rfl) ?_
          refine Ls.pass (some 123) (by rfl) (by rfl) ?_
          refine Ls.pass (some 124) (by rfl) (by rfl) ?_
          refine Ls.pass (some 125) (by rfl) (by rfl) ?_
          refine Ls.pass (some 126) (by rfl) (by rfl) ?_
          refine Ls.pass (some 127) (by rfl) (by rfl) ?_
          refine Ls.pass (some 128) (by rfl) (by rfl) ?_
          refine Ls.ev (some 129) (Ev.pickT (show Oper.op _ = Op.pick (Operand.tmp 121) (Operand.const (Value.bool true)) (Operand.tmp 128) from rfl) (by rfl) (by rfl)) (by rfl) (by rfl) ?_
          refine Ls.nil ?_
          skip
          refine Ent.inv (()) ?_ ?_ ?_
          · (try dsimp only); skip
          · (repeat (first | exact trivial | refine ⟨by rfl, ?_⟩ | refine ⟨by simp only [List.length_append, List.length_cons, List.length_nil]; rfl, ?_⟩ | refine ⟨by push_cast; rfl, ?_⟩ | refine ⟨by exact congrArg (fun b => some (Value.bool b)) (rep_b (of_decide_eq_true c1) c3), ?_⟩))
          · rfl
    skip
    rintro _ -
    refine Cd.cond _ (by rfl) (fun h7 => ?_) (fun h7 => ?_)
    · skip
      rw [if_pos (of_decide_eq_true h7)]
      refine Cd.seq ?_
      refine Cd.region ?_
      refine Ls.ev (some 4) (Ev.assign (show Oper.op _ = Op.assign (Operand.const (Value.int IntKind.i64 6)) from rfl) (by rfl)) (by rfl) (by rfl) ?_
      refine Ls.nil ?_
      refine Ent.pick [4, 5, 6, 7, 8, 9, 10, 11, 12] (by rfl) (Ent.beMore (G := G) (m := m) (D := D) (S := S) ?_)
      refine Cd.ret ?_
      refine Ent.ret ((S, 6)) (⟨hS.more, rfl, rfl⟩) (Res.tmp (by rfl) (by rfl)) ?_ [0, 1, 2, 3, 4, 5, 6, 7, 8] (by rfl) ?_
      · rfl
      · rfl
    · skip
      rw [if_neg (of_decide_eq_false h7)]
      refine Cd.skip ?_
      refine Cd.draw [5] (by kernel_rfl) ?_
      refine Rg.ev 0 (by rfl) (fun _ h => h) (Ev.move (show Oper.op _ = Op.move (Operand.tmp 0) from rfl) (by rfl)) (by rfl) (some 130) (by rfl) (by kernel_rfl) (by kernel_rfl) (by kernel_rfl) (by kernel_rfl) ?_
      refine Rg.ev 1 (by rfl) (fun _ h => h) (Ev.nilCheck (show Oper.op _ = Op.nilCheck (Operand.tmp 130) from rfl) (by rfl)) (by rfl) (some 131) (by rfl) (by kernel_rfl) (by kernel_rfl) (by kernel_rfl) (by kernel_rfl) ?_
      refine Rg.ev 2 (by rfl) (fun _ h => h) (Ev.fieldAddr (k := 4) (show Oper.op _ = Op.fieldAddr 75 (Operand.tmp 131) 4 from rfl) (by rfl) (by kernel_rfl) (by rfl)) (by rfl) (some 132) (by rfl) (by kernel_rfl) (by kernel_rfl) (by kernel_rfl) (by kernel_rfl) ?_
      refine Rg.ev 3 (by rfl) (fun _ h => h) (Ev.load 4 (show Oper.op _ = Op.load 73 (Operand.tmp 132) from rfl) (by rfl) (by rfl) (by kernel_rfl) (by rfl)) (by rfl) (some 133) (by rfl) (by kernel_rfl) (by kernel_rfl) (by kernel_rfl) (by kernel_rfl) ?_
      refine Rg.ev 4 (by rfl) (fun _ h => h) (Ev.loads 2 (show Oper.op _ = Op.load 69 (Operand.tmp 5) from rfl) (by rfl) (by rfl) (n := 2) (by kernel_rfl) (by rfl) (by rfl)) (by rfl) (some 134) (by rfl) (by kernel_rfl) (by kernel_rfl) (by kernel_rfl) (by kernel_rfl) ?_
      refine Rg.tail 5 [] (by rfl) (by kernel_rfl) (Does.mapPutO ckey_inj 9 (show Oper.op _ = Op.mapUpdate 73 (Operand.tmp 133) (Operand.tmp 134) (Operand.const (Value.int IntKind.i64 1)) from rfl) (by rfl) (by rfl) (by rfl) (by rfl) keyed_call Try.underlying73 (by omega) hk) (by rfl) none (by rfl) (by kernel_rfl) (by kernel_rfl) ?_
      intro _ _
      refine Rg.done (by kernel_rfl) ?_ _
      refine Cd.seq ?_
      refine Cd.region ?_
      refine Ls.ev (some 4) (Ev.assign (show Oper.op _ = Op.assign (Operand.const (Value.int IntKind.i64 0)) from rfl) (by rfl)) (by rfl) (by rfl) ?_
      refine Ls.nil ?_
      refine Ent.mapMore 6 rfl (Nat.le_succ n) ?_
      refine Ent.mapMore 7 rfl (Nat.le_succ n) ?_
      refine Ent.mapMore 8 rfl (Nat.le_succ n) ?_
      refine Ent.pick [4, 5, 6, 7, 8, 9, 10, 11, 12] (by rfl) ?_
      refine Ent.norm [(0, .pointer (some ⟨D.b, 0, none⟩)), (4, .int .i64 0)] [blk D.b 75 (D.vals S.tick S.ticked), blk D.g 95 (S.B.vals G.g), mapA D (n + 1) S, mapD D (n + 1) S, mapL D (n + 1) S, mapN D (n + 1) (S.answered x.key), S.B.fam, S.famA, S.famD] (by exact ⟨by rfl, by rfl, trivial⟩) (by rw [← S.ans_map]; rfl) ?_
      refine Cd.ret ?_
      refine Ent.ret ((S.answered x.key, 0)) (⟨⟨hS.B, hS.more.ep, hS.ask, hS.dec⟩, S.ans_p, rfl⟩) (Res.tmp (by rfl) (by rfl)) ?_ [0, 1, 2, 3, 4, 5, 6, 7, 8] (by rfl) ?_
      · rfl
      · rfl
  skip
  have h4 := of_decide_eq_false h4
  rw [if_neg h4] at hse
  refine Cd.seq ?_
  refine Cd.region ?_
  refine Ls.ev (some 136) (Ev.eql (show Oper.op _ = Op.binOp BinOp.eql 38 (Operand.tmp 32) (Operand.const (Value.int IntKind.i64 4)) 38 from rfl) (by rfl) (by rfl)) (by rfl) (by rfl) ?_
  refine Ls.ev (some 135) (Ev.assign (show Oper.op _ = Op.assign (Operand.tmp 136) from rfl) (by rfl)) (by rfl) (by rfl) ?_
  refine Ls.nil ?_
  refine Cd.cond _ (by rfl) (fun h5 => ?_) (fun h5 => ?_)
  · skip
    have h5 := of_decide_eq_true h5
    rw [if_pos h5] at hse
    rw [hse]
    clear hse
    refine Cd.seq ?_
    refine Cd.seq ?_
    refine Cd.cut (ι := Unit) (fun _ => [(0, .pointer (some ⟨D.b, 0, none⟩)), (3, .pointer (some ⟨g1, 0, none⟩)), (4, .int .i64 0), (5, .pointer (some ⟨g2, 0, none⟩)), (149, .bool (decide (S.ticked = true ∧ x.tick < S.tick)))]) (fun _ => [blk g2 69 [.int .i64 x.robot, .int .i64 x.id], blk g1 47 x.enc, blk D.b 75 (D.vals S.tick S.ticked), blk D.g 95 (S.B.vals G.g), mapA D n S, mapD D n S, mapL D n S, mapN D n S, S.B.fam, S.famA, S.famD, G.b m, G.r m, x.call.rt.rd, x.reply.rt.rd]) (fun _ => True) ?_ ?_
    · skip
      refine Cd.draw [] (by kernel_rfl) ?_
      refine Rg.ev 0 (by rfl) (fun _ h => h) (Ev.move (show Oper.op _ = Op.move (Operand.tmp 0) from rfl) (by rfl)) (by rfl) (some 137) (by rfl) (by kernel_rfl) (by kernel_rfl) (by kernel_rfl) (by kernel_rfl) ?_
      refine Rg.ev 1 (by rfl) (fun _ h => h) (Ev.nilCheck (show Oper.op _ = Op.nilCheck (Operand.tmp 137) from rfl) (by rfl)) (by rfl) (some 138) (by rfl) (by kernel_rfl) (by kernel_rfl) (by kernel_rfl) (by kernel_rfl) ?_
      refine Rg.ev 2 (by rfl) (fun _ h => h) (Ev.fieldAddr (k := 6) (show Oper.op _ = Op.fieldAddr 75 (Operand.tmp 138) 6 from rfl) (by rfl) (by kernel_rfl) (by rfl)) (by rfl) (some 139) (by rfl) (by kernel_rfl) (by kernel_rfl) (by kernel_rfl) (by kernel_rfl) ?_
      refine Rg.ev 3 (by rfl) (fun _ h => h) (Ev.load 2 (show Oper.op _ = Op.load 4 (Operand.tmp 139) from rfl) (by rfl) (by rfl) (by kernel_rfl) (by rfl)) (by rfl) (some 140) (by rfl) (by kernel_rfl) (by kernel_rfl) (by kernel_rfl) (by kernel_rfl) ?_
      refine Rg.ev 4 (by rfl) (fun _ h => h) (Ev.move (show Oper.op _ = Op.move (Operand.tmp 140) from rfl) (by rfl)) (by rfl) (some 141) (by rfl) (by kernel_rfl) (by kernel_rfl) (by kernel_rfl) (by kernel_rfl) ?_
      refine Ent.split 141 (by rfl) (fun e1 => ?_) (fun e1 => ?_)
      · skip
        refine Rg.pass 5 (by rfl) (fun _ h => h) (by rfl) (some 142) (by rfl) (by kernel_rfl) (by kernel_rfl) (by kernel_rfl) (by kernel_rfl) ?_
        refine Rg.pass 6 (by rfl) (fun _ h => h) (by rfl) (some 143) (by rfl) (by kernel_rfl) (by kernel_rfl) (by kernel_rfl) (by kernel_rfl) ?_
        refine Rg.pass 7 (by rfl) (fun _ h => h) (by rfl) (some 144) (by rfl) (by kernel_rfl) (by kernel_rfl) (by kernel_rfl) (by kernel_rfl) ?_
        refine Rg.pass 8 (by rfl) (fun _ h => h) (by rfl) (some 145) (by rfl) (by kernel_rfl) (by kernel_rfl) (by kernel_rfl) (by kernel_rfl) ?_
        refine Rg.pass 9 (by rfl) (fun _ h => h) (by rfl) (some 146) (by rfl) (by kernel_rfl) (by kernel_rfl) (by kernel_rfl) (by kernel_rfl) ?_
        refine Rg.pass 10 (by rfl) (fun _ h => h) (by rfl) (some 147) (by rfl) (by kernel_rfl) (by kernel_rfl) (by kernel_rfl) (by kernel_rfl) ?_
        refine Rg.pass 11 (by rfl) (fun _ h => h) (by rfl) (some 148) (by rfl) (by kernel_rfl) (by kernel_rfl) (by kernel_rfl) (by kernel_rfl) ?_
        refine Rg.ev 12 (by rfl) (fun _ h => h) (Ev.pickF (show Oper.op _ = Op.pick (Operand.tmp 141) (Operand.tmp 148) (Operand.const (Value.bool false)) from rfl) (by rfl) (by rfl)) (by rfl) (some 149) (by rfl) (by kernel_rfl) (by kernel_rfl) (by kernel_rfl) (by kernel_rfl) ?_
        refine Rg.done (by kernel_rfl) ?_ _
        skip
        skip
        refine Ent.inv (()) ?_ ?_ ?_
        · (try dsimp only); skip
        · (repeat (first | exact trivial | refine ⟨by rfl, ?_⟩ | refine ⟨by simp only [List.length_append, List.length_cons, List.length_nil]; rfl, ?_⟩ | refine ⟨by push_cast; rfl, ?_⟩ | refine ⟨by (show some (Value.bool _) = some (Value.bool _); rw [decide_eq_false (fun e => by rw [e1] at e; exact Bool.noConfusion e.1)]), ?_⟩))
        · rfl
      · skip
        refine Rg.ev 5 (by rfl) (fun _ h => h) (Ev.fieldAddr (k := 3) (show Oper.op _ = Op.fieldAddr 47 (Operand.tmp 3) 3 from rfl) (by rfl) (by kernel_rfl) (by rfl)) (by rfl) (some 142) (by rfl) (by kernel_rfl) (by kernel_rfl) (by kernel_rfl) (by kernel_rfl) ?_
        refine Rg.ev 6 (by rfl) (fun _ h => h) (Ev.load 1 (show Oper.op _ = Op.load 3 (Operand.tmp 142) from rfl) (by rfl) (by rfl) (by kernel_rfl) (by rfl)) (by rfl) (some 143) (by rfl) (by kernel_rfl) (by kernel_rfl) (by kernel_rfl) (by kernel_rfl) ?_
        refine Rg.ev 7 (by rfl) (fun _ h => h) (Ev.move (show Oper.op _ = Op.move (Operand.tmp 0) from rfl) (by rfl)) (by rfl) (some 144) (by rfl) (by kernel_rfl) (by kernel_rfl) (by kernel_rfl) (by kernel_rfl) ?_
        refine Rg.ev 8 (by rfl) (fun _ h => h) (Ev.nilCheck (show Oper.op _ = Op.nilCheck (Operand.tmp 144) from rfl) (by rfl)) (by rfl) (some 145) (by rfl) (by kernel_rfl) (by kernel_rfl) (by kernel_rfl) (by kernel_rfl) ?_
        refine Rg.ev 9 (by rfl) (fun _ h => h) (Ev.fieldAddr (k := 5) (show Oper.op _ = Op.fieldAddr 75 (Operand.tmp 145) 5 from rfl) (by rfl) (by kernel_rfl) (by rfl)) (by rfl) (some 146) (by rfl) (by kernel_rfl) (by kernel_rfl) (by kernel_rfl) (by kernel_rfl) ?_
        refine Rg.ev 10 (by rfl) (fun _ h => h) (Ev.load 2 (show Oper.op _ = Op.load 3 (Operand.tmp 146) from rfl) (by rfl) (by rfl) (by kernel_rfl) (by rfl)) (by rfl) (some 147) (by rfl) (by kernel_rfl) (by kernel_rfl) (by kernel_rfl) (by kernel_rfl) ?_
        refine Rg.ev 11 (by rfl) (fun _ h => h) (Ev.lss (show Oper.op _ = Op.binOp BinOp.lss 3 (Operand.tmp 143) (Operand.tmp 147) 3 from rfl) (by rfl) (by rfl)) (by rfl) (some 148) (by rfl) (by kernel_rfl) (by kernel_rfl) (by kernel_rfl) (by kernel_rfl) ?_
        refine Rg.ev 12 (by rfl) (fun _ h => h) (Ev.pickT (show Oper.op _ = Op.pick (Operand.tmp 141) (Operand.tmp 148) (Operand.const (Value.bool false)) from rfl) (by rfl) (by rfl)) (by rfl) (some 149) (by rfl) (by kernel_rfl) (by kernel_rfl) (by kernel_rfl) (by kernel_rfl) ?_
        refine Rg.done (by kernel_rfl) ?_ _
        refine Ent.inv (()) ?_ ?_ ?_
        · (try dsimp only); skip
        · (repeat (first | exact trivial | refine ⟨by rfl, ?_⟩ | refine ⟨by simp only [List.length_append, List.length_cons, List.length_nil]; rfl, ?_⟩ | refine ⟨by push_cast; rfl, ?_⟩ | refine ⟨by (show some (Value.bool _) = some (Value.bool _); rw [show decide (S.ticked = true ∧ x.tick < S.tick) = decide (x.tick < S.tick) from decide_eq_decide.2 (and_iff_right e1)]), ?_⟩))
        · rfl
    skip
    rintro _ -
    refine Cd.cond _ (by rfl) (fun h6 => ?_) (fun h6 => ?_)
    · skip
      rw [if_pos (of_decide_eq_true h6)]
      refine Cd.seq ?_
      refine Cd.region ?_
      refine Ls.ev (some 4) (Ev.assign (show Oper.op _ = Op.assign (Operand.const (Value.int IntKind.i64 1)) from rfl) (by rfl)) (by rfl) (by rfl) ?_
      refine Ls.nil ?_
      refine Ent.pick [2, 3, 4, 5, 6, 7, 8, 9, 10] (by rfl) (Ent.beMore (G := G) (m := m) (D := D) (S := S) ?_)
      refine Cd.ret ?_
      refine Ent.ret ((S, 1)) (⟨hS.more, rfl, rfl⟩) (Res.tmp (by rfl) (by rfl)) ?_ [0, 1, 2, 3, 4, 5, 6, 7, 8] (by rfl) ?_
      · rfl
      · rfl
    · skip
      rw [if_neg (of_decide_eq_false h6)]
      refine Cd.skip ?_
      refine Cd.region ?_
      refine Ls.ev (some 150) (Ev.move (show Oper.op _ = Op.move (Operand.tmp 0) from rfl) (by rfl)) (by rfl) (by rfl) ?_
      refine Ls.ev (some 151) (Ev.move (show Oper.op _ = Op.move (Operand.tmp 0) from rfl) (by rfl)) (by rfl) (by rfl) ?_
      refine Ls.ev (some 152) (Ev.fieldAddr (k := 3) (show Oper.op _ = Op.fieldAddr 47 (Operand.tmp 3) 3 from rfl) (by rfl) (by kernel_rfl) (by rfl)) (by rfl) (by rfl) ?_
      refine Ls.ev (some 153) (Ev.load 1 (show Oper.op _ = Op.load 3 (Operand.tmp 152) from rfl) (by rfl) (by rfl) (by kernel_rfl) (by rfl)) (by rfl) (by rfl) ?_
      refine Ls.ev (some 154) (Ev.nilCheck (show Oper.op _ = Op.nilCheck (Operand.tmp 150) from rfl) (by rfl)) (by rfl) (by rfl) ?_
      refine Ls.ev (some 155) (Ev.fieldAddr (k := 5) (show Oper.op _ = Op.fieldAddr 75 (Operand.tmp 154) 5 from rfl) (by rfl) (by kernel_rfl) (by rfl)) (by rfl) (by rfl) ?_
      refine Ls.does none (Does.store 2 (show Oper.op _ = Op.store 3 (Operand.tmp 155) (Operand.tmp 153) from rfl) (by rfl) (by rfl) (by rfl) (by kernel_rfl) (by rfl) (by kernel_rfl) (by rfl)) (by rfl) (by rfl) ?_
      intro _ _
      refine Ls.ev (some 156) (Ev.nilCheck (show Oper.op _ = Op.nilCheck (Operand.tmp 151) from rfl) (by rfl)) (by rfl) (by rfl) ?_
      refine Ls.ev (some 157) (Ev.fieldAddr (k := 6) (show Oper.op _ = Op.fieldAddr 75 (Operand.tmp 156) 6 from rfl) (by rfl) (by kernel_rfl) (by rfl)) (by rfl) (by rfl) ?_
      refine Ls.does none (Does.store 2 (show Oper.op _ = Op.store 4 (Operand.tmp 157) (Operand.const (Value.bool true)) from rfl) (by rfl) (by rfl) (by rfl) (by kernel_rfl) (by rfl) (by kernel_rfl) (by rfl)) (by rfl) (by rfl) ?_
      intro _ _
      refine Ls.nil ?_
      refine Cd.seq ?_
      refine Cd.region ?_
      refine Ls.ev (some 4) (Ev.assign (show Oper.op _ = Op.assign (Operand.const (Value.int IntKind.i64 0)) from rfl) (by rfl)) (by rfl) (by rfl) ?_
      refine Ls.nil ?_
      refine Ent.pick [2, 3, 4, 5, 6, 7, 8, 9, 10] (by rfl) (Ent.beMore (G := G) (m := m) (D := D) (S := { S with tick := x.tick, ticked := true }) ?_)
      refine Cd.ret ?_
      refine Ent.ret (({ S with tick := x.tick, ticked := true }, 0)) (⟨⟨hS.B, hS.more.ep, hS.ask, hS.dec⟩, rfl, rfl⟩) (Res.tmp (by rfl) (by rfl)) ?_ [0, 1, 2, 3, 4, 5, 6, 7, 8] (by rfl) ?_
      · rfl
      · rfl
  skip
  have h5 := of_decide_eq_false h5
  rw [if_neg h5] at hse
  rw [hse]
  refine Cd.seq ?_
  refine Cd.region ?_
  refine Ls.ev (some 4) (Ev.assign (show Oper.op _ = Op.assign (Operand.const (Value.int IntKind.i64 1)) from rfl) (by rfl)) (by rfl) (by rfl) ?_
  refine Ls.nil ?_
  refine Ent.pick [2, 3, 4, 5, 6, 7, 8, 9, 10] (by rfl) (Ent.beMore (G := G) (m := m) (D := D) (S := S) ?_)
  refine Cd.ret ?_
  refine Ent.ret ((S, 1)) (⟨hS.more, rfl, rfl⟩) (Res.tmp (by rfl) (by rfl)) ?_ [0, 1, 2, 3, 4, 5, 6, 7, 8] (by rfl) ?_
  · rfl
  · rfl
end
end Go.Proofs.Ytegjoabfoddadaa
/- the judge over pieces: sit -/
namespace Go.Proofs.Ytegjoabfoddadaa
open Go.RowKit
theorem Sat.starf_no {Γ : Ctx} {H : List Chunk} {w : World} {ι : Type} {F : ι → Chunk} (hF : ∀ i, F i = noS.rd) (h : Sat Γ H w) : Sat Γ (starf F :: H) w :=
  Sat.free rfl (fun k ⟨i, hk⟩ => by
    rw [hF i] at hk
    exact absurd hk.1 (Nat.lt_irrefl 0)) (fun i => by
    rw [hF i]
    exact ⟨rfl, rfl, fun h => absurd h (Nat.lt_irrefl 0)⟩) h
def newBe : BeS := ⟨newS, fun _ => none, fun _ => none, fun _ => none, fun _ => none, 0, false⟩
theorem newBe_p : newBe.p = JdS.new := by
  unfold newBe BeS.p JdS.new newB BkS.p newS
  simp
  rfl
theorem newBe_ok : newBe.Ok 0 where
  B := newS_ok
  ep := fun k => by
    show 0 ≤ (List.replicate 16 (0 : Int)).getD k 0 ∧ (List.replicate 16 (0 : Int)).getD k 0 ≤ ((0 : Nat) : Int)
    rw [List.getD_eq_getElem?_getD, List.getElem?_replicate]
    split <;> simp
  ask := fun _ _ h => by cases h
  dec := fun _ _ h => by cases h
theorem newS_no (k : Nat) : ((newBe.B.rts.getD k noS).rd) = noS.rd := by
  show ((List.replicate 16 noS).getD k noS).rd = noS.rd
  rw [List.getD_eq_getElem?_getD, List.getElem?_replicate]
  split <;> rfl
section
variable (m : MapP) (A : Option Addr) (c : Nat) (hl : m.bl.length ≤ 17592186044415)
include hl
theorem sit_bad (hm : goodM m = false) : Fn Try.prog 15 #[.agg (mapV m A c).toArray] [rdI A m.bl] Unit (fun _ => .tuple #[.pointer none, .int .i64 120]) (fun _ => []) (fun _ => True) := by
  have hgn := gnew_sl m A c hl
  rw [hm] at hgn
  dsimp only [cond] at hgn
  refine Fn.enter Try.func15 rfl Try.ntmps15 (by rfl) ?_
  intro w0
  refine Cd.seq ?_
  refine Cd.region ?_
  refine Ls.does (some 1) (Does.box (show Oper.op _ = Op.box 24 (Operand.tmp 0) from rfl) (by rfl)) (by rfl) (by rfl) ?_
  intro g1 _
  refine Ls.ev (some 2) (Ev.assign (show Oper.op _ = Op.assign (Operand.const (Value.pointer none)) from rfl) (by rfl)) (by rfl) (by rfl) ?_
  refine Ls.ev (some 3) (Ev.assign (show Oper.op _ = Op.assign (Operand.const (Value.int IntKind.i64 0)) from rfl) (by rfl)) (by rfl) (by rfl) ?_
  refine Ls.nil ?_
  refine Cd.seq ?_
  refine Cd.region ?_
  refine Ls.ev (some 7) (Ev.loads 0 (show Oper.op _ = Op.load 24 (Operand.tmp 1) from rfl) (by rfl) (by rfl) (n := 4) (by kernel_rfl) (by rfl) (by rfl)) (by rfl) (by rfl) ?_
  refine Ls.does (some 8) (Does.read (show Oper.op _ = Op.call { callee := Callee.value (Operand.func 25), args := #[Operand.tmp 7], argTypes := #[24] } from rfl) Try.func25 (by kernel_rfl) (by kernel_rfl) (hgn) (by rfl) (by rfl) ⟨ReadsIn.rd 1 (by rfl), trivial⟩) (by rfl) (by rfl) ?_
  rintro _ -
  refine Ls.ev (some 6) (Ev.move (show Oper.op _ = Op.move (Operand.tmp 8) from rfl) (by rfl)) (by rfl) (by rfl) ?_
  refine Ls.ev (some 9) (Ev.extract (show Oper.op _ = Op.extract (Operand.tmp 6) 0 from rfl) (by rfl) (by rfl)) (by rfl) (by rfl) ?_
  refine Ls.ev (some 10) (Ev.extract (show Oper.op _ = Op.extract (Operand.tmp 6) 1 from rfl) (by rfl) (by rfl)) (by rfl) (by rfl) ?_
  refine Ls.ev (some 4) (Ev.assign (show Oper.op _ = Op.assign (Operand.tmp 9) from rfl) (by rfl)) (by rfl) (by rfl) ?_
  refine Ls.ev (some 5) (Ev.assign (show Oper.op _ = Op.assign (Operand.tmp 10) from rfl) (by rfl)) (by rfl) (by rfl) ?_
  refine Ls.nil ?_
  refine Cd.seq ?_
  refine Cd.seq ?_
  refine Cd.region ?_
  refine Ls.ev (some 11) (Ev.move (show Oper.op _ = Op.move (Operand.tmp 5) from rfl) (by rfl)) (by rfl) (by rfl) ?_
  refine Ls.ev (some 12) (Ev.neq (show Oper.op _ = Op.binOp BinOp.neq 30 (Operand.tmp 11) (Operand.const (Value.int IntKind.i64 0)) 30 from rfl) (by rfl) (by rfl)) (by rfl) (by rfl) ?_
  refine Ls.nil ?_
  refine Cd.cond_true (by rfl) (rfl) ?_
  refine Cd.seq ?_
  refine Cd.region ?_
  refine Ls.ev (some 13) (Ev.move (show Oper.op _ = Op.move (Operand.tmp 5) from rfl) (by rfl)) (by rfl) (by rfl) ?_
  refine Ls.ev (some 2) (Ev.assign (show Oper.op _ = Op.assign (Operand.const (Value.pointer none)) from rfl) (by rfl)) (by rfl) (by rfl) ?_
  refine Ls.ev (some 3) (Ev.assign (show Oper.op _ = Op.assign (Operand.tmp 13) from rfl) (by rfl)) (by rfl) (by rfl) ?_
  refine Ls.nil ?_
  refine Cd.ret ?_
  refine Ent.ret (()) (trivial) (Res.tmp2 (by rfl) (by rfl) (by rfl)) ?_ [] (by rfl) ?_
  · rfl
  · rfl
theorem sit_sl (hm : goodM m = true) : Fn Try.prog 15 #[.agg (mapV m A c).toArray] [rdI A m.bl] (GrS × BeA) (fun p => .tuple #[.pointer (some ⟨p.2.b, 0, none⟩), .int .i64 0]) (fun p => beP p.1 m p.2 0 newBe ++ [p.1.b m, p.1.r m]) (fun _ => True) := by
  have hgn := gnew_sl m A c hl
  rw [hm] at hgn
  dsimp only [cond] at hgn
  refine Fn.enter Try.func15 rfl Try.ntmps15 (by rfl) ?_
  intro w0
  refine Cd.seq ?_
  refine Cd.region ?_
  refine Ls.does (some 1) (Does.box (show Oper.op _ = Op.box 24 (Operand.tmp 0) from rfl) (by rfl)) (by rfl) (by rfl) ?_
  intro g1 _
  refine Ls.ev (some 2) (Ev.assign (show Oper.op _ = Op.assign (Operand.const (Value.pointer none)) from rfl) (by rfl)) (by rfl) (by rfl) ?_
  refine Ls.ev (some 3) (Ev.assign (show Oper.op _ = Op.assign (Operand.const (Value.int IntKind.i64 0)) from rfl) (by rfl)) (by rfl) (by rfl) ?_
  refine Ls.nil ?_
  refine Cd.seq ?_
  refine Cd.region ?_
  refine Ls.ev (some 7) (Ev.loads 0 (show Oper.op _ = Op.load 24 (Operand.tmp 1) from rfl) (by rfl) (by rfl) (n := 4) (by kernel_rfl) (by rfl) (by rfl)) (by rfl) (by rfl) ?_
  refine Ls.does (some 8) (Does.readN (show Oper.op _ = Op.call { callee := Callee.value (Operand.func 25), args := #[Operand.tmp 7], argTypes := #[24] } from rfl) Try.func25 (by kernel_rfl) (by kernel_rfl) (hgn) (by rfl) (by rfl) ⟨ReadsIn.rd 1 (by rfl), trivial⟩ (fun _ => by rfl)) (by rfl) (by rfl) ?_
  rintro G -
  refine Ls.ev (some 6) (Ev.move (show Oper.op _ = Op.move (Operand.tmp 8) from rfl) (by rfl)) (by rfl) (by rfl) ?_
  refine Ls.ev (some 9) (Ev.extract (show Oper.op _ = Op.extract (Operand.tmp 6) 0 from rfl) (by rfl) (by rfl)) (by rfl) (by rfl) ?_
  refine Ls.ev (some 10) (Ev.extract (show Oper.op _ = Op.extract (Operand.tmp 6) 1 from rfl) (by rfl) (by rfl)) (by rfl) (by rfl) ?_
  refine Ls.ev (some 4) (Ev.assign (show Oper.op _ = Op.assign (Operand.tmp 9) from rfl) (by rfl)) (by rfl) (by rfl) ?_
  refine Ls.ev (some 5) (Ev.assign (show Oper.op _ = Op.assign (Operand.tmp 10) from rfl) (by rfl)) (by rfl) (by rfl) ?_
  refine Ls.nil ?_
  refine Cd.seq ?_
  refine Cd.seq ?_
  refine Cd.region ?_
  refine Ls.ev (some 11) (Ev.move (show Oper.op _ = Op.move (Operand.tmp 5) from rfl) (by rfl)) (by rfl) (by rfl) ?_
  refine Ls.ev (some 12) (Ev.neq (show Oper.op _ = Op.binOp BinOp.neq 30 (Operand.tmp 11) (Operand.const (Value.int IntKind.i64 0)) 30 from rfl) (by rfl) (by rfl)) (by rfl) (by rfl) ?_
  refine Ls.nil ?_
  refine Cd.cond_false (by rfl) (rfl) ?_
  refine Ent.seeBlk 0 rfl (Ent.seeMap 1 rfl ?_)
  refine Cd.skip ?_
  refine Cd.seq ?_
  refine Cd.region ?_
  refine Ls.ev (some 14) (Ev.move (show Oper.op _ = Op.move (Operand.tmp 4) from rfl) (by rfl)) (by rfl) (by rfl) ?_
  refine Ls.does (some 15) (Does.readN (show Oper.op _ = Op.call { callee := Callee.value (Operand.func 26), args := #[Operand.tmp 14], argTypes := #[79] } from rfl) Try.func26 (by kernel_rfl) (by kernel_rfl) (bnew_sl G.g) (by rfl) (by rfl) trivial (fun _ => by rfl)) (by rfl) (by rfl) ?_
  rintro gb -
  skip
  refine Ls.does (some 16) (Does.mapNewO 69 zC ckey (show Oper.op _ = Op.makeMap 70 none from rfl)) (by rfl) (by rfl) ?_
  rintro b1 -
  refine Ls.does (some 17) (Does.mapNewO 69 zP ckey (show Oper.op _ = Op.makeMap 71 none from rfl)) (by rfl) (by rfl) ?_
  rintro b2 -
  refine Ls.does (some 18) (Does.mapNewO 3 (.int .i64 0) (Value.int .i64) (show Oper.op _ = Op.makeMap 72 none from rfl)) (by rfl) (by rfl) ?_
  rintro b3 -
  refine Ls.does (some 19) (Does.mapNewO 69 (.int .i64 0) ckey (show Oper.op _ = Op.makeMap 73 none from rfl)) (by rfl) (by rfl) ?_
  rintro b4 -
  refine Ls.ev (some 20) (Ev.buildP (pl := [(0, 1), (1, 1), (2, 1), (3, 1), (4, 1), (5, 1), (6, 1)]) (zs := [.pointer none, .map none, .map none, .map none, .map none, .int .i64 0, .bool false]) (show Oper.op _ = Op.build 75 #[(0, Operand.tmp 15), (1, Operand.tmp 16), (2, Operand.tmp 17), (3, Operand.tmp 18), (4, Operand.tmp 19)] from rfl) (by rfl) (by kernel_rfl) (by rfl)) (by rfl) (by rfl) ?_
  refine Ls.does (some 21) (Does.box (show Oper.op _ = Op.box 75 (Operand.tmp 20) from rfl) (by rfl)) (by rfl) (by rfl) ?_
  intro g2 _
  refine Ls.ev (some 2) (Ev.assign (show Oper.op _ = Op.assign (Operand.tmp 21) from rfl) (by rfl)) (by rfl) (by rfl) ?_
  refine Ls.ev (some 3) (Ev.assign (show Oper.op _ = Op.assign (Operand.const (Value.int IntKind.i64 0)) from rfl) (by rfl)) (by rfl) (by rfl) ?_
  refine Ls.nil ?_
  refine Ent.map (fun w hs => Sat.starf_no (F := fun k : Nat => (newBe.B.rts.getD k noS).rd) newS_no hs) ?_
  refine Ent.map (fun w hs => Sat.starf_no (F := fun k : Int × Int => ((newBe.ask k).getD noC).rt.rd) (fun _ => rfl) hs) ?_
  refine Ent.map (fun w hs => Sat.starf_no (F := fun k : Int × Int => ((newBe.dec k).getD noRp).rt.rd) (fun _ => rfl) hs) ?_
  refine Cd.ret ?_
  refine Ent.ret ((G, ⟨g2, gb, b1, b2, b3, b4⟩)) (trivial) (Res.tmp2 (by rfl) (by rfl) (by rfl)) ?_ [3, 8, 7, 6, 5, 4, 2, 1, 0, 9, 10] (by rfl) ?_
  · rfl
  · rfl
end
end Go.Proofs.Ytegjoabfoddadaa
/- the judge over pieces: Check -/
namespace Go.Proofs.Ytegjoabfoddadaa
open Go.RowKit
def noE : EvS := ⟨0, 0, 0, 0, noC, noRp⟩
theorem EvS.enc_len (x : EvS) : x.enc.length = 12 := rfl
/-- A history as it lies. -/
abbrev evR (A : Option Addr) (l : List EvS) : Chunk := rd A l.length 12 (l.flatMap EvS.enc)
abbrev evC (l : List EvS) : Chunk := starf fun k : Nat => (l.getD k noE).call.rt.rd
abbrev evD (l : List EvS) : Chunk := starf fun k : Nat => (l.getD k noE).reply.rt.rd
/-- The verdict, be the map bad. -/
def verdP (m : MapP) (l : List EvP) : Int × Int := bif goodM m then checkP m l else (0, 0)
def codeP (m : MapP) : Int := bif goodM m then 0 else 120
theorem goP_step {m : MapP} {s : JdS} {l : List EvS} {k : Nat} {x : EvS} (h : l[k]? = some x) : goP m s k ((l.drop k).map EvS.p) = if (seeP m s x.p).2 = 0 then goP m (seeP m s x.p).1 (k + 1) ((l.drop (k + 1)).map EvS.p) else ((k : Int), (seeP m s x.p).2) := by
  obtain ⟨hk, rfl⟩ := List.getElem?_eq_some_iff.1 h
  rw [List.drop_eq_getElem_cons hk]
  rfl
section
variable (m : MapP) (A : Option Addr) (c : Nat) (hl : m.bl.length ≤ 17592186044415) (l : List EvS) (hn : l.length ≤ 100000) (hx : ∀ x ∈ l, x.Ok) (EA : Option Addr) (ec : Nat)
include hl hn hx
set_option maxHeartbeats 2000000 in
theorem jcheck_sl : Fn Try.prog 8 #[.agg (mapV m A c).toArray, .slice EA l.length ec] [rdI A m.bl, evR EA l, evC l, evD l] Unit (fun _ => .tuple #[.agg #[.int .i64 (verdP m (l.map EvS.p)).1, .int .i64 (verdP m (l.map EvS.p)).2], .int .i64 (codeP m)]) (fun _ => []) (fun _ => True) := by
  cases hm : goodM m with
  | false =>
    have hv : verdP m (l.map EvS.p) = (0, 0) := by unfold verdP; rw [hm]; rfl
    have hc : codeP m = 120 := by unfold codeP; rw [hm]; rfl
    rw [hv, hc]
    refine Fn.enter Try.func8 rfl Try.ntmps8 (by rfl) ?_
    intro w0
    refine Cd.seq ?_
    refine Cd.region ?_
    refine Ls.does (some 2) (Does.box (show Oper.op _ = Op.box 24 (Operand.tmp 0) from rfl) (by rfl)) (by rfl) (by rfl) ?_
    intro g1 _
    refine Ls.does (some 4) (Does.alloc (cs := [.int .i64 0, .int .i64 0]) (show Oper.op _ = Op.alloc 29 from rfl) (ZeroIs.mk (.agg #[.int .i64 0, .int .i64 0]) (by kernel_rfl) (by rfl))) (by rfl) (by rfl) ?_
    intro g2 _
    refine Ls.ev (some 5) (Ev.assign (show Oper.op _ = Op.assign (Operand.const (Value.int IntKind.i64 0)) from rfl) (by rfl)) (by rfl) (by rfl) ?_
    refine Ls.nil ?_
    refine Cd.scope ?_
    refine Cd.seq ?_
    refine Cd.region ?_
    refine Ls.ev (some 12) (Ev.loads 1 (show Oper.op _ = Op.load 24 (Operand.tmp 2) from rfl) (by rfl) (by rfl) (n := 4) (by kernel_rfl) (by rfl) (by rfl)) (by rfl) (by rfl) ?_
    refine Ls.does (some 13) (Does.read (show Oper.op _ = Op.call { callee := Callee.value (Operand.func 15), args := #[Operand.tmp 12], argTypes := #[24] } from rfl) Try.func15 (by kernel_rfl) (by kernel_rfl) (sit_bad m A c hl hm) (by rfl) (by rfl) ⟨ReadsIn.rd 2 (by rfl), trivial⟩) (by rfl) (by rfl) ?_
    rintro _ -
    refine Ls.ev (some 11) (Ev.move (show Oper.op _ = Op.move (Operand.tmp 13) from rfl) (by rfl)) (by rfl) (by rfl) ?_
    refine Ls.ev (some 14) (Ev.extract (show Oper.op _ = Op.extract (Operand.tmp 11) 0 from rfl) (by rfl) (by rfl)) (by rfl) (by rfl) ?_
    refine Ls.ev (some 15) (Ev.extract (show Oper.op _ = Op.extract (Operand.tmp 11) 1 from rfl) (by rfl) (by rfl)) (by rfl) (by rfl) ?_
    refine Ls.ev (some 6) (Ev.assign (show Oper.op _ = Op.assign (Operand.tmp 14) from rfl) (by rfl)) (by rfl) (by rfl) ?_
    refine Ls.ev (some 7) (Ev.assign (show Oper.op _ = Op.assign (Operand.tmp 15) from rfl) (by rfl)) (by rfl) (by rfl) ?_
    refine Ls.nil ?_
    refine Cd.seq ?_
    refine Cd.seq ?_
    refine Cd.region ?_
    refine Ls.ev (some 16) (Ev.move (show Oper.op _ = Op.move (Operand.tmp 7) from rfl) (by rfl)) (by rfl) (by rfl) ?_
    refine Ls.ev (some 17) (Ev.neq (show Oper.op _ = Op.binOp BinOp.neq 30 (Operand.tmp 16) (Operand.const (Value.int IntKind.i64 0)) 30 from rfl) (by rfl) (by rfl)) (by rfl) (by rfl) ?_
    refine Ls.nil ?_
    refine Cd.cond_true (by rfl) (rfl) ?_
    refine Cd.seq ?_
    refine Cd.region ?_
    refine Ls.ev (some 18) (Ev.buildP (pl := [(0, 1), (1, 1)]) (zs := [.int .i64 0, .int .i64 0]) (show Oper.op _ = Op.build 29 #[] from rfl) (by rfl) (by kernel_rfl) (by rfl)) (by rfl) (by rfl) ?_
    refine Ls.ev (some 19) (Ev.move (show Oper.op _ = Op.move (Operand.tmp 7) from rfl) (by rfl)) (by rfl) (by rfl) ?_
    refine Ls.does none (Does.store 0 (show Oper.op _ = Op.store 29 (Operand.tmp 4) (Operand.tmp 18) from rfl) (by rfl) (by rfl) (by rfl) (by kernel_rfl) (by rfl) (by kernel_rfl) (by rfl)) (by rfl) (by rfl) ?_
    intro _ _
    refine Ls.ev (some 5) (Ev.assign (show Oper.op _ = Op.assign (Operand.tmp 19) from rfl) (by rfl)) (by rfl) (by rfl) ?_
    refine Ls.nil ?_
    refine Cd.ret ?_
    refine Ent.ret (()) (trivial) (Res.cell_tmp 0 (by rfl) (by rfl) (by rfl) (n := 2) (by kernel_rfl) (by rfl) (by rfl) (by rfl)) ?_ [] (by rfl) ?_
    · rfl
    · rfl
  | true =>
    have hv : verdP m (l.map EvS.p) = checkP m (l.map EvS.p) := by unfold verdP; rw [hm]; rfl
    have hc : codeP m = 0 := by unfold codeP; rw [hm]; rfl
    rw [hv, hc]
    clear hv hc
    refine Fn.enter Try.func8 rfl Try.ntmps8 (by rfl) ?_
    intro w0
    refine Cd.seq ?_
    refine Cd.region ?_
    refine Ls.does (some 2) (Does.box (show Oper.op _ = Op.box 24 (Operand.tmp 0) from rfl) (by rfl)) (by rfl) (by rfl) ?_
    intro g1 _
    refine Ls.does (some 4) (Does.alloc (cs := [.int .i64 0, .int .i64 0]) (show Oper.op _ = Op.alloc 29 from rfl) (ZeroIs.mk (.agg #[.int .i64 0, .int .i64 0]) (by kernel_rfl) (by rfl))) (by rfl) (by rfl) ?_
    intro g2 _
    refine Ls.ev (some 5) (Ev.assign (show Oper.op _ = Op.assign (Operand.const (Value.int IntKind.i64 0)) from rfl) (by rfl)) (by rfl) (by rfl) ?_
    refine Ls.nil ?_
    refine Cd.scope ?_
    refine Cd.seq ?_
    refine Cd.region ?_
    refine Ls.ev (some 12) (Ev.loads 1 (show Oper.op _ = Op.load 24 (Operand.tmp 2) from rfl) (by rfl) (by rfl) (n := 4) (by kernel_rfl) (by rfl) (by rfl)) (by rfl) (by rfl) ?_
    refine Ls.does (some 13) (Does.call [2, 0, 1, 3, 4, 5] (show Oper.op _ = Op.call { callee := Callee.value (Operand.func 15), args := #[Operand.tmp 12], argTypes := #[24] } from rfl) Try.func15 (by kernel_rfl) (by kernel_rfl) (sit_sl m A c hl hm) (by rfl) (by rfl) (by rfl)) (by rfl) (by rfl) ?_
    rintro ⟨G, D⟩ -
    refine Ls.ev (some 11) (Ev.move (show Oper.op _ = Op.move (Operand.tmp 13) from rfl) (by rfl)) (by rfl) (by rfl) ?_
    refine Ls.ev (some 14) (Ev.extract (show Oper.op _ = Op.extract (Operand.tmp 11) 0 from rfl) (by rfl) (by rfl)) (by rfl) (by rfl) ?_
    refine Ls.ev (some 15) (Ev.extract (show Oper.op _ = Op.extract (Operand.tmp 11) 1 from rfl) (by rfl) (by rfl)) (by rfl) (by rfl) ?_
    refine Ls.ev (some 6) (Ev.assign (show Oper.op _ = Op.assign (Operand.tmp 14) from rfl) (by rfl)) (by rfl) (by rfl) ?_
    refine Ls.ev (some 7) (Ev.assign (show Oper.op _ = Op.assign (Operand.tmp 15) from rfl) (by rfl)) (by rfl) (by rfl) ?_
    refine Ls.nil ?_
    refine Cd.seq ?_
    refine Cd.seq ?_
    refine Cd.region ?_
    refine Ls.ev (some 16) (Ev.move (show Oper.op _ = Op.move (Operand.tmp 7) from rfl) (by rfl)) (by rfl) (by rfl) ?_
    refine Ls.ev (some 17) (Ev.neq (show Oper.op _ = Op.binOp BinOp.neq 30 (Operand.tmp 16) (Operand.const (Value.int IntKind.i64 0)) 30 from rfl) (by rfl) (by rfl)) (by rfl) (by rfl) ?_
    refine Ls.nil ?_
    refine Cd.cond_false (by rfl) (rfl) ?_
    refine Cd.skip ?_
    refine Cd.seq ?_
    refine Cd.label ?_
    refine Cd.seq ?_
    refine Cd.seq ?_
    refine Cd.region ?_
    refine Ls.ev (some 20) (Ev.move (show Oper.op _ = Op.move (Operand.tmp 1) from rfl) (by rfl)) (by rfl) (by rfl) ?_
    refine Ls.ev (some 21) (Ev.len (show Oper.op _ = Op.call { callee := Callee.builtin Builtin.len, args := #[Operand.tmp 20], argTypes := #[25] } from rfl) (by rfl) Try.underlying25) (by rfl) (by rfl) ?_
    refine Ls.ev (some 22) (Ev.move (show Oper.op _ = Op.move (Operand.const (Value.int IntKind.i64 0)) from rfl) (by rfl)) (by rfl) (by rfl) ?_
    refine Ls.nil ?_
    refine Cd.block ?_
    refine Ent.pick [11, 13, 14, 15, 9, 10, 0, 1, 2, 3, 4, 5, 6, 7, 8] (by rfl) ?_
    refine Cd.loop (ι := BeS × Nat) (fun p => [(4, .pointer (some ⟨g2, 0, none⟩)), (2, .pointer (some ⟨g1, 0, none⟩)), (5, .int .i64 0), (6, .pointer (some ⟨D.b, 0, none⟩)), (20, .slice EA l.length ec), (21, .int .i64 l.length), (22, .int .i64 p.2)]) (fun p => [blk g2 29 [.int .i64 0, .int .i64 0], evR EA l, evC l, evD l, G.b m, G.r m] ++ beP G m D p.2 p.1) (fun p => p.2 ≤ l.length ∧ p.1.Ok p.2 ∧ checkP m (l.map EvS.p) = goP m p.1.p p.2 ((l.drop p.2).map EvS.p)) (fun p => l.length - p.2) ((newBe, 0)) (⟨Nat.zero_le _, newBe_ok, by rw [newBe_p]; rfl⟩) ?_ rfl ?_
    · (repeat (first | exact trivial | refine ⟨by rfl, ?_⟩))
    rintro ⟨S, k⟩ ⟨hk, hS, hch⟩
    dsimp only at hk hS hch
    refine Cd.seq ?_
    refine Cd.region ?_
    refine Ls.ev (some 23) (Ev.lss (show Oper.op _ = Op.binOp BinOp.lss 3 (Operand.tmp 22) (Operand.tmp 21) 3 from rfl) (by rfl) (by rfl)) (by rfl) (by rfl) ?_
    refine Ls.nil ?_
    refine Cd.seq ?_
    refine Cd.cond _ (by rfl) (fun h => ?_) (fun h => ?_)
    · skip
      have hlt : k < l.length := by have := of_decide_eq_true h; omega
      obtain ⟨x, hxk⟩ := get_of_lt hlt
      have hxo := hx x (List.mem_of_getElem? hxk)
      have hst := goP_step (m := m) (s := S.p) hxk
      rw [← hch] at hst
      have hgd : l.getD k noE = x := by rw [List.getD_eq_getElem?_getD, hxk]; rfl
      have hse := see_sl G m hm D k (by omega) S hS x hxo
      refine Ent.rdSome 1 (by rfl) (by omega) (fun ad had => ?_)
      subst had
      refine Cd.skip ?_
      refine Cd.seq ?_
      refine Cd.block ?_
      refine Cd.seq ?_
      refine Cd.region ?_
      refine Ls.ev (some 24) (Ev.move (show Oper.op _ = Op.move (Operand.tmp 22) from rfl) (by rfl)) (by rfl) (by rfl) ?_
      refine Ls.ev (some 25) (Ev.indexAt (sz := 12) (show Oper.op _ = Op.indexAddr 25 (Operand.tmp 20) (Operand.tmp 22) from rfl) (by rfl) (by rfl) Try.underlying25 (by kernel_rfl) (by omega)) (by rfl) (by rfl) ?_
      refine Ls.ev (some 26) (Ev.loadEl (show Oper.op _ = Op.load 47 (Operand.tmp 25) from rfl) (by rfl) (ReadsIn.rd 1 (by rfl)) (by kernel_rfl) (by intro _; rfl) (by assumption)) (by rfl) (by rfl) ?_
      refine Ls.does (some 9) (Does.alloc (cs := [.int .i64 0, .int .i64 0, .int .i64 0, .int .i64 0, .int .i64 0, .int .i64 0, .int .i64 0, .slice none 0 0, .int .i64 0, .int .i64 0, .int .i64 0, .slice none 0 0]) (show Oper.op _ = Op.alloc 47 from rfl) (ZeroIs.mk (.agg #[.int .i64 0, .int .i64 0, .int .i64 0, .int .i64 0, .int .i64 0, .int .i64 0, .int .i64 0, .slice none 0 0, .int .i64 0, .int .i64 0, .int .i64 0, .slice none 0 0]) (by kernel_rfl) (by rfl))) (by rfl) (by rfl) ?_
      intro g3 _
      refine Ls.ev (some 8) (Ev.assign (show Oper.op _ = Op.assign (Operand.tmp 24) from rfl) (by rfl)) (by rfl) (by rfl) ?_
      refine Ls.does none (Does.store 0 (show Oper.op _ = Op.store 47 (Operand.tmp 9) (Operand.tmp 26) from rfl) (by rfl) (by rfl) (by rfl) (by kernel_rfl) (by rfl) (by kernel_rfl) (by rfl)) (by rfl) (by rfl) ?_
      intro _ _
      refine Ls.nil ?_
      refine Cd.seq ?_
      refine Ent.map (fun w hs => hs.starf_get 3 k rfl) ?_
      refine Ent.map (fun w hs => hs.starf_get 5 k rfl) ?_
      show Ent _ _ _ ((l.getD k noE).reply.rt.rd :: (l.getD k noE).call.rt.rd :: _) _
      rw [hgd]
      refine Cd.region ?_
      refine Ls.ev (some 27) (Ev.move (show Oper.op _ = Op.move (Operand.tmp 6) from rfl) (by rfl)) (by rfl) (by rfl) ?_
      refine Ls.ev (some 28) (Ev.loads 2 (show Oper.op _ = Op.load 47 (Operand.tmp 9) from rfl) (by rfl) (by rfl) (n := 12) (by kernel_rfl) (by rfl) (by rfl)) (by rfl) (by rfl) ?_
      refine Ls.does (some 29) (Does.call [9, 10, 11, 12, 13, 14, 15, 16, 17, 7, 8, 1, 0, 3, 4, 5, 6, 7, 8] (show Oper.op _ = Op.call { callee := Callee.value (Operand.func 16), args := #[Operand.tmp 27, Operand.tmp 28], argTypes := #[54, 47] } from rfl) Try.func16 (by kernel_rfl) (by kernel_rfl) (hse) (by rfl) (by rfl) (by rfl)) (by rfl) (by rfl) ?_
      rintro ⟨S', r⟩ ⟨hS', hp, hr⟩
      dsimp only at hS' hp hr
      rw [← hp, ← hr] at hst
      refine Ls.ev (some 10) (Ev.assign (show Oper.op _ = Op.assign (Operand.tmp 29) from rfl) (by rfl)) (by rfl) (by rfl) ?_
      refine Ls.nil ?_
      refine Cd.seq ?_
      refine Cd.seq ?_
      refine Cd.region ?_
      refine Ls.ev (some 30) (Ev.move (show Oper.op _ = Op.move (Operand.tmp 10) from rfl) (by rfl)) (by rfl) (by rfl) ?_
      refine Ls.ev (some 31) (Ev.eql (show Oper.op _ = Op.binOp BinOp.eql 3 (Operand.tmp 30) (Operand.const (Value.int IntKind.i64 0)) 3 from rfl) (by rfl) (by rfl)) (by rfl) (by rfl) ?_
      refine Ls.nil ?_
      refine Cd.cond _ (by rfl) (fun h2 => ?_) (fun h2 => ?_)
      · skip
        rw [if_pos (of_decide_eq_true h2)] at hst
        refine Cd.exit ?_
        refine Cd.region ?_
        refine Ls.ev (some 35) (Ev.addI (show Oper.op _ = Op.binOp BinOp.add 3 (Operand.tmp 22) (Operand.const (Value.int IntKind.i64 1)) 3 from rfl) (by rfl) (by rfl) (by omega)) (by rfl) (by rfl) ?_
        refine Ls.ev (some 22) (Ev.move (show Oper.op _ = Op.move (Operand.tmp 35) from rfl) (by rfl)) (by rfl) (by rfl) ?_
        refine Ls.nil ?_
        refine Ent.pick [9, 10, 11, 12, 13, 14, 0, 1, 2, 3, 4, 5, 6, 7, 8] (by rfl) ?_
        refine Ent.inv ((S', k + 1)) ?_ ?_ ?_
        · (try dsimp only); exact ⟨⟨hlt, hS', hst⟩, by omega⟩
        · (repeat (first | exact trivial | refine ⟨by rfl, ?_⟩ | refine ⟨by simp only [List.length_append, List.length_cons, List.length_nil]; rfl, ?_⟩ | refine ⟨by push_cast; rfl, ?_⟩))
        · rfl
      · skip
        rw [if_neg (of_decide_eq_false h2)] at hst
        rw [hst]
        refine Cd.skip ?_
        refine Cd.seq ?_
        refine Ent.pick [9] (by rfl) ?_
        refine Cd.region ?_
        refine Ls.ev (some 32) (Ev.move (show Oper.op _ = Op.move (Operand.tmp 8) from rfl) (by rfl)) (by rfl) (by rfl) ?_
        refine Ls.ev (some 33) (Ev.move (show Oper.op _ = Op.move (Operand.tmp 10) from rfl) (by rfl)) (by rfl) (by rfl) ?_
        refine Ls.ev (some 34) (Ev.buildP (pl := [(0, 1), (1, 1)]) (zs := [.int .i64 0, .int .i64 0]) (show Oper.op _ = Op.build 29 #[(0, Operand.tmp 32), (1, Operand.tmp 33)] from rfl) (by rfl) (by kernel_rfl) (by rfl)) (by rfl) (by rfl) ?_
        refine Ls.does none (Does.store 0 (show Oper.op _ = Op.store 29 (Operand.tmp 4) (Operand.tmp 34) from rfl) (by rfl) (by rfl) (by rfl) (by kernel_rfl) (by rfl) (by kernel_rfl) (by rfl)) (by rfl) (by rfl) ?_
        intro _ _
        refine Ls.ev (some 5) (Ev.assign (show Oper.op _ = Op.assign (Operand.const (Value.int IntKind.i64 0)) from rfl) (by rfl)) (by rfl) (by rfl) ?_
        refine Ls.nil ?_
        refine Cd.ret ?_
        refine Ent.ret (()) (trivial) (Res.cell_tmp 0 (by rfl) (by rfl) (by rfl) (n := 2) (by kernel_rfl) (by rfl) (by rfl) (by rfl)) ?_ [] (by rfl) ?_
        · rfl
        · rfl
    · skip
      have hk2 : l.length ≤ k := by have := of_decide_eq_false h; omega
      rw [List.drop_eq_nil_of_le hk2] at hch
      rw [hch]
      refine Cd.exit ?_
      refine Cd.seq ?_
      refine Cd.region ?_
      refine Ls.ev (some 36) (Ev.buildP (pl := [(0, 1), (1, 1)]) (zs := [.int .i64 0, .int .i64 0]) (show Oper.op _ = Op.build 29 #[] from rfl) (by rfl) (by kernel_rfl) (by rfl)) (by rfl) (by rfl) ?_
      refine Ls.does none (Does.store 0 (show Oper.op _ = Op.store 29 (Operand.tmp 4) (Operand.tmp 36) from rfl) (by rfl) (by rfl) (by rfl) (by kernel_rfl) (by rfl) (by kernel_rfl) (by rfl)) (by rfl) (by rfl) ?_
      intro _ _
      refine Ls.ev (some 5) (Ev.assign (show Oper.op _ = Op.assign (Operand.const (Value.int IntKind.i64 0)) from rfl) (by rfl)) (by rfl) (by rfl) ?_
      refine Ls.nil ?_
      refine Ent.pick [0] (by rfl) ?_
      refine Cd.ret ?_
      refine Ent.ret (()) (trivial) (Res.cell_tmp 0 (by rfl) (by rfl) (by rfl) (n := 2) (by kernel_rfl) (by rfl) (by rfl) (by rfl)) ?_ [] (by rfl) ?_
      · rfl
      · rfl
end
end Go.Proofs.Ytegjoabfoddadaa
/- the statements' own: Own, own -/
namespace Go.Proofs.Ytegjoabfoddadaa
open Go.RowKit
/-- An event of what comes in. -/
structure EvS.Pre (x : EvS) : Prop where
  robot : in64 x.robot
  id : in64 x.id
  call : x.call.rt.l.length ≤ x.call.rt.c
  reply : x.reply.rt.l.length ≤ x.reply.rt.c
theorem rd_pre {w : World} {B : Nat} {A : Option Addr} {l : List Int} (h : Reads w B 1 A l.length (ints l)) : Reads w B 1 A (min l.length 40) (ints (l.take 40)) := by
  have := h.take (k := min l.length 40) (Nat.min_le_left _ _)
  rw [Nat.mul_one] at this
  rwa [show ints (l.take 40) = (ints l).take (min l.length 40) by
    unfold ints
    rw [← List.map_take]
    congr 1
    rcases Nat.le_total l.length 40 with h | h
    · rw [Nat.min_eq_left h, List.take_of_length_le h, List.take_length]
    · rw [Nat.min_eq_right h]]
theorem own13_sl (x : RtS) (hc : x.l.length ≤ x.c) : Fn Try.prog 14 #[.agg x.enc.toArray] [x.rd] RtS (fun z => .agg z.enc.toArray) (fun z => [z.row]) (fun z => z.s = x.s ∧ z.l = x.l.take 40) := by
  obtain ⟨s, A, c, l⟩ := x
  dsimp only [RtS.enc, RtS.rd] at hc ⊢
  refine Fn.enter Try.func14 rfl Try.ntmps14 (by rfl) ?_
  intro w0
  refine Cd.seq ?_
  refine Cd.region ?_
  refine Ls.does (some 1) (Does.box (show Oper.op _ = Op.box 41 (Operand.tmp 0) from rfl) (by rfl)) (by rfl) (by rfl) ?_
  intro g1 _
  refine Ls.does (some 2) (Does.alloc (cs := [.int .i64 0, .slice none 0 0]) (show Oper.op _ = Op.alloc 41 from rfl) (ZeroIs.mk (.agg #[.int .i64 0, .slice none 0 0]) (by kernel_rfl) (by rfl))) (by rfl) (by rfl) ?_
  intro g2 _
  refine Ls.nil ?_
  refine Cd.seq ?_
  refine Cd.region ?_
  refine Ls.does (some 3) (Does.lit0 (sz := 1) (show Oper.op _ = Op.buildSlice 22 0 #[] from rfl) Try.underlying22 (by kernel_rfl)) (by rfl) (by rfl) ?_
  intro g3 _
  refine Ls.ev (some 4) (Ev.fieldAddr (k := 1) (show Oper.op _ = Op.fieldAddr 41 (Operand.tmp 1) 1 from rfl) (by rfl) (by kernel_rfl) (by rfl)) (by rfl) (by rfl) ?_
  refine Ls.ev (some 5) (Ev.load 2 (show Oper.op _ = Op.load 22 (Operand.tmp 4) from rfl) (by rfl) (by rfl) (by kernel_rfl) (by rfl)) (by rfl) (by rfl) ?_
  refine Ls.ev (some 6) (Ev.fieldAddr (k := 1) (show Oper.op _ = Op.fieldAddr 41 (Operand.tmp 1) 1 from rfl) (by rfl) (by kernel_rfl) (by rfl)) (by rfl) (by rfl) ?_
  refine Ls.ev (some 7) (Ev.load 2 (show Oper.op _ = Op.load 22 (Operand.tmp 6) from rfl) (by rfl) (by rfl) (by kernel_rfl) (by rfl)) (by rfl) (by rfl) ?_
  refine Ls.ev (some 8) (Ev.len (show Oper.op _ = Op.call { callee := Callee.builtin Builtin.len, args := #[Operand.tmp 7], argTypes := #[22] } from rfl) (by rfl) Try.underlying22) (by rfl) (by rfl) ?_
  refine Ls.ev (some 9) (Ev.minN (show Oper.op _ = Op.call { callee := Callee.builtin Builtin.min, args := #[Operand.tmp 8, Operand.const (Value.int IntKind.i64 40)], argTypes := #[3, 3] } from rfl) (by rfl) (by rfl) rfl) (by rfl) (by rfl) ?_
  refine Ls.ev (some 10) (Ev.sliceHn (sz := 1) (show Oper.op _ = Op.slice 22 (Operand.tmp 5) none (some (Operand.tmp 9)) none from rfl) (by rfl) (by rfl) Try.underlying22 (by kernel_rfl) (by omega)) (by rfl) (by rfl) ?_
  refine Ls.does (some 11) (Does.app (news := ints (l.take 40)) 0 (show Oper.op _ = Op.call { callee := Callee.builtin Builtin.append, args := #[Operand.tmp 3, Operand.tmp 10], argTypes := #[22, 22] } from rfl) (by rfl) (by rfl) (by rfl) (fun w hs => rd_pre (ReadsIn.rd 3 (by rfl) w hs)) elem_int (one_ints _) (by omega)) (by rfl) (by rfl) ?_
  rintro q -
  refine Ls.ev (some 12) (Ev.fieldAddr (k := 1) (show Oper.op _ = Op.fieldAddr 41 (Operand.tmp 1) 1 from rfl) (by rfl) (by kernel_rfl) (by rfl)) (by rfl) (by rfl) ?_
  refine Ls.does none (Does.store 2 (show Oper.op _ = Op.store 22 (Operand.tmp 12) (Operand.tmp 11) from rfl) (by rfl) (by rfl) (by rfl) (by kernel_rfl) (by rfl) (by kernel_rfl) (by rfl)) (by rfl) (by rfl) ?_
  intro _ _
  refine Ls.nil ?_
  refine Cd.seq ?_
  refine Cd.region ?_
  refine Ls.ev (some 13) (Ev.loads 2 (show Oper.op _ = Op.load 41 (Operand.tmp 1) from rfl) (by rfl) (by rfl) (n := 2) (by kernel_rfl) (by rfl) (by rfl)) (by rfl) (by rfl) ?_
  refine Ls.does none (Does.store 1 (show Oper.op _ = Op.store 41 (Operand.tmp 2) (Operand.tmp 13) from rfl) (by rfl) (by rfl) (by rfl) (by kernel_rfl) (by rfl) (by kernel_rfl) (by rfl)) (by rfl) (by rfl) ?_
  intro _ _
  refine Ls.nil ?_
  refine Cd.ret ?_
  refine Ent.ret (⟨s, q.1, q.2, l.take 40⟩) (⟨rfl, rfl⟩) (Res.cell 1 (by rfl) (by rfl) (by rfl) (n := 2) (by kernel_rfl) (by rfl) (by rfl)) ?_ [0] (by rfl) ?_
  · dsimp only [RtS.enc]
    rw [show (l.take 40).length = 0 + min l.length 40 by rw [List.length_take]; omega]
    rfl
  · dsimp only [RtS.row]
    rw [show (l.take 40).length = 0 + min l.length 40 by rw [List.length_take]; omega]
    rfl
/-- A history of one's own. -/
def ownR (r : RtP) : RtP := ⟨r.start, r.cells.take 40⟩
def ownE (x : EvP) : EvP := { x with call := { x.call with route := ownR x.call.route }, reply := { x.reply with route := ownR x.reply.route } }
def ownP (l : List EvP) : List EvP := (l.take 120).map ownE
abbrev evW (A : Option Addr) (c : Nat) (l : List EvS) : Chunk := row A l.length c 47 12 (l.flatMap EvS.enc)
theorem fam_add {l : List EvS} {x : EvS} {F : EvS → Chunk} (k : Nat) (_ : F noE = rd none 0 1 []) : F ((l ++ [x]).getD k noE) = F (l.getD k noE) ∨ F ((l ++ [x]).getD k noE) = F x := by
  rw [List.getD_eq_getElem?_getD, List.getElem?_append]
  split
  · exact .inl (by rw [List.getD_eq_getElem?_getD])
  · cases h : k - l.length with
    | zero => exact .inr rfl
    | succ n =>
      refine .inl ?_
      rw [List.getD_eq_getElem?_getD, List.getElem?_eq_none (show l.length ≤ k by omega)]
      rfl
theorem own_step {l o : List EvS} {k : Nat} {x x' : EvS} (h : o.map EvS.p = ((l.take k).map EvS.p).map ownE) (hk : l[k]? = some x) (hx : x'.p = ownE x.p) : (o ++ [x']).map EvS.p = ((l.take (k + 1)).map EvS.p).map ownE := by
  rw [List.take_add_one, hk, List.map_append, h]
  simp [hx]
theorem own_p {x : EvS} {z y : RtS} (h1 : z.s = x.call.rt.s) (h2 : z.l = x.call.rt.l.take 40) (h3 : y.s = x.reply.rt.s) (h4 : y.l = x.reply.rt.l.take 40) : (⟨x.kind, x.robot, x.id, x.tick, ⟨x.call.verb, x.call.ep, z⟩, ⟨x.reply.code, x.reply.ep, y⟩⟩ : EvS).p = ownE x.p := by
  obtain ⟨zs, zA, zc, zl⟩ := z
  obtain ⟨ys, yA, yc, yl⟩ := y
  dsimp only at h1 h2 h3 h4
  subst h1 h2 h3 h4
  rfl
theorem own_ok {x : EvS} {z y : RtS} (h : x.Pre) (h2 : z.l = x.call.rt.l.take 40) (h3 : z.l.length ≤ z.c) (h4 : y.l = x.reply.rt.l.take 40) (h5 : y.l.length ≤ y.c) : (⟨x.kind, x.robot, x.id, x.tick, ⟨x.call.verb, x.call.ep, z⟩, ⟨x.reply.code, x.reply.ep, y⟩⟩ : EvS).Ok ∧ (⟨x.kind, x.robot, x.id, x.tick, ⟨x.call.verb, x.call.ep, z⟩, ⟨x.reply.code, x.reply.ep, y⟩⟩ : EvS).Pre := ⟨⟨h.robot, h.id, ⟨by show z.l.length ≤ 100; rw [h2, List.length_take]; omega, h3⟩, by show y.l.length ≤ 100; rw [h4, List.length_take]; omega⟩, h.robot, h.id, h3, h5⟩
theorem one_ev (x : EvS) : ∀ u ∈ x.enc, u.oneCell' = true := fun u hx => by
  unfold EvS.enc at hx
  simp at hx
  rcases hx with rfl | rfl | rfl | rfl | rfl | rfl | rfl | rfl | rfl | rfl | rfl | rfl <;> rfl
theorem elem_ev : Elem Try.prog 25 47 12 128 := elem_of (by kernel_rfl)
theorem one_evs (l : List EvS) : ∀ u ∈ l.flatMap EvS.enc, u.oneCell' = true := fun u hu => by
  obtain ⟨x, -, hx⟩ := List.mem_flatMap.1 hu
  unfold EvS.enc at hx
  simp at hx
  rcases hx with rfl | rfl | rfl | rfl | rfl | rfl | rfl | rfl | rfl | rfl | rfl | rfl <;> rfl
set_option maxRecDepth 20000 in
set_option maxHeartbeats 2000000 in
theorem own23_sl (A : Option Addr) (c : Nat) (l : List EvS) (hx : ∀ x ∈ l, x.Pre) : Fn Try.prog 7 #[.slice A l.length c] [evR A l, evC l, evD l] (Option Addr × Nat × List EvS) (fun q => .slice q.1 q.2.2.length q.2.1) (fun q => [evW q.1 q.2.1 q.2.2, evC q.2.2, evD q.2.2]) (fun q => q.2.2.map EvS.p = ownP (l.map EvS.p) ∧ ∀ x ∈ q.2.2, x.Ok ∧ x.Pre) := by
  refine Fn.enter Try.func7 rfl Try.ntmps7 (by rfl) ?_
  intro w0
  refine Cd.seq ?_
  refine Cd.region ?_
  refine Ls.ev (some 2) (Ev.assign (show Oper.op _ = Op.assign (Operand.const (Value.slice none 0 0)) from rfl) (by rfl)) (by rfl) (by rfl) ?_
  refine Ls.nil ?_
  refine Cd.seq ?_
  refine Cd.region ?_
  refine Ls.ev (some 3) (Ev.assign (show Oper.op _ = Op.assign (Operand.const (Value.slice none 0 0)) from rfl) (by rfl)) (by rfl) (by rfl) ?_
  refine Ls.nil ?_
  refine Cd.seq ?_
  refine Cd.seq ?_
  refine Ent.nil 47 12 ?_
  refine Ent.map (fun w hs => Sat.starf_no (F := fun k : Nat => (([] : List EvS).getD k noE).call.rt.rd) (fun _ => rfl) hs) ?_
  refine Ent.map (fun w hs => Sat.starf_no (F := fun k : Nat => (([] : List EvS).getD k noE).reply.rt.rd) (fun _ => rfl) hs) ?_
  refine Ent.pick [2, 1, 0, 3, 4, 5] (by rfl) ?_
  refine Cd.region ?_
  refine Ls.ev (some 4) (Ev.assign (show Oper.op _ = Op.assign (Operand.const (Value.int IntKind.i64 0)) from rfl) (by rfl)) (by rfl) (by rfl) ?_
  refine Ls.nil ?_
  refine Cd.block ?_
  refine Cd.loop (ι := Nat × Option Addr × Nat × List EvS) (fun j => [(0, .slice A l.length c), (3, .slice j.2.1 j.2.2.2.length j.2.2.1), (4, .int .i64 j.1)]) (fun j => [evW j.2.1 j.2.2.1 j.2.2.2, evC j.2.2.2, evD j.2.2.2, evR A l, evC l, evD l]) (fun j => j.1 ≤ l.length ∧ j.1 ≤ 120 ∧ j.2.2.2.length = j.1 ∧ j.2.2.2.map EvS.p = ((l.take j.1).map EvS.p).map ownE ∧ ∀ x ∈ j.2.2.2, x.Ok ∧ x.Pre) (fun j => 120 - j.1) ((0, none, 0, [])) (⟨Nat.zero_le _, Nat.zero_le _, rfl, rfl, fun _ h => by cases h⟩) ?_ rfl ?_
  · (repeat (first | exact trivial | refine ⟨by rfl, ?_⟩))
  rintro ⟨k, D, d, o⟩ ⟨hk1, hk2, hol, hop, hok⟩
  dsimp only at hk1 hk2 hol hop hok ⊢
  refine Cd.seq ?_
  refine Cd.seq ?_
  refine Cd.cut (ι := Unit) (fun _ => [(0, .slice A l.length c), (3, .slice D o.length d), (4, .int .i64 k), (13, .bool (decide ((k : Int) < l.length ∧ (k : Int) < 120)))]) (fun _ => [evW D d o, evC o, evD o, evR A l, evC l, evD l]) (fun _ => True) ?_ ?_
  · skip
    refine Cd.region ?_
    refine Ls.ev (some 6) (Ev.move (show Oper.op _ = Op.move (Operand.tmp 4) from rfl) (by rfl)) (by rfl) (by rfl) ?_
    refine Ls.ev (some 7) (Ev.move (show Oper.op _ = Op.move (Operand.tmp 0) from rfl) (by rfl)) (by rfl) (by rfl) ?_
    refine Ls.ev (some 8) (Ev.len (show Oper.op _ = Op.call { callee := Callee.builtin Builtin.len, args := #[Operand.tmp 7], argTypes := #[25] } from rfl) (by rfl) Try.underlying25) (by rfl) (by rfl) ?_
    refine Ls.ev (some 9) (Ev.lss (show Oper.op _ = Op.binOp BinOp.lss 3 (Operand.tmp 6) (Operand.tmp 8) 3 from rfl) (by rfl) (by rfl)) (by rfl) (by rfl) ?_
    refine Ls.ev (some 10) (Ev.move (show Oper.op _ = Op.move (Operand.tmp 9) from rfl) (by rfl)) (by rfl) (by rfl) ?_
    refine Ent.split 10 (by rfl) (fun hT1 => ?_) (fun hT1 => ?_)
    · first | have hT1 := of_decide_eq_false hT1 | have hT1 := of_not_decide_false hT1 | skip
      refine Ls.pass (some 11) (by rfl) (by rfl) ?_
      refine Ls.pass (some 12) (by rfl) (by rfl) ?_
      refine Ls.ev (some 13) (Ev.pickF (show Oper.op _ = Op.pick (Operand.tmp 10) (Operand.tmp 12) (Operand.const (Value.bool false)) from rfl) (by rfl) (by rfl)) (by rfl) (by rfl) ?_
      refine Ls.nil ?_
      refine Ent.inv () ?_ ?_ ?_
      · exact trivial
      · (repeat (first | exact trivial | refine ⟨by rfl, ?_⟩ | refine ⟨by simp only [List.length_append, List.length_cons, List.length_nil]; rfl, ?_⟩ | refine ⟨by push_cast; rfl, ?_⟩ | refine ⟨by (show some (Value.bool _) = some (Value.bool _); congr 2; first | rfl | exact (decide_eq_true (by omega)).symm | exact (decide_eq_false (by omega)).symm | exact decide_eq_decide.2 (by omega)), ?_⟩))
      · rfl
    · first | have hT1 := of_decide_eq_true hT1 | have hT1 := of_not_decide_true hT1 | skip
      refine Ls.ev (some 11) (Ev.move (show Oper.op _ = Op.move (Operand.tmp 4) from rfl) (by rfl)) (by rfl) (by rfl) ?_
      refine Ls.ev (some 12) (Ev.lss (show Oper.op _ = Op.binOp BinOp.lss 3 (Operand.tmp 11) (Operand.const (Value.int IntKind.i64 120)) 3 from rfl) (by rfl) (by rfl)) (by rfl) (by rfl) ?_
      refine Ls.ev (some 13) (Ev.pickT (show Oper.op _ = Op.pick (Operand.tmp 10) (Operand.tmp 12) (Operand.const (Value.bool false)) from rfl) (by rfl) (by rfl)) (by rfl) (by rfl) ?_
      refine Ls.nil ?_
      refine Ent.inv () ?_ ?_ ?_
      · exact trivial
      · (repeat (first | exact trivial | refine ⟨by rfl, ?_⟩ | refine ⟨by simp only [List.length_append, List.length_cons, List.length_nil]; rfl, ?_⟩ | refine ⟨by push_cast; rfl, ?_⟩ | refine ⟨by (show some (Value.bool _) = some (Value.bool _); congr 2; first | rfl | exact (decide_eq_true (by omega)).symm | exact (decide_eq_false (by omega)).symm | exact decide_eq_decide.2 (by omega)), ?_⟩))
      · rfl
  skip
  rintro _ -
  refine Cd.cond _ (by rfl) (fun h => ?_) (fun h => ?_)
  · skip
    obtain ⟨hlt, hlt2⟩ := of_decide_eq_true h
    have hlt : k < l.length := by omega
    have hlt2 : k < 120 := by omega
    obtain ⟨x, hxk⟩ := get_of_lt hlt
    have hxp := hx x (List.mem_of_getElem? hxk)
    have hgd : l.getD k noE = x := by rw [List.getD_eq_getElem?_getD, hxk]; rfl
    refine Ent.rdSome 3 (by rfl) (by omega) (fun ad had => ?_)
    subst had
    refine Cd.skip ?_
    refine Cd.seq ?_
    refine Cd.block ?_
    refine Cd.seq ?_
    refine Cd.region ?_
    refine Ls.ev (some 16) (Ev.move (show Oper.op _ = Op.move (Operand.tmp 0) from rfl) (by rfl)) (by rfl) (by rfl) ?_
    refine Ls.ev (some 17) (Ev.move (show Oper.op _ = Op.move (Operand.tmp 4) from rfl) (by rfl)) (by rfl) (by rfl) ?_
    refine Ls.ev (some 18) (Ev.indexAt (sz := 12) (show Oper.op _ = Op.indexAddr 25 (Operand.tmp 16) (Operand.tmp 17) from rfl) (by rfl) (by rfl) Try.underlying25 (by kernel_rfl) (by omega)) (by rfl) (by rfl) ?_
    refine Ls.ev (some 19) (Ev.loadEl (show Oper.op _ = Op.load 47 (Operand.tmp 18) from rfl) (by rfl) (ReadsIn.rd 3 (by rfl)) (by kernel_rfl) (by intro _; rfl) (by assumption)) (by rfl) (by rfl) ?_
    refine Ls.does (some 5) (Does.alloc (cs := [.int .i64 0, .int .i64 0, .int .i64 0, .int .i64 0, .int .i64 0, .int .i64 0, .int .i64 0, .slice none 0 0, .int .i64 0, .int .i64 0, .int .i64 0, .slice none 0 0]) (show Oper.op _ = Op.alloc 47 from rfl) (ZeroIs.mk (.agg #[.int .i64 0, .int .i64 0, .int .i64 0, .int .i64 0, .int .i64 0, .int .i64 0, .int .i64 0, .slice none 0 0, .int .i64 0, .int .i64 0, .int .i64 0, .slice none 0 0]) (by kernel_rfl) (by rfl))) (by rfl) (by rfl) ?_
    intro g1 _
    refine Ls.does none (Does.store 0 (show Oper.op _ = Op.store 47 (Operand.tmp 5) (Operand.tmp 19) from rfl) (by rfl) (by rfl) (by rfl) (by kernel_rfl) (by rfl) (by kernel_rfl) (by rfl)) (by rfl) (by rfl) ?_
    intro _ _
    refine Ls.nil ?_
    refine Cd.seq ?_
    refine Ent.map (fun w hs => hs.starf_get 5 k rfl) ?_
    refine Ent.map (fun w hs => hs.starf_get 7 k rfl) ?_
    show Ent _ _ _ ((l.getD k noE).reply.rt.rd :: (l.getD k noE).call.rt.rd :: _) _
    rw [hgd]
    refine Ent.pick [0, 1, 2, 3, 4, 5, 6, 7, 8] (by rfl) ?_
    refine Cd.region ?_
    refine Ls.ev (some 20) (Ev.fieldAddr (k := 4) (show Oper.op _ = Op.fieldAddr 47 (Operand.tmp 5) 4 from rfl) (by rfl) (by kernel_rfl) (by rfl)) (by rfl) (by rfl) ?_
    refine Ls.ev (some 21) (Ev.fieldAddr (k := 2) (show Oper.op _ = Op.fieldAddr 43 (Operand.tmp 20) 2 from rfl) (by rfl) (by kernel_rfl) (by rfl)) (by rfl) (by rfl) ?_
    refine Ls.ev (some 22) (Ev.loads 2 (show Oper.op _ = Op.load 41 (Operand.tmp 21) from rfl) (by rfl) (by rfl) (n := 2) (by kernel_rfl) (by rfl) (by rfl)) (by rfl) (by rfl) ?_
    refine Ls.does (some 23) (Does.readN (show Oper.op _ = Op.call { callee := Callee.value (Operand.func 14), args := #[Operand.tmp 22], argTypes := #[41] } from rfl) Try.func14 (by kernel_rfl) (by kernel_rfl) (own13_sl x.call.rt hxp.call) (by rfl) (by rfl) ⟨ReadsIn.rd 1 (by rfl), trivial⟩ (fun _ => by rfl)) (by rfl) (by rfl) ?_
    rintro z ⟨hz1, hz2⟩
    refine Ent.fact 0 (by rfl) (p := z.l.length ≤ z.c) (fun w hw => Own.le hw) (fun hzc => ?_)
    refine Ent.see 0 (by rfl) ?_
    refine Ls.ev (some 24) (Ev.fieldAddr (k := 4) (show Oper.op _ = Op.fieldAddr 47 (Operand.tmp 5) 4 from rfl) (by rfl) (by kernel_rfl) (by rfl)) (by rfl) (by rfl) ?_
    refine Ls.ev (some 25) (Ev.fieldAddr (k := 2) (show Oper.op _ = Op.fieldAddr 43 (Operand.tmp 24) 2 from rfl) (by rfl) (by kernel_rfl) (by rfl)) (by rfl) (by rfl) ?_
    refine Ls.does none (Does.store 3 (show Oper.op _ = Op.store 41 (Operand.tmp 25) (Operand.tmp 23) from rfl) (by rfl) (by rfl) (by rfl) (by kernel_rfl) (by rfl) (by kernel_rfl) (by rfl)) (by rfl) (by rfl) ?_
    intro _ _
    refine Ls.nil ?_
    refine Cd.seq ?_
    refine Cd.region ?_
    refine Ls.ev (some 26) (Ev.fieldAddr (k := 8) (show Oper.op _ = Op.fieldAddr 47 (Operand.tmp 5) 5 from rfl) (by rfl) (by kernel_rfl) (by rfl)) (by rfl) (by rfl) ?_
    refine Ls.ev (some 27) (Ev.fieldAddr (k := 2) (show Oper.op _ = Op.fieldAddr 45 (Operand.tmp 26) 2 from rfl) (by rfl) (by kernel_rfl) (by rfl)) (by rfl) (by rfl) ?_
    refine Ls.ev (some 28) (Ev.loads 3 (show Oper.op _ = Op.load 41 (Operand.tmp 27) from rfl) (by rfl) (by rfl) (n := 2) (by kernel_rfl) (by rfl) (by rfl)) (by rfl) (by rfl) ?_
    refine Ls.does (some 29) (Does.readN (show Oper.op _ = Op.call { callee := Callee.value (Operand.func 14), args := #[Operand.tmp 28], argTypes := #[41] } from rfl) Try.func14 (by kernel_rfl) (by kernel_rfl) (own13_sl x.reply.rt hxp.reply) (by rfl) (by rfl) ⟨ReadsIn.rd 1 (by rfl), trivial⟩ (fun _ => by rfl)) (by rfl) (by rfl) ?_
    rintro y ⟨hy1, hy2⟩
    refine Ent.fact 0 (by rfl) (p := y.l.length ≤ y.c) (fun w hw => Own.le hw) (fun hyc => ?_)
    refine Ent.see 0 (by rfl) ?_
    refine Ls.ev (some 30) (Ev.fieldAddr (k := 8) (show Oper.op _ = Op.fieldAddr 47 (Operand.tmp 5) 5 from rfl) (by rfl) (by kernel_rfl) (by rfl)) (by rfl) (by rfl) ?_
    refine Ls.ev (some 31) (Ev.fieldAddr (k := 2) (show Oper.op _ = Op.fieldAddr 45 (Operand.tmp 30) 2 from rfl) (by rfl) (by kernel_rfl) (by rfl)) (by rfl) (by rfl) ?_
    refine Ls.does none (Does.store 4 (show Oper.op _ = Op.store 41 (Operand.tmp 31) (Operand.tmp 29) from rfl) (by rfl) (by rfl) (by rfl) (by kernel_rfl) (by rfl) (by kernel_rfl) (by rfl)) (by rfl) (by rfl) ?_
    intro _ _
    refine Ls.nil ?_
    refine Cd.region ?_
    refine Ls.ev (some 32) (Ev.move (show Oper.op _ = Op.move (Operand.tmp 3) from rfl) (by rfl)) (by rfl) (by rfl) ?_
    refine Ls.ev (some 33) (Ev.loads 4 (show Oper.op _ = Op.load 47 (Operand.tmp 5) from rfl) (by rfl) (by rfl) (n := 12) (by kernel_rfl) (by rfl) (by rfl)) (by rfl) (by rfl) ?_
    refine Ls.does (some 34) (Does.lit (sz := 12) (show Oper.op _ = Op.buildSlice 25 1 #[(0, Operand.tmp 33)] from rfl) (by rfl) Try.underlying25 (by kernel_rfl) (by rfl) (by kernel_rfl)) (by rfl) (by rfl) ?_
    intro g2 _
    obtain ⟨x', hx'⟩ : ∃ x' : EvS, x' = ⟨x.kind, x.robot, x.id, x.tick, ⟨x.call.verb, x.call.ep, z⟩, ⟨x.reply.code, x.reply.ep, y⟩⟩ := ⟨_, rfl⟩
    refine Ls.does (some 35) (Does.app (xs := o.flatMap EvS.enc) (news := (⟨x.kind, x.robot, x.id, x.tick, ⟨x.call.verb, x.call.ep, z⟩, ⟨x.reply.code, x.reply.ep, y⟩⟩ : EvS).enc) 6 (show Oper.op _ = Op.call { callee := Callee.builtin Builtin.append, args := #[Operand.tmp 32, Operand.tmp 34], argTypes := #[25, 25] } from rfl) (by rfl) (by rfl) (by rfl) (ReadsIn.row 0 (by rfl)) elem_ev (one_ev _) (by omega)) (by rfl) (by rfl) ?_
    rintro q -
    refine Ls.ev (some 3) (Ev.assign (show Oper.op _ = Op.assign (Operand.tmp 35) from rfl) (by rfl)) (by rfl) (by rfl) ?_
    refine Ls.nil ?_
    refine Cd.region ?_
    refine Ls.ev (some 14) (Ev.move (show Oper.op _ = Op.move (Operand.tmp 4) from rfl) (by rfl)) (by rfl) (by rfl) ?_
    refine Ls.ev (some 15) (Ev.addI (show Oper.op _ = Op.binOp BinOp.add 3 (Operand.tmp 14) (Operand.const (Value.int IntKind.i64 1)) 3 from rfl) (by rfl) (by rfl) (by omega)) (by rfl) (by rfl) ?_
    refine Ls.ev (some 4) (Ev.assign (show Oper.op _ = Op.assign (Operand.tmp 15) from rfl) (by rfl)) (by rfl) (by rfl) ?_
    refine Ls.nil ?_
    refine Ent.pick [2, 7, 8, 1, 6, 9, 10, 11] (by rfl) ?_
    refine Ent.map (fun w hs => Sat.starf_put (F := fun k : Nat => (o.getD k noE).call.rt.rd) (G := fun k : Nat => ((o ++ [x']).getD k noE).call.rt.rd) (C := z.rd) rfl (fun k => by subst hx'; exact fam_add (F := fun x => x.call.rt.rd) k rfl) hs) ?_
    refine Ent.pick [2, 1, 0, 3, 4, 5, 6] (by rfl) ?_
    refine Ent.map (fun w hs => Sat.starf_put (F := fun k : Nat => (o.getD k noE).reply.rt.rd) (G := fun k : Nat => ((o ++ [x']).getD k noE).reply.rt.rd) (C := y.rd) rfl (fun k => by subst hx'; exact fam_add (F := fun x => x.reply.rt.rd) k rfl) hs) ?_
    refine Ent.pick [2, 1, 0, 3, 4, 5] (by rfl) ?_
    refine Ent.inv ((k + 1, q.1, q.2, o ++ [x'])) ?_ ?_ ?_
    · (try dsimp only); exact ⟨⟨by omega, by omega, by rw [List.length_append, hol]; rfl, own_step hop hxk (by subst hx'; exact own_p hz1 hz2 hy1 hy2), fun u hu => (List.mem_append.1 hu).elim (hok u) (fun h => by rw [List.mem_singleton.1 h]; subst hx'; exact own_ok hxp hz2 hzc hy2 hyc)⟩, by omega⟩
    · (repeat (first | exact trivial | refine ⟨by rfl, ?_⟩ | refine ⟨by simp only [List.length_append, List.length_cons, List.length_nil]; rfl, ?_⟩ | refine ⟨by push_cast; rfl, ?_⟩ | refine ⟨by (show some (Value.slice _ _ _) = some (Value.slice _ _ _); dsimp only; rw [List.length_append]; rfl), ?_⟩))
    · (show [_, _, _, _, _, _] = [_, _, _, _, _, _]; dsimp only [evW]; subst hx'; rw [List.length_append, List.flatMap_append]; rfl)
  · skip
    have h := of_decide_eq_false h
    have he : o.map EvS.p = ownP (l.map EvS.p) := by
      rw [hop]
      unfold ownP
      rw [← List.map_take]
      congr 2
      rcases Nat.lt_or_ge k 120 with h1 | h1
      · rw [List.take_of_length_le (show l.length ≤ k by omega), List.take_of_length_le (show l.length ≤ 120 by omega)]
      · rw [show k = 120 by omega]
    refine Cd.exit ?_
    refine Cd.seq ?_
    refine Cd.region ?_
    refine Ls.ev (some 36) (Ev.move (show Oper.op _ = Op.move (Operand.tmp 3) from rfl) (by rfl)) (by rfl) (by rfl) ?_
    refine Ls.ev (some 2) (Ev.assign (show Oper.op _ = Op.assign (Operand.tmp 36) from rfl) (by rfl)) (by rfl) (by rfl) ?_
    refine Ls.nil ?_
    refine Cd.ret ?_
    refine Ent.ret ((D, d, o)) (⟨he, hok⟩) (Res.tmp (by rfl) (by rfl)) ?_ [0, 1, 2] (by rfl) ?_
    · rfl
    · rfl
end Go.Proofs.Ytegjoabfoddadaa
/- the statements' awake -/
namespace Go.Proofs.Ytegjoabfoddadaa
open Go.RowKit
theorem anyIn {Γ : Ctx} {H : List Chunk} {C : Chunk} (i : Nat) (hi : H[i]? = some C) : ∀ w, Sat Γ H w → C.holds w := fun _ hs => hs.mem hi
def awM : MapP := ⟨2, 1, 1, []⟩
def awR : RepS := ⟨0, 1, noS⟩
def awL : List EvS := [⟨1, 0, 1, 0, ⟨1, 0, noS⟩, noRp⟩, ⟨3, 0, 1, 0, noC, awR⟩, ⟨2, 0, 1, 0, noC, awR⟩]
def awT : List EvS := [⟨3, 0, 1, 0, noC, awR⟩, ⟨2, 0, 1, 0, noC, awR⟩]
theorem aw_1 : verdP awM (awL.map EvS.p) = (0, 0) := by kernel_rfl
theorem aw_2 : verdP awM (awT.map EvS.p) = (0, 3) := by kernel_rfl
theorem aw_c : codeP awM = 0 := by kernel_rfl
theorem awL_ok : ∀ x ∈ awL, x.Ok := by
  intro x hx
  unfold awL at hx
  simp at hx
  rcases hx with rfl | rfl | rfl <;> exact ⟨by decide, by decide, by decide, by decide⟩
theorem awT_ok : ∀ x ∈ awT, x.Ok := by
  intro x hx
  unfold awT at hx
  simp at hx
  rcases hx with rfl | rfl <;> exact ⟨by decide, by decide, by decide, by decide⟩
theorem awL_no (k : Nat) : (awL.getD k noE).call.rt.rd = noS.rd := by
  match k with
  | 0 => rfl
  | 1 => rfl
  | 2 => rfl
  | k + 3 => rfl
theorem awL_no' (k : Nat) : (awL.getD k noE).reply.rt.rd = noS.rd := by
  match k with
  | 0 => rfl
  | 1 => rfl
  | 2 => rfl
  | k + 3 => rfl
theorem awT_no (k : Nat) : (awT.getD k noE).call.rt.rd = noS.rd := by
  match k with
  | 0 => rfl
  | 1 => rfl
  | k + 2 => rfl
theorem awT_no' (k : Nat) : (awT.getD k noE).reply.rt.rd = noS.rd := by
  match k with
  | 0 => rfl
  | 1 => rfl
  | k + 2 => rfl
theorem awake_sl : Fn Try.prog 6 #[] [] Unit (fun _ => .bool true) (fun _ => []) (fun _ => True) := by
  have h1 := jcheck_sl awM none 0 (by decide) awL (by decide) awL_ok
  have h2 := jcheck_sl awM none 0 (by decide) awT (by decide) awT_ok
  rw [aw_1, aw_c] at h1
  rw [aw_2, aw_c] at h2
  refine Fn.enter Try.func6 rfl Try.ntmps6 (by rfl) ?_
  intro w0
  refine Cd.seq ?_
  refine Cd.region ?_
  refine Ls.ev (some 0) (Ev.assign (show Oper.op _ = Op.assign (Operand.const (Value.bool false)) from rfl) (by rfl)) (by rfl) (by rfl) ?_
  refine Ls.nil ?_
  refine Cd.seq ?_
  refine Cd.region ?_
  refine Ls.ev (some 7) (Ev.buildP (pl := [(0, 1), (1, 1), (2, 1), (3, 1)]) (zs := [.int .i64 0, .int .i64 0, .int .i64 0, .slice none 0 0]) (show Oper.op _ = Op.build 24 #[(0, Operand.const (Value.int IntKind.i64 2)), (1, Operand.const (Value.int IntKind.i64 1)), (2, Operand.const (Value.int IntKind.i64 1))] from rfl) (by rfl) (by kernel_rfl) (by rfl)) (by rfl) (by rfl) ?_
  refine Ls.does (some 1) (Does.alloc (cs := [.int .i64 0, .int .i64 0, .int .i64 0, .slice none 0 0]) (show Oper.op _ = Op.alloc 24 from rfl) (ZeroIs.mk (.agg #[.int .i64 0, .int .i64 0, .int .i64 0, .slice none 0 0]) (by kernel_rfl) (by rfl))) (by rfl) (by rfl) ?_
  intro g1 _
  refine Ls.does none (Does.store 0 (show Oper.op _ = Op.store 24 (Operand.tmp 1) (Operand.tmp 7) from rfl) (by rfl) (by rfl) (by rfl) (by kernel_rfl) (by rfl) (by kernel_rfl) (by rfl)) (by rfl) (by rfl) ?_
  intro _ _
  refine Ls.nil ?_
  refine Cd.seq ?_
  refine Cd.region ?_
  refine Ls.ev (some 8) (Ev.buildP (pl := [(0, 1), (1, 1), (2, 2)]) (zs := [.int .i64 0, .int .i64 0, .int .i64 0, .slice none 0 0]) (show Oper.op _ = Op.build 43 #[(0, Operand.const (Value.int IntKind.i64 1))] from rfl) (by rfl) (by kernel_rfl) (by rfl)) (by rfl) (by rfl) ?_
  refine Ls.ev (some 9) (Ev.buildP (pl := [(0, 1), (1, 1), (2, 1), (3, 1), (4, 4), (8, 4)]) (zs := [.int .i64 0, .int .i64 0, .int .i64 0, .int .i64 0, .int .i64 0, .int .i64 0, .int .i64 0, .slice none 0 0, .int .i64 0, .int .i64 0, .int .i64 0, .slice none 0 0]) (show Oper.op _ = Op.build 47 #[(0, Operand.const (Value.int IntKind.i64 1)), (2, Operand.const (Value.int IntKind.i64 1)), (4, Operand.tmp 8)] from rfl) (by rfl) (by kernel_rfl) (by rfl)) (by rfl) (by rfl) ?_
  refine Ls.ev (some 10) (Ev.buildP (pl := [(0, 1), (1, 1), (2, 2)]) (zs := [.int .i64 0, .int .i64 0, .int .i64 0, .slice none 0 0]) (show Oper.op _ = Op.build 45 #[(1, Operand.const (Value.int IntKind.i64 1))] from rfl) (by rfl) (by kernel_rfl) (by rfl)) (by rfl) (by rfl) ?_
  refine Ls.ev (some 11) (Ev.buildP (pl := [(0, 1), (1, 1), (2, 1), (3, 1), (4, 4), (8, 4)]) (zs := [.int .i64 0, .int .i64 0, .int .i64 0, .int .i64 0, .int .i64 0, .int .i64 0, .int .i64 0, .slice none 0 0, .int .i64 0, .int .i64 0, .int .i64 0, .slice none 0 0]) (show Oper.op _ = Op.build 47 #[(0, Operand.const (Value.int IntKind.i64 3)), (2, Operand.const (Value.int IntKind.i64 1)), (5, Operand.tmp 10)] from rfl) (by rfl) (by kernel_rfl) (by rfl)) (by rfl) (by rfl) ?_
  refine Ls.ev (some 12) (Ev.buildP (pl := [(0, 1), (1, 1), (2, 2)]) (zs := [.int .i64 0, .int .i64 0, .int .i64 0, .slice none 0 0]) (show Oper.op _ = Op.build 45 #[(1, Operand.const (Value.int IntKind.i64 1))] from rfl) (by rfl) (by kernel_rfl) (by rfl)) (by rfl) (by rfl) ?_
  refine Ls.ev (some 13) (Ev.buildP (pl := [(0, 1), (1, 1), (2, 1), (3, 1), (4, 4), (8, 4)]) (zs := [.int .i64 0, .int .i64 0, .int .i64 0, .int .i64 0, .int .i64 0, .int .i64 0, .int .i64 0, .slice none 0 0, .int .i64 0, .int .i64 0, .int .i64 0, .slice none 0 0]) (show Oper.op _ = Op.build 47 #[(0, Operand.const (Value.int IntKind.i64 2)), (2, Operand.const (Value.int IntKind.i64 1)), (5, Operand.tmp 12)] from rfl) (by rfl) (by kernel_rfl) (by rfl)) (by rfl) (by rfl) ?_
  refine Ls.does (some 14) (Does.lit (sz := 12) (show Oper.op _ = Op.buildSlice 25 3 #[(0, Operand.tmp 9), (1, Operand.tmp 11), (2, Operand.tmp 13)] from rfl) (by rfl) Try.underlying25 (by kernel_rfl) (by rfl) (by kernel_rfl)) (by rfl) (by rfl) ?_
  intro g2 _
  refine Ls.ev (some 2) (Ev.assign (show Oper.op _ = Op.assign (Operand.tmp 14) from rfl) (by rfl)) (by rfl) (by rfl) ?_
  refine Ls.nil ?_
  refine Cd.seq ?_
  refine Cd.region ?_
  refine Ls.ev (some 16) (Ev.loads 1 (show Oper.op _ = Op.load 24 (Operand.tmp 1) from rfl) (by rfl) (by rfl) (n := 4) (by kernel_rfl) (by rfl) (by rfl)) (by rfl) (by rfl) ?_
  refine Ls.ev (some 17) (Ev.move (show Oper.op _ = Op.move (Operand.tmp 2) from rfl) (by rfl)) (by rfl) (by rfl) ?_
  refine Ent.nil 3 1 (Ent.see 0 (by rfl) ?_)
  refine Ent.see 1 (by rfl) ?_
  refine Ent.cutS (ad := ⟨g2, 0, none⟩) 1 1 3 (by rfl) (by decide) ?_
  refine Ent.map (fun w hs => Sat.starf_no (F := fun k : Nat => (awL.getD k noE).call.rt.rd) (fun k => awL_no k) hs) ?_
  refine Ent.map (fun w hs => Sat.starf_no (F := fun k : Nat => (awL.getD k noE).reply.rt.rd) (fun k => awL_no' k) hs) ?_
  refine Ent.map (fun w hs => Sat.starf_no (F := fun k : Nat => (awT.getD k noE).call.rt.rd) (fun k => awT_no k) hs) ?_
  refine Ent.map (fun w hs => Sat.starf_no (F := fun k : Nat => (awT.getD k noE).reply.rt.rd) (fun k => awT_no' k) hs) ?_
  refine Ent.pick [7, 5, 6, 3, 2, 4, 1, 0] (by rfl) ?_
  refine Ent.norm ([(0, .bool false), (1, .pointer (some ⟨g1, 0, none⟩)), (2, .slice (some ⟨g2, 0, none⟩) 3 3), (16, .agg (mapV awM none 0).toArray), (17, .slice (some ⟨g2, 0, none⟩) 3 3)]) ([blk g1 24 (mapV awM none 0), rdI none [], evR (some ⟨g2, 0, none⟩) awL, evC awL, evD awL, evR (some ((⟨g2, 0, none⟩ : Addr).add (1 * 12))) awT, evC awT, evD awT]) (by repeat (first | exact trivial | refine ⟨by rfl, ?_⟩ | refine ⟨by simp only [List.length_append, List.length_cons, List.length_nil]; rfl, ?_⟩ | refine ⟨by push_cast; rfl, ?_⟩)) (by rfl) ?_
  refine Ls.does (some 18) (Does.read (show Oper.op _ = Op.call { callee := Callee.value (Operand.func 8), args := #[Operand.tmp 16, Operand.tmp 17], argTypes := #[24, 25] } from rfl) Try.func8 (by kernel_rfl) (by kernel_rfl) (h1 (some ⟨g2, 0, none⟩) 3) (by rfl) (by rfl) ⟨ReadsIn.rd 1 (by rfl), ReadsIn.rd 2 (by rfl), anyIn 3 (by rfl), anyIn 4 (by rfl), trivial⟩) (by rfl) (by rfl) ?_
  rintro _ -
  refine Ls.ev (some 15) (Ev.move (show Oper.op _ = Op.move (Operand.tmp 18) from rfl) (by rfl)) (by rfl) (by rfl) ?_
  refine Ls.ev (some 19) (Ev.extract (show Oper.op _ = Op.extract (Operand.tmp 15) 0 from rfl) (by rfl) (by rfl)) (by rfl) (by rfl) ?_
  refine Ls.ev (some 20) (Ev.extract (show Oper.op _ = Op.extract (Operand.tmp 15) 1 from rfl) (by rfl) (by rfl)) (by rfl) (by rfl) ?_
  refine Ls.does (some 3) (Does.alloc (cs := [.int .i64 0, .int .i64 0]) (show Oper.op _ = Op.alloc 29 from rfl) (ZeroIs.mk (.agg #[.int .i64 0, .int .i64 0]) (by kernel_rfl) (by rfl))) (by rfl) (by rfl) ?_
  intro g3 _
  refine Ls.does none (Does.store 0 (show Oper.op _ = Op.store 29 (Operand.tmp 3) (Operand.tmp 19) from rfl) (by rfl) (by rfl) (by rfl) (by kernel_rfl) (by rfl) (by kernel_rfl) (by rfl)) (by rfl) (by rfl) ?_
  intro _ _
  refine Ls.ev (some 4) (Ev.assign (show Oper.op _ = Op.assign (Operand.tmp 20) from rfl) (by rfl)) (by rfl) (by rfl) ?_
  refine Ls.nil ?_
  refine Cd.seq ?_
  refine Ent.pick [0, 1, 2, 6, 7, 8] (by rfl) ?_
  refine Cd.draw [8] (by kernel_rfl) ?_
  refine Rg.ev 0 (by rfl) (fun _ h => h) (Ev.loads 1 (show Oper.op _ = Op.load 24 (Operand.tmp 1) from rfl) (by rfl) (by rfl) (n := 4) (by kernel_rfl) (by rfl) (by rfl)) (by rfl) (some 22) (by rfl) (by kernel_rfl) (by kernel_rfl) (by kernel_rfl) (by kernel_rfl) ?_
  refine Rg.ev 1 (by rfl) (fun _ h => h) (Ev.move (show Oper.op _ = Op.move (Operand.tmp 2) from rfl) (by rfl)) (by rfl) (some 23) (by rfl) (by kernel_rfl) (by kernel_rfl) (by kernel_rfl) (by kernel_rfl) ?_
  refine Rg.ev 2 (by rfl) (fun _ h => h) (Ev.sliceLs (sz := 12) (l := 1) (show Oper.op _ = Op.slice 25 (Operand.tmp 23) (some (Operand.const (Value.int IntKind.i64 1))) none none from rfl) (by rfl) (by rfl) Try.underlying25 (by kernel_rfl) (by omega)) (by rfl) (some 24) (by rfl) (by kernel_rfl) (by kernel_rfl) (by kernel_rfl) (by kernel_rfl) ?_
  skip
  refine Rg.float1 7 (ι := Nat) (some 5) (fun g => .pointer (some ⟨g, 0, none⟩)) (fun g => blk g 29 [.int .i64 0, .int .i64 0]) ?_
  skip
  skip
  refine RgF.does 3 (by rfl) (by rfl) (.inr (by kernel_rfl)) (by kernel_rfl) (Does.alloc (cs := [.int .i64 0, .int .i64 0]) (show Oper.op _ = Op.alloc 29 from rfl) (ZeroIs.mk (.agg #[.int .i64 0, .int .i64 0]) (by kernel_rfl) (by rfl))) (by rfl) (some 5) (by rfl) (fun _ => by repeat (first | exact trivial | refine ⟨by rfl, ?_⟩ | refine ⟨by simp only [List.length_append, List.length_cons, List.length_nil]; rfl, ?_⟩ | refine ⟨by push_cast; rfl, ?_⟩)) (by exact fun _ _ h => h.last) (by exact fun _ _ h => h.pick [0, 1, 2, 3, 4, 5] (by rfl)) (Does.read (show Oper.op _ = Op.call { callee := Callee.value (Operand.func 8), args := #[Operand.tmp 22, Operand.tmp 24], argTypes := #[24, 25] } from rfl) Try.func8 (by kernel_rfl) (by kernel_rfl) (h2 (some ((⟨g2, 0, none⟩ : Addr).add (1 * 12))) (3 - 1)) (by rfl) (by rfl) ⟨ReadsIn.rd 2 (by rfl), ReadsIn.rd 3 (by rfl), anyIn 4 (by rfl), anyIn 5 (by rfl), trivial⟩) (by rfl) (some 25) (by rfl) (by exact fun _ _ h => h.pick [0, 1, 2, 3, 4, 5] (by rfl)) (fun _ => Does.read (show Oper.op _ = Op.call { callee := Callee.value (Operand.func 8), args := #[Operand.tmp 22, Operand.tmp 24], argTypes := #[24, 25] } from rfl) Try.func8 (by kernel_rfl) (by kernel_rfl) (h2 (some ((⟨g2, 0, none⟩ : Addr).add (1 * 12))) (3 - 1)) (by rfl) (by rfl) ⟨ReadsIn.rd 2 (by rfl), ReadsIn.rd 3 (by rfl), anyIn 4 (by rfl), anyIn 5 (by rfl), trivial⟩) (fun _ => by rfl) (by exact fun _ _ _ h => h.pick [0, 1, 2, 3, 4, 5] (by rfl)) ?_
  rintro _ -
  refine RgF.ev 4 (by rfl) (by exact fun _ h => h.pick [0, 1, 2, 3, 4, 5] (by rfl)) (by exact fun _ _ h => h.pick [0, 1, 2, 3, 4, 5] (by rfl)) (Ev.move (show Oper.op _ = Op.move (Operand.tmp 25) from rfl) (by rfl)) (fun _ => Ev.move (show Oper.op _ = Op.move (Operand.tmp 25) from rfl) (by rfl)) (by rfl) (fun _ => by rfl) (some 21) (by rfl) (by kernel_rfl) (by kernel_rfl) (by kernel_rfl) (by kernel_rfl) ?_
  refine RgF.ev 5 (by rfl) (by exact fun _ h => h.pick [0, 1, 2, 3, 4, 5] (by rfl)) (by exact fun _ _ h => h.pick [0, 1, 2, 3, 4, 5] (by rfl)) (Ev.extract (show Oper.op _ = Op.extract (Operand.tmp 21) 0 from rfl) (by rfl) (by rfl)) (fun _ => Ev.extract (show Oper.op _ = Op.extract (Operand.tmp 21) 0 from rfl) (by rfl) (by rfl)) (by rfl) (fun _ => by rfl) (some 26) (by rfl) (by kernel_rfl) (by kernel_rfl) (by kernel_rfl) (by kernel_rfl) ?_
  refine RgF.pv 6 (by rfl) (by exact fun _ h => h.pick [0, 1, 2, 3, 4, 5] (by rfl)) (by exact fun _ _ h => h.pick [0, 1, 2, 3, 4, 5] (by rfl)) (fun _ => Ev.extract (show Oper.op _ = Op.extract (Operand.tmp 21) 1 from rfl) (by rfl) (by rfl)) (fun _ _ => Ev.extract (show Oper.op _ = Op.extract (Operand.tmp 21) 1 from rfl) (by rfl) (by rfl)) (by rfl) (fun _ => by rfl) (some 27) (by rfl) (by kernel_rfl) (by kernel_rfl) (by kernel_rfl) (by kernel_rfl) ?_
  refine RgF.land (by rfl) (by kernel_rfl) (Does.alloc (cs := [.int .i64 0, .int .i64 0]) (show Oper.op _ = Op.alloc 29 from rfl) (ZeroIs.mk (.agg #[.int .i64 0, .int .i64 0]) (by kernel_rfl) (by rfl))) (by rfl) (some 5) (by rfl) (fun _ => by repeat (first | exact trivial | refine ⟨by rfl, ?_⟩ | refine ⟨by simp only [List.length_append, List.length_cons, List.length_nil]; rfl, ?_⟩ | refine ⟨by push_cast; rfl, ?_⟩)) (by exact fun _ _ h => h.last) (by exact fun _ _ h => h.pick [0, 1, 2, 3, 4, 5] (by rfl)) ?_
  intro g4
  refine Rg.one 8 (by kernel_rfl) ?_; refine RgO.tail 8 (by rfl) (Does.store 6 (show Oper.op _ = Op.store 29 (Operand.tmp 5) (Operand.tmp 26) from rfl) (by rfl) (by rfl) (by rfl) (by kernel_rfl) (by rfl) (by kernel_rfl) (by rfl)) (by rfl) none (by rfl) (by kernel_rfl) (by kernel_rfl) ?_
  intro _ _
  skip
  refine Rg.ev 9 (by rfl) (fun _ h => h.pick [] (by rfl)) (Ev.assign (show Oper.op _ = Op.assign (Operand.tmp 27) from rfl) (by rfl)) (by rfl) (some 6) (by rfl) (by kernel_rfl) (by kernel_rfl) (by kernel_rfl) (by kernel_rfl) ?_
  refine Rg.done (by kernel_rfl) ?_ _
  refine Cd.seq ?_
  refine Cd.region ?_
  refine Ls.ev (some 28) (Ev.move (show Oper.op _ = Op.move (Operand.tmp 4) from rfl) (by rfl)) (by rfl) (by rfl) ?_
  refine Ls.ev (some 29) (Ev.eql (show Oper.op _ = Op.binOp BinOp.eql 30 (Operand.tmp 28) (Operand.const (Value.int IntKind.i64 0)) 30 from rfl) (by rfl) (by rfl)) (by rfl) (by rfl) ?_
  refine Ls.ev (some 30) (Ev.move (show Oper.op _ = Op.move (Operand.tmp 29) from rfl) (by rfl)) (by rfl) (by rfl) ?_
  refine Ls.ev (some 31) (Ev.loads 0 (show Oper.op _ = Op.load 29 (Operand.tmp 3) from rfl) (by rfl) (by rfl) (n := 2) (by kernel_rfl) (by rfl) (by rfl)) (by rfl) (by rfl) ?_
  refine Ls.ev (some 32) (Ev.buildP (pl := [(0, 1), (1, 1)]) (zs := [.int .i64 0, .int .i64 0]) (show Oper.op _ = Op.build 29 #[] from rfl) (by rfl) (by kernel_rfl) (by rfl)) (by rfl) (by rfl) ?_
  refine Ls.ev (some 33) (Ev.eqlG (r := true) (show Oper.op _ = Op.binOp BinOp.eql 29 (Operand.tmp 31) (Operand.tmp 32) 29 from rfl) (by rfl) (by rfl) (fun w => by kernel_rfl) (fun w => by kernel_rfl)) (by rfl) (by rfl) ?_
  refine Ls.ev (some 34) (Ev.pickT (show Oper.op _ = Op.pick (Operand.tmp 30) (Operand.tmp 33) (Operand.const (Value.bool false)) from rfl) (by rfl) (by rfl)) (by rfl) (by rfl) ?_
  refine Ls.ev (some 35) (Ev.move (show Oper.op _ = Op.move (Operand.tmp 34) from rfl) (by rfl)) (by rfl) (by rfl) ?_
  refine Ls.ev (some 36) (Ev.move (show Oper.op _ = Op.move (Operand.tmp 6) from rfl) (by rfl)) (by rfl) (by rfl) ?_
  refine Ls.ev (some 37) (Ev.eql (show Oper.op _ = Op.binOp BinOp.eql 30 (Operand.tmp 36) (Operand.const (Value.int IntKind.i64 0)) 30 from rfl) (by rfl) (by rfl)) (by rfl) (by rfl) ?_
  refine Ls.ev (some 38) (Ev.pickT (show Oper.op _ = Op.pick (Operand.tmp 35) (Operand.tmp 37) (Operand.const (Value.bool false)) from rfl) (by rfl) (by rfl)) (by rfl) (by rfl) ?_
  refine Ls.ev (some 39) (Ev.move (show Oper.op _ = Op.move (Operand.tmp 38) from rfl) (by rfl)) (by rfl) (by rfl) ?_
  refine Ls.ev (some 40) (Ev.fieldAddr (k := 1) (show Oper.op _ = Op.fieldAddr 29 (Operand.tmp 5) 1 from rfl) (by rfl) (by kernel_rfl) (by rfl)) (by rfl) (by rfl) ?_
  refine Ls.ev (some 41) (Ev.load 6 (show Oper.op _ = Op.load 3 (Operand.tmp 40) from rfl) (by rfl) (by rfl) (by kernel_rfl) (by rfl)) (by rfl) (by rfl) ?_
  refine Ls.ev (some 42) (Ev.eql (show Oper.op _ = Op.binOp BinOp.eql 3 (Operand.tmp 41) (Operand.const (Value.int IntKind.i64 3)) 3 from rfl) (by rfl) (by rfl)) (by rfl) (by rfl) ?_
  refine Ls.ev (some 43) (Ev.pickT (show Oper.op _ = Op.pick (Operand.tmp 39) (Operand.tmp 42) (Operand.const (Value.bool false)) from rfl) (by rfl) (by rfl)) (by rfl) (by rfl) ?_
  refine Ls.ev (some 0) (Ev.assign (show Oper.op _ = Op.assign (Operand.tmp 43) from rfl) (by rfl)) (by rfl) (by rfl) ?_
  refine Ls.nil ?_
  refine Cd.ret ?_
  refine Ent.ret (()) (trivial) (Res.tmp (by rfl) (by rfl)) ?_ [] (by rfl) ?_
  · rfl
  · rfl
end Go.Proofs.Ytegjoabfoddadaa
/-
  Arguments: lists of numbers and of texts, wherever they lie.
-/
namespace Go.Proofs.Ytegjoabfoddadaa
open Go.RowKit
section
variable {P : Program} {w : World}
theorem wf_bd {x : Int} (h : (Lit.int .i64 x).wf = true) : -9223372036854775808 ≤ x ∧ x ≤ 9223372036854775807 := by
  have h1 : IntKind.i64.min = -9223372036854775808 := by decide
  have h2 : IntKind.i64.max = 9223372036854775807 := by decide
  simpa only [Lit.wf, h1, h2, Bool.and_eq_true, decide_eq_true_eq] using h
theorem cel_slice1 {α : Type} [Inhabited α] {f : α → Value} {Q : α → Prop} {n : Nat} {t e : TypeId} {cs : List Value} (ht : P.underlying t = some (.slice e)) (hm : P.cellsOf e = 1) (hcel : ∀ (n : Nat) (cs : List Value), Cel P w n e cs → ∃ a, cs = [f a] ∧ Q a) (h : Cel P w n t cs) :
    ∃ A c l, cs = [.slice A (List.length l) c] ∧ Reads w w.heap.size 1 A l.length (l.map f) ∧ (∀ a ∈ l, Q a) ∧ l.length ≤ c ∧ c * P.bytesOf e ≤ reachBytes := by
  rcases cel_slice ht h with rfl | ⟨a, len, cap, rfl, hl, hmx, hb, hc⟩
  · exact ⟨none, 0, [], rfl, Reads.none_, by simp, Nat.le_refl _, by simp⟩
  · rw [hm] at hc
    have hrow : ∀ i, i < len → ∃ x : α, w.cell? (a.add i) = some (f x) ∧ Q x := by
      intro i hi
      obtain ⟨k, cs, h1, h2, h3⟩ := hc i (by omega)
      obtain ⟨x, rfl, hx⟩ := hcel k cs h3
      have := h2 0 (by omega)
      rw [add_of_add] at this
      exact ⟨x, by simpa using this, hx⟩
    obtain ⟨xs, hxl, hx⟩ := choose_rows hrow
    subst hxl
    refine ⟨some a, cap, xs, rfl, ⟨by simp, fun hn => ⟨a, rfl, ?_, fun j u hu => ?_⟩⟩, fun y hy => ?_, hl, hb⟩
    · obtain ⟨x, _, h1, _⟩ := hx 0 hn
      have := World.block_lt_of_cell? w _ h1
      rwa [block_of_add] at this
    · rw [List.getElem?_map] at hu
      obtain ⟨y, hy, rfl⟩ := Option.map_eq_some_iff.1 hu
      obtain ⟨x, h1, h2, _⟩ := hx j (List.getElem?_eq_some_iff.1 hy).1
      rw [hy] at h1
      injection h1 with h1
      rw [h1, h2]
    · obtain ⟨i, hi⟩ := List.mem_iff_getElem?.1 hy
      obtain ⟨x, h1, _, h2⟩ := hx i (List.getElem?_eq_some_iff.1 hi).1
      rw [hi] at h1
      injection h1 with h1
      rw [h1]
      exact h2
theorem cel_ints {n : Nat} {t e : TypeId} {cs : List Value} (ht : P.underlying t = some (.slice e)) (he : P.underlying e = some (.int .i64)) (hm : P.cellsOf e = 1) (hb : P.bytesOf e = 8) (h : Cel P w n t cs) :
    ∃ A c xs, cs = [.slice A (List.length xs) c] ∧ Reads w w.heap.size 1 A xs.length (ints xs) ∧ (∀ x ∈ xs, -9223372036854775808 ≤ x ∧ x ≤ 9223372036854775807) ∧ xs.length ≤ 17592186044415 := by
  obtain ⟨A, c, l, rfl, hr, hq, hc, hbb⟩ := cel_slice1 (f := Value.int .i64) (Q := fun x => -9223372036854775808 ≤ x ∧ x ≤ 9223372036854775807) ht hm (fun n cs h => by
    obtain ⟨m, rfl, hw⟩ := cel_int he h
    exact ⟨m, rfl, wf_bd hw⟩) h
  rw [hb] at hbb
  unfold reachBytes at hbb
  exact ⟨A, c, l, rfl, hr, hq, by omega⟩
theorem cel_strs {n : Nat} {t e : TypeId} {cs : List Value} (ht : P.underlying t = some (.slice e)) (he : P.underlying e = some .string) (hm : P.cellsOf e = 1) (hb : P.bytesOf e = 16) (h : Cel P w n t cs) :
    ∃ A c xs, cs = [.slice A (List.length xs) c] ∧ Reads w w.heap.size 1 A xs.length (strs xs) ∧ (∀ x ∈ xs, ByteArray.size x ≤ reachBytes) ∧ xs.length ≤ 8796093022207 := by
  obtain ⟨A, c, l, rfl, hr, hq, hc, hbb⟩ := cel_slice1 (f := Value.string) (Q := fun x => ByteArray.size x ≤ reachBytes) ht hm (fun n cs h => by
    obtain ⟨m, rfl, _, hw⟩ := cel_string he h
    exact ⟨m, rfl, hw⟩) h
  rw [hb] at hbb
  unfold reachBytes at hbb
  exact ⟨A, c, l, rfl, hr, hq, by omega⟩
theorem seg_ {cs v : List Value} {off s off' : Nat} (h : (cs.drop off).take s = v) (ho : off + s = off') : cs.drop off = v ++ cs.drop off' := by
  rw [← h, ← ho, ← List.drop_drop, List.take_append_drop]
/-- A slice of structs that is handed in, as a list. -/
theorem val_list {α : Type} [Inhabited α] {f : α → List Value} {Q : World → α → Prop} {t e : TypeId} {m : Nat} {v : Value} (ht : P.underlying t = some (.slice e)) (hm : P.cellsOf e = m) (hm0 : 0 < m) (hf : ∀ a, (f a).length = m)
    (hcel : ∀ (n : Nat) (cs : List Value), Cel P w n e cs → ∃ a, cs = f a ∧ Q w a) (h : Val P w t v) :
    ∃ A c l, v = .slice A (List.length l) c ∧ Reads w w.heap.size m A l.length (l.flatMap f) ∧ (∀ a ∈ l, Q w a) ∧ l.length ≤ c ∧ c * P.bytesOf e ≤ reachBytes := by
  obtain ⟨A, n, c, l, rfl, hr, hq, hnc, _, hb⟩ := val_flat ht hm hm0 hf hcel h
  have e1 : flat f l = l.flatMap f := by
    clear hr hq
    induction l with
    | nil => rfl
    | cons a l ih => simp [flat, List.flatMap_cons] at ih ⊢
  have hl : l.length = n := by
    have := hr.1
    rw [e1, flatMap_len hf] at this
    exact Nat.eq_of_mul_eq_mul_right hm0 this
  subst hl
  exact ⟨A, c, l, rfl, e1 ▸ hr, hq, hnc, hb⟩
theorem val_cel {t e : TypeId} {v : Value} (ht : P.underlying t = some (.slice e)) (h : Val P w t v) : ∃ n, Cel P w n t [v] := by
  simp only [Val, ht] at h
  exact h.2
theorem val_celS {t : TypeId} {fs : Array Field} {v : Value} (ht : P.underlying t = some (.struct fs)) (h : Val P w t v) : ∃ (cs : Array Value) (n : Nat), v = .agg cs ∧ Cel P w n t cs.toList := by
  simp only [Val, ht] at h
  exact h
theorem val_ints {t e : TypeId} {v : Value} (ht : P.underlying t = some (.slice e)) (he : P.underlying e = some (.int .i64)) (hm : P.cellsOf e = 1) (hb : P.bytesOf e = 8) (h : Val P w t v) :
    ∃ A c xs, v = .slice A (List.length xs) c ∧ Reads w w.heap.size 1 A xs.length (ints xs) ∧ (∀ x ∈ xs, -9223372036854775808 ≤ x ∧ x ≤ 9223372036854775807) ∧ xs.length ≤ 17592186044415 := by
  obtain ⟨n, h⟩ := val_cel ht h
  obtain ⟨A, c, xs, e1, h1⟩ := cel_ints ht he hm hb h
  exact ⟨A, c, xs, by simpa using e1, h1⟩
end
end Go.Proofs.Ytegjoabfoddadaa
/- arguments of the judge: maps and events -/
namespace Go.Proofs.Ytegjoabfoddadaa
open Go.RowKit
section
variable {P : Program} {w : World}
theorem cel_intsC {n : Nat} {t e : TypeId} {cs : List Value} (ht : P.underlying t = some (.slice e)) (he : P.underlying e = some (.int .i64)) (hm : P.cellsOf e = 1) (hb : P.bytesOf e = 8) (h : Cel P w n t cs) :
    ∃ A c xs, cs = [.slice A (List.length xs) c] ∧ Reads w w.heap.size 1 A xs.length (ints xs) ∧ (∀ x ∈ xs, -9223372036854775808 ≤ x ∧ x ≤ 9223372036854775807) ∧ xs.length ≤ 17592186044415 ∧ xs.length ≤ c := by
  obtain ⟨A, c, l, rfl, hr, hq, hc, hbb⟩ := cel_slice1 (f := Value.int .i64) (Q := fun x => -9223372036854775808 ≤ x ∧ x ≤ 9223372036854775807) ht hm (fun n cs h => by
    obtain ⟨m, rfl, hw⟩ := cel_int he h
    exact ⟨m, rfl, wf_bd hw⟩) h
  rw [hb] at hbb
  unfold reachBytes at hbb
  exact ⟨A, c, l, rfl, hr, hq, by omega, hc⟩
end
structure RouteA where
  start : Int
  cellsA : Option Addr
  cellsC : Nat
  cells : List Int
  deriving Inhabited
def RouteA.enc (x : RouteA) : List Value := [.int .i64 x.start, .slice x.cellsA x.cells.length x.cellsC]
theorem routea_len (x : RouteA) : x.enc.length = 2 := rfl
def RouteA.ok (W : World) (x : RouteA) : Prop := (-9223372036854775808 ≤ x.start ∧ x.start ≤ 9223372036854775807) ∧ (Reads W W.heap.size 1 x.cellsA x.cells.length (ints x.cells) ∧ (∀ y ∈ x.cells, -9223372036854775808 ≤ y ∧ y ≤ 9223372036854775807) ∧ x.cells.length ≤ 17592186044415 ∧ x.cells.length ≤ x.cellsC)
theorem cel_routea {w : World} (n : Nat) (cs : List Value) (h : Cel Try.prog w n 41 cs) : ∃ x : RouteA, cs = x.enc ∧ x.ok w := by
  obtain ⟨hl, m, hf⟩ := cel_fields (k := 2) (rows := [(3, 0, 1), (22, 1, 1)]) Try.underlying41 (by kernel_rfl) (by kernel_rfl) h
  simp only [List.forall_mem_cons] at hf
  obtain ⟨h0, h1, _⟩ := hf
  obtain ⟨f0, e0, w0⟩ := cel_int Try.underlying3 h0
  obtain ⟨a1, c1, f1, e1, w1⟩ := cel_intsC Try.underlying22 Try.underlying3 (by kernel_rfl) (by kernel_rfl) h1
  have t0 := seg_ (off' := 1) e0 rfl
  have t1 := seg_ (off' := 2) e1 rfl
  rw [List.drop_zero] at t0
  refine ⟨⟨f0, a1, c1, f1⟩, ?_, wf_bd w0, w1⟩
  rw [t0, t1, List.drop_of_length_le (by omega)]
  first | rfl | simp [RouteA.enc]
structure CallA where
  verb : Int
  epoch : Int
  route : RouteA
  deriving Inhabited
def CallA.enc (x : CallA) : List Value := [.int .i64 x.verb] ++ [.int .i64 x.epoch] ++ x.route.enc
theorem calla_len (x : CallA) : x.enc.length = 4 := rfl
def CallA.ok (W : World) (x : CallA) : Prop := (-9223372036854775808 ≤ x.verb ∧ x.verb ≤ 9223372036854775807) ∧ (-9223372036854775808 ≤ x.epoch ∧ x.epoch ≤ 9223372036854775807) ∧ x.route.ok W
theorem cel_calla {w : World} (n : Nat) (cs : List Value) (h : Cel Try.prog w n 43 cs) : ∃ x : CallA, cs = x.enc ∧ x.ok w := by
  obtain ⟨hl, m, hf⟩ := cel_fields (k := 4) (rows := [(39, 0, 1), (3, 1, 1), (41, 2, 2)]) Try.underlying43 (by kernel_rfl) (by kernel_rfl) h
  simp only [List.forall_mem_cons] at hf
  obtain ⟨h0, h1, h2, _⟩ := hf
  obtain ⟨f0, e0, w0⟩ := cel_int Try.underlying39 h0
  obtain ⟨f1, e1, w1⟩ := cel_int Try.underlying3 h1
  obtain ⟨f2, e2, w2⟩ := cel_routea _ _ h2
  have t0 := seg_ (off' := 1) e0 rfl
  have t1 := seg_ (off' := 2) e1 rfl
  have t2 := seg_ (off' := 4) e2 rfl
  rw [List.drop_zero] at t0
  refine ⟨⟨f0, f1, f2⟩, ?_, wf_bd w0, wf_bd w1, w2⟩
  rw [t0, t1, t2, List.drop_of_length_le (by omega)]
  first | rfl | simp [CallA.enc]
structure ReplyA where
  code : Int
  epoch : Int
  route : RouteA
  deriving Inhabited
def ReplyA.enc (x : ReplyA) : List Value := [.int .i64 x.code] ++ [.int .i64 x.epoch] ++ x.route.enc
theorem replya_len (x : ReplyA) : x.enc.length = 4 := rfl
def ReplyA.ok (W : World) (x : ReplyA) : Prop := (-9223372036854775808 ≤ x.code ∧ x.code ≤ 9223372036854775807) ∧ (-9223372036854775808 ≤ x.epoch ∧ x.epoch ≤ 9223372036854775807) ∧ x.route.ok W
theorem cel_replya {w : World} (n : Nat) (cs : List Value) (h : Cel Try.prog w n 45 cs) : ∃ x : ReplyA, cs = x.enc ∧ x.ok w := by
  obtain ⟨hl, m, hf⟩ := cel_fields (k := 4) (rows := [(30, 0, 1), (3, 1, 1), (41, 2, 2)]) Try.underlying45 (by kernel_rfl) (by kernel_rfl) h
  simp only [List.forall_mem_cons] at hf
  obtain ⟨h0, h1, h2, _⟩ := hf
  obtain ⟨f0, e0, w0⟩ := cel_int Try.underlying30 h0
  obtain ⟨f1, e1, w1⟩ := cel_int Try.underlying3 h1
  obtain ⟨f2, e2, w2⟩ := cel_routea _ _ h2
  have t0 := seg_ (off' := 1) e0 rfl
  have t1 := seg_ (off' := 2) e1 rfl
  have t2 := seg_ (off' := 4) e2 rfl
  rw [List.drop_zero] at t0
  refine ⟨⟨f0, f1, f2⟩, ?_, wf_bd w0, wf_bd w1, w2⟩
  rw [t0, t1, t2, List.drop_of_length_le (by omega)]
  first | rfl | simp [ReplyA.enc]
structure EventA where
  kind : Int
  robot : Int
  iD : Int
  tick : Int
  call : CallA
  reply : ReplyA
  deriving Inhabited
def EventA.enc (x : EventA) : List Value := [.int .i64 x.kind] ++ [.int .i64 x.robot] ++ [.int .i64 x.iD] ++ [.int .i64 x.tick] ++ x.call.enc ++ x.reply.enc
theorem eventa_len (x : EventA) : x.enc.length = 12 := rfl
def EventA.ok (W : World) (x : EventA) : Prop := (-9223372036854775808 ≤ x.kind ∧ x.kind ≤ 9223372036854775807) ∧ (-9223372036854775808 ≤ x.robot ∧ x.robot ≤ 9223372036854775807) ∧ (-9223372036854775808 ≤ x.iD ∧ x.iD ≤ 9223372036854775807) ∧ (-9223372036854775808 ≤ x.tick ∧ x.tick ≤ 9223372036854775807) ∧ x.call.ok W ∧ x.reply.ok W
theorem cel_eventa {w : World} (n : Nat) (cs : List Value) (h : Cel Try.prog w n 47 cs) : ∃ x : EventA, cs = x.enc ∧ x.ok w := by
  obtain ⟨hl, m, hf⟩ := cel_fields (k := 12) (rows := [(38, 0, 1), (3, 1, 1), (3, 2, 1), (3, 3, 1), (43, 4, 4), (45, 8, 4)]) Try.underlying47 (by kernel_rfl) (by kernel_rfl) h
  simp only [List.forall_mem_cons] at hf
  obtain ⟨h0, h1, h2, h3, h4, h5, _⟩ := hf
  obtain ⟨f0, e0, w0⟩ := cel_int Try.underlying38 h0
  obtain ⟨f1, e1, w1⟩ := cel_int Try.underlying3 h1
  obtain ⟨f2, e2, w2⟩ := cel_int Try.underlying3 h2
  obtain ⟨f3, e3, w3⟩ := cel_int Try.underlying3 h3
  obtain ⟨f4, e4, w4⟩ := cel_calla _ _ h4
  obtain ⟨f5, e5, w5⟩ := cel_replya _ _ h5
  have t0 := seg_ (off' := 1) e0 rfl
  have t1 := seg_ (off' := 2) e1 rfl
  have t2 := seg_ (off' := 3) e2 rfl
  have t3 := seg_ (off' := 4) e3 rfl
  have t4 := seg_ (off' := 8) e4 rfl
  have t5 := seg_ (off' := 12) e5 rfl
  rw [List.drop_zero] at t0
  refine ⟨⟨f0, f1, f2, f3, f4, f5⟩, ?_, wf_bd w0, wf_bd w1, wf_bd w2, wf_bd w3, w4, w5⟩
  rw [t0, t1, t2, t3, t4, t5, List.drop_of_length_le (by omega)]
  first | rfl | simp [EventA.enc]
structure MapA where
  w : Int
  h : Int
  shards : Int
  blockedA : Option Addr
  blockedC : Nat
  blocked : List Int
  deriving Inhabited
def MapA.enc (x : MapA) : List Value := [.int .i64 x.w, .int .i64 x.h, .int .i64 x.shards, .slice x.blockedA x.blocked.length x.blockedC]
theorem mapa_len (x : MapA) : x.enc.length = 4 := rfl
def MapA.ok (W : World) (x : MapA) : Prop := (-9223372036854775808 ≤ x.w ∧ x.w ≤ 9223372036854775807) ∧ (-9223372036854775808 ≤ x.h ∧ x.h ≤ 9223372036854775807) ∧ (-9223372036854775808 ≤ x.shards ∧ x.shards ≤ 9223372036854775807) ∧ (Reads W W.heap.size 1 x.blockedA x.blocked.length (ints x.blocked) ∧ (∀ y ∈ x.blocked, -9223372036854775808 ≤ y ∧ y ≤ 9223372036854775807) ∧ x.blocked.length ≤ 17592186044415)
theorem cel_mapa {w : World} (n : Nat) (cs : List Value) (h : Cel Try.prog w n 24 cs) : ∃ x : MapA, cs = x.enc ∧ x.ok w := by
  obtain ⟨hl, m, hf⟩ := cel_fields (k := 4) (rows := [(3, 0, 1), (3, 1, 1), (3, 2, 1), (22, 3, 1)]) Try.underlying24 (by kernel_rfl) (by kernel_rfl) h
  simp only [List.forall_mem_cons] at hf
  obtain ⟨h0, h1, h2, h3, _⟩ := hf
  obtain ⟨f0, e0, w0⟩ := cel_int Try.underlying3 h0
  obtain ⟨f1, e1, w1⟩ := cel_int Try.underlying3 h1
  obtain ⟨f2, e2, w2⟩ := cel_int Try.underlying3 h2
  obtain ⟨a3, c3, f3, e3, w3⟩ := cel_ints Try.underlying22 Try.underlying3 (by kernel_rfl) (by kernel_rfl) h3
  have t0 := seg_ (off' := 1) e0 rfl
  have t1 := seg_ (off' := 2) e1 rfl
  have t2 := seg_ (off' := 3) e2 rfl
  have t3 := seg_ (off' := 4) e3 rfl
  rw [List.drop_zero] at t0
  refine ⟨⟨f0, f1, f2, a3, c3, f3⟩, ?_, wf_bd w0, wf_bd w1, wf_bd w2, w3⟩
  rw [t0, t1, t2, t3, List.drop_of_length_le (by omega)]
  first | rfl | simp [MapA.enc]
/-- Lists of what comes in, one for each index. -/
theorem Sat.starf_arg {Γ : Ctx} {H : List Chunk} {ι : Type} {F : ι → Chunk} {W w : World} {i : Nat} (hi : H[i]? = some (argc W)) (hF : ∀ k, ∃ A n sz xs, F k = rd A n sz xs ∧ Reads W W.heap.size sz A n xs) (h : Sat Γ H w) : Sat Γ (starf F :: H) w := by
  have hm : argc W ∈ H := List.mem_of_getElem? hi
  have hW : (argc W).holds w := h.sat.1 _ hm
  have hfoot : ∀ k, (starf F).foot k → k < W.heap.size := by
    rintro k ⟨q, hk⟩
    obtain ⟨A, n, sz, xs, e, hr⟩ := hF q
    rw [e] at hk
    obtain ⟨hn, hk⟩ := hk
    obtain ⟨ad, rfl, hb, _⟩ := hr.2 hn
    obtain rfl : ad.block = k := by simpa [blockOf] using hk
    exact hb
  refine ⟨h.upd, ⟨fun D hD => ?_, List.Pairwise.cons (fun D hD he k hk hk' => ?_) h.sat.2⟩, fun D hD => ?_⟩
  · rcases List.mem_cons.1 hD with rfl | hD
    · intro q
      obtain ⟨A, n, sz, xs, e, hr⟩ := hF q
      rw [e]
      exact ⟨rfl, (hr.keep (fun p hp => World.cell?_of_block (hW.2 _ hp))).more hW.1⟩
    · exact h.sat.1 D hD
  · have he2 : D.excl = true := by
      rcases he with he | he
      · cases he
      · exact he
    obtain ⟨il, e1⟩ := List.getElem?_eq_some_iff.1 hi
    obtain ⟨j, jl, e2⟩ := List.getElem_of_mem hD
    have hp := List.pairwise_iff_getElem.1 h.sat.2
    rcases Nat.lt_trichotomy i j with hlt | rfl | hlt
    · have := hp i j il jl hlt
      rw [e1, e2] at this
      exact this (.inr he2) k (hfoot k hk) hk'
    · rw [e1] at e2; subst e2; cases he2
    · have := hp j i jl il hlt
      rw [e1, e2] at this
      exact this (.inl he2) k hk' (hfoot k hk)
  · rcases List.mem_cons.1 hD with rfl | hD
    · intro k hk hlt
      exact ⟨(h.fits _ hm k (hfoot k hk) hlt).1, fun e => by cases e⟩
    · exact h.fits D hD
/-- An event that comes in. -/
structure EvS.At (W : World) (x : EvS) : Prop where
  pre : x.Pre
  call : Reads W W.heap.size 1 x.call.rt.A x.call.rt.l.length (ints x.call.rt.l)
  reply : Reads W W.heap.size 1 x.reply.rt.A x.reply.rt.l.length (ints x.reply.rt.l)
theorem cel_ev {w : World} (n : Nat) (cs : List Value) (h : Cel Try.prog w n 47 cs) : ∃ x : EvS, cs = x.enc ∧ x.At w := by
  obtain ⟨⟨k, r, i, t, ⟨v, e, ⟨s, A, c, l⟩⟩, ⟨d, f, ⟨u, B, b, q⟩⟩⟩, rfl, h1, h2, h3, h4, h5, h6⟩ := cel_eventa n cs h
  exact ⟨⟨k, r, i, t, ⟨v, e, ⟨s, A, c, l⟩⟩, ⟨d, f, ⟨u, B, b, q⟩⟩⟩, rfl, ⟨h2, h3, h5.2.2.2.2.2.2, h6.2.2.2.2.2.2⟩, h5.2.2.2.1, h6.2.2.2.1⟩
theorem ev_fam {W : World} {l : List EvS} (h : ∀ x ∈ l, x.At W) (k : Nat) : (∃ A n sz xs, (l.getD k noE).call.rt.rd = rd A n sz xs ∧ Reads W W.heap.size sz A n xs) ∧ ∃ A n sz xs, (l.getD k noE).reply.rt.rd = rd A n sz xs ∧ Reads W W.heap.size sz A n xs := by
  rw [List.getD_eq_getElem?_getD]
  cases hk : l[k]? with
  | none => exact ⟨⟨_, _, _, _, rfl, ⟨rfl, fun h => absurd h (Nat.lt_irrefl 0)⟩⟩, ⟨_, _, _, _, rfl, ⟨rfl, fun h => absurd h (Nat.lt_irrefl 0)⟩⟩⟩
  | some x =>
    have := h x (List.mem_of_getElem? hk)
    exact ⟨⟨_, _, _, _, rfl, this.call⟩, ⟨_, _, _, _, rfl, this.reply⟩⟩
end Go.Proofs.Ytegjoabfoddadaa
/- verdicts that are equal -/
namespace Go.Proofs.Ytegjoabfoddadaa
open Go.RowKit
theorem verd_eql (w : World) (a b : Int) : (binOp .eql 29 (.agg #[.int .i64 a, .int .i64 b]) (.agg #[.int .i64 a, .int .i64 b])).run Try.prog w = .ok (.bool true) w := by
  have hf : (Try.prog.fieldsOf 29).toList = [⟨"At", 3, 0, false, "", "", 0⟩, ⟨"Rule", 3, 1, false, "", "", 8⟩] := by kernel_rfl
  have hp : ∀ (xs : Array Value) (off : Nat) (v : Value), xs[off]? = some v → (part 3 xs off).run Try.prog w = .ok v w := fun xs off v h => run_part_plain w (by kernel_rfl) h
  have hi : ∀ x : Int, (Op.equalIn (9998 + 1) 3 (.int .i64 x) (.int .i64 x)).run Try.prog w = .ok true w := fun x => by
    rw [run_equalIn_int w 9998 3 .i64 .i64 x x Try.underlying3]
    simp
  have h : (Op.equal 29 (.agg #[.int .i64 a, .int .i64 b]) (.agg #[.int .i64 a, .int .i64 b])).run Try.prog w = .ok true w := by
    show (Op.equalIn (9999 + 1) 29 _ _).run Try.prog w = _
    rw [run_equalIn_struct w 9999 _ _ _ (by kernel_rfl) (by kernel_rfl), hf]
    have e1 := hp #[.int .i64 a, .int .i64 b] 0 _ rfl
    have e2 := hp #[.int .i64 a, .int .i64 b] 1 _ rfl
    have i1 := hi a
    have i2 := hi b
    simp [Op.eqFields, e1, e2, i1, i2]
  simp [binOp, h]
end Go.Proofs.Ytegjoabfoddadaa
/- the walk of JudgeBeginnings -/
namespace Go.Proofs.Ytegjoabfoddadaa
open Go.RowKit
theorem verd_append {m : MapP} {a b : List EvP} (h : (verdP m a).2 ≠ 0) : verdP m (a ++ b) = verdP m a := by
  unfold verdP at h ⊢
  cases hm : goodM m with
  | false => rfl
  | true =>
    rw [hm] at h
    exact goP_append m a b _ _ h
theorem verd_behind {m : MapP} {a b : List EvP} (h : (verdP m a).2 = 0) : (verdP m (a ++ b)).2 = 0 ∨ (a.length : Int) ≤ (verdP m (a ++ b)).1 := by
  unfold verdP at h ⊢
  cases hm : goodM m with
  | false => exact .inl rfl
  | true =>
    rw [hm] at h
    have := goP_behind m a b _ _ h
    rwa [Nat.zero_add] at this
theorem appR {Γ : Ctx} {H : List Chunk} {A : Option Addr} {c : Nat} {o p : List EvS} (i : Nat) (hi : H[i]? = some (row A (o.length + p.length) c 47 12 (o.flatMap EvS.enc ++ p.flatMap EvS.enc))) : ∀ w, Sat Γ H w → (evR A (o ++ p)).holds w := fun w hs => by
  have := ReadsIn.row i hi w hs
  rw [← List.length_append, ← List.flatMap_append] at this
  exact this
theorem app_get {o p : List EvS} (k : Nat) : (∃ j, (o ++ p).getD k noE = o.getD j noE) ∨ ∃ j, (o ++ p).getD k noE = p.getD j noE := by
  rcases Nat.lt_or_ge k o.length with h | h
  · exact .inl ⟨k, by rw [List.getD_eq_getElem?_getD, List.getD_eq_getElem?_getD, List.getElem?_append_left h]⟩
  · exact .inr ⟨k - o.length, by rw [List.getD_eq_getElem?_getD, List.getD_eq_getElem?_getD, List.getElem?_append_right h]⟩
theorem appC {Γ : Ctx} {H : List Chunk} {o p : List EvS} (i j : Nat) (hi : H[i]? = some (evC o)) (hj : H[j]? = some (evC p)) : ∀ w, Sat Γ H w → (evC (o ++ p)).holds w := fun w hs k => by
  rcases app_get (o := o) (p := p) k with ⟨j', e⟩ | ⟨j', e⟩
  · dsimp only; rw [e]; exact hs.mem hi j'
  · dsimp only; rw [e]; exact hs.mem hj j'
theorem appD {Γ : Ctx} {H : List Chunk} {o p : List EvS} (i j : Nat) (hi : H[i]? = some (evD o)) (hj : H[j]? = some (evD p)) : ∀ w, Sat Γ H w → (evD (o ++ p)).holds w := fun w hs k => by
  rcases app_get (o := o) (p := p) k with ⟨j', e⟩ | ⟨j', e⟩
  · dsimp only; rw [e]; exact hs.mem hi j'
  · dsimp only; rw [e]; exact hs.mem hj j'
theorem own_own {l : List EvP} : ownP (ownP l) = ownP l := by
  unfold ownP
  rw [← List.map_take, List.take_take, Nat.min_self, List.map_map]
  refine List.map_congr_left fun x _ => ?_
  unfold ownE ownR
  simp [Function.comp, List.take_take]
theorem own_len {o : List EvS} {l : List EvP} (h : o.map EvS.p = ownP l) : o.length ≤ 120 := by
  have := congrArg List.length h
  rw [List.length_map] at this
  unfold ownP at this
  rw [List.length_map, List.length_take] at this
  omega
set_option maxRecDepth 20000 in
set_option maxHeartbeats 2000000 in
theorem begins_sl (W : World) (m : MapP) (A : Option Addr) (c : Nat) (hl : m.bl.length ≤ 17592186044415) (hm : Reads W W.heap.size 1 A m.bl.length (ints m.bl)) (EA : Option Addr) (ec : Nat) (l : List EvS) (he : Reads W W.heap.size 12 EA l.length (l.flatMap EvS.enc)) (hx : ∀ x ∈ l, x.At W) (FA : Option Addr) (fc : Nat) (r : List EvS) (hf : Reads W W.heap.size 12 FA r.length (r.flatMap EvS.enc)) (hy : ∀ x ∈ r, x.At W) :
    Fn Try.prog 4 #[.agg (mapV m A c).toArray, .slice EA l.length ec, .slice FA r.length fc] [argc W] Unit (fun _ => .bool true) (fun _ => []) (fun _ => True) := by
  refine Fn.enter Try.func4 rfl Try.ntmps4 (by rfl) ?_
  intro w0
  refine Cd.seq ?_
  refine Cd.region ?_
  refine Ls.does (some 3) (Does.box (show Oper.op _ = Op.box 24 (Operand.tmp 0) from rfl) (by rfl)) (by rfl) (by rfl) ?_
  intro g1 _
  refine Ls.ev (some 6) (Ev.assign (show Oper.op _ = Op.assign (Operand.const (Value.bool false)) from rfl) (by rfl)) (by rfl) (by rfl) ?_
  refine Ls.nil ?_
  refine Cd.seq ?_
  refine Cd.seq ?_
  refine Cd.region ?_
  refine Ls.does (some 11) (Does.read (show Oper.op _ = Op.call { callee := Callee.value (Operand.func 6), args := #[], argTypes := #[] } from rfl) Try.func6 (by kernel_rfl) (by kernel_rfl) (awake_sl) (by rfl) (by rfl) trivial) (by rfl) (by rfl) ?_
  rintro _ -
  refine Ls.ev (some 12) (Ev.not (show Oper.op _ = Op.unOp UnOp.not 4 (Operand.tmp 11) from rfl) (by rfl)) (by rfl) (by rfl) ?_
  refine Ls.nil ?_
  refine Cd.cond_false (by rfl) (rfl) ?_
  refine Cd.skip ?_
  refine Cd.seq ?_
  refine Cd.region ?_
  refine Ls.ev (some 13) (Ev.move (show Oper.op _ = Op.move (Operand.tmp 1) from rfl) (by rfl)) (by rfl) (by rfl) ?_
  refine Ent.arg 1 (by rfl) he ?_
  refine Ent.map (fun w hs => Sat.starf_arg (F := fun k : Nat => (l.getD k noE).call.rt.rd) (i := 2) rfl (fun k => (ev_fam hx k).1) hs) ?_
  refine Ent.map (fun w hs => Sat.starf_arg (F := fun k : Nat => (l.getD k noE).reply.rt.rd) (i := 3) rfl (fun k => (ev_fam hx k).2) hs) ?_
  refine Ls.does (some 14) (Does.call [2, 1, 0, 3, 4] (show Oper.op _ = Op.call { callee := Callee.value (Operand.func 7), args := #[Operand.tmp 13], argTypes := #[25] } from rfl) Try.func7 (by kernel_rfl) (by kernel_rfl) (own23_sl EA ec l (fun x h => (hx x h).pre)) (by rfl) (by rfl) (by rfl)) (by rfl) (by rfl) ?_
  rintro ⟨D, d, o⟩ ⟨ho, hok⟩
  dsimp only at ho hok
  have hol := own_len ho
  refine Ent.see 0 (by rfl) ?_
  refine Ls.ev (some 1) (Ev.assign (show Oper.op _ = Op.assign (Operand.tmp 14) from rfl) (by rfl)) (by rfl) (by rfl) ?_
  refine Ls.nil ?_
  refine Cd.seq ?_
  refine Cd.region ?_
  refine Ls.ev (some 16) (Ev.loads 3 (show Oper.op _ = Op.load 24 (Operand.tmp 3) from rfl) (by rfl) (by rfl) (n := 4) (by kernel_rfl) (by rfl) (by rfl)) (by rfl) (by rfl) ?_
  refine Ls.ev (some 17) (Ev.move (show Oper.op _ = Op.move (Operand.tmp 1) from rfl) (by rfl)) (by rfl) (by rfl) ?_
  refine Ent.arg 4 (by rfl) hm ?_
  refine Ls.does (some 18) (Does.read (show Oper.op _ = Op.call { callee := Callee.value (Operand.func 8), args := #[Operand.tmp 16, Operand.tmp 17], argTypes := #[24, 25] } from rfl) Try.func8 (by kernel_rfl) (by kernel_rfl) (jcheck_sl m A c hl o (by omega) (fun x h => (hok x h).1) D d) (by rfl) (by rfl) ⟨ReadsIn.rd 0 (by rfl), ReadsIn.rd 1 (by rfl), anyIn 2 (by rfl), anyIn 3 (by rfl), trivial⟩) (by rfl) (by rfl) ?_
  rintro _ -
  refine Ls.ev (some 15) (Ev.move (show Oper.op _ = Op.move (Operand.tmp 18) from rfl) (by rfl)) (by rfl) (by rfl) ?_
  refine Ls.ev (some 19) (Ev.extract (show Oper.op _ = Op.extract (Operand.tmp 15) 0 from rfl) (by rfl) (by rfl)) (by rfl) (by rfl) ?_
  refine Ls.ev (some 20) (Ev.extract (show Oper.op _ = Op.extract (Operand.tmp 15) 1 from rfl) (by rfl) (by rfl)) (by rfl) (by rfl) ?_
  refine Ls.does (some 7) (Does.alloc (cs := [.int .i64 0, .int .i64 0]) (show Oper.op _ = Op.alloc 29 from rfl) (ZeroIs.mk (.agg #[.int .i64 0, .int .i64 0]) (by kernel_rfl) (by rfl))) (by rfl) (by rfl) ?_
  intro g2 _
  refine Ls.does none (Does.store 0 (show Oper.op _ = Op.store 29 (Operand.tmp 7) (Operand.tmp 19) from rfl) (by rfl) (by rfl) (by rfl) (by kernel_rfl) (by rfl) (by kernel_rfl) (by rfl)) (by rfl) (by rfl) ?_
  intro _ _
  refine Ls.ev (some 8) (Ev.assign (show Oper.op _ = Op.assign (Operand.tmp 20) from rfl) (by rfl)) (by rfl) (by rfl) ?_
  refine Ls.nil ?_
  refine Cd.seq ?_
  refine Ent.arg 6 (by rfl) hf ?_
  refine Ent.map (fun w hs => Sat.starf_arg (F := fun k : Nat => (r.getD k noE).call.rt.rd) (i := 7) rfl (fun k => (ev_fam hy k).1) hs) ?_
  refine Ent.map (fun w hs => Sat.starf_arg (F := fun k : Nat => (r.getD k noE).reply.rt.rd) (i := 8) rfl (fun k => (ev_fam hy k).2) hs) ?_
  refine Ent.pick [3, 8, 4, 5, 6, 7, 2, 1, 0] (by rfl) ?_
  refine Ent.norm ([(1, .slice D o.length d), (2, .slice FA r.length fc), (3, .pointer (some ⟨g1, 0, none⟩)), (6, .bool false), (7, .pointer (some ⟨g2, 0, none⟩)), (8, .int .i64 (codeP m))]) ([blk g2 29 [.int .i64 (verdP m (o.map EvS.p)).1, .int .i64 (verdP m (o.map EvS.p)).2], blk g1 24 (mapV m A c), rdI A m.bl, evR D o, evC o, evD o, evR FA r, evC r, evD r]) (by repeat (first | exact trivial | refine ⟨by rfl, ?_⟩ | refine ⟨by simp only [List.length_append, List.length_cons, List.length_nil]; rfl, ?_⟩ | refine ⟨by push_cast; rfl, ?_⟩)) (by rfl) ?_
  skip
  refine Cd.draw [11] (by kernel_rfl) ?_
  refine Rg.ev 0 (by rfl) (fun _ h => h) (Ev.loads 1 (show Oper.op _ = Op.load 24 (Operand.tmp 3) from rfl) (by rfl) (by rfl) (n := 4) (by kernel_rfl) (by rfl) (by rfl)) (by rfl) (some 22) (by rfl) (by kernel_rfl) (by kernel_rfl) (by kernel_rfl) (by kernel_rfl) ?_
  refine Rg.ev 1 (by rfl) (fun _ h => h) (Ev.move (show Oper.op _ = Op.move (Operand.tmp 1) from rfl) (by rfl)) (by rfl) (some 23) (by rfl) (by kernel_rfl) (by kernel_rfl) (by kernel_rfl) (by kernel_rfl) ?_
  refine Rg.ev 3 (by rfl) (fun _ h => h) (Ev.move (show Oper.op _ = Op.move (Operand.tmp 2) from rfl) (by rfl)) (by rfl) (some 25) (by rfl) (by kernel_rfl) (by kernel_rfl) (by kernel_rfl) (by kernel_rfl) ?_
  skip
  refine Rg.float1 10 (ι := Nat) (some 9) (fun g => .pointer (some ⟨g, 0, none⟩)) (fun g => blk g 29 [.int .i64 0, .int .i64 0]) ?_
  skip
  skip
  refine RgF.does 2 (by rfl) (by rfl) (.inr (by kernel_rfl)) (by kernel_rfl) (Does.alloc (cs := [.int .i64 0, .int .i64 0]) (show Oper.op _ = Op.alloc 29 from rfl) (ZeroIs.mk (.agg #[.int .i64 0, .int .i64 0]) (by kernel_rfl) (by rfl))) (by rfl) (some 9) (by rfl) (fun _ => by repeat (first | exact trivial | refine ⟨by rfl, ?_⟩ | refine ⟨by simp only [List.length_append, List.length_cons, List.length_nil]; rfl, ?_⟩ | refine ⟨by push_cast; rfl, ?_⟩)) (by exact fun _ _ h => h.last) (by exact fun _ _ h => h.pick [0, 1, 2, 3, 4, 5, 6, 7, 8] (by rfl)) (Does.call [3, 4, 5, 0, 1, 2, 3, 4, 5, 6, 7, 8] (show Oper.op _ = Op.call { callee := Callee.value (Operand.func 7), args := #[Operand.tmp 23], argTypes := #[25] } from rfl) Try.func7 (by kernel_rfl) (by kernel_rfl) (own23_sl D d o (fun x h => (hok x h).2)) (by rfl) (by rfl) (by rfl)) (by rfl) (some 24) (by rfl) (by exact fun _ _ h => h.pick [3, 4, 5, 6, 7, 8, 9, 10, 11] (by rfl)) (fun _ => Does.call [3, 4, 5, 0, 1, 2, 3, 4, 5, 6, 7, 8, 9] (show Oper.op _ = Op.call { callee := Callee.value (Operand.func 7), args := #[Operand.tmp 23], argTypes := #[25] } from rfl) Try.func7 (by kernel_rfl) (by kernel_rfl) (own23_sl D d o (fun x h => (hok x h).2)) (by rfl) (by rfl) (by rfl)) (fun _ => by rfl) (by exact fun _ _ _ h => h.pick [3, 4, 5, 6, 7, 8, 9, 10, 11] (by rfl)) ?_
  rintro ⟨D1, d1, o1⟩ ⟨ho1, hok1⟩
  dsimp only at ho1 hok1
  have hol1 := own_len ho1
  skip
  skip
  refine RgF.does 4 (by rfl) (by rfl) (.inr (by kernel_rfl)) (by kernel_rfl) (Does.alloc (cs := [.int .i64 0, .int .i64 0]) (show Oper.op _ = Op.alloc 29 from rfl) (ZeroIs.mk (.agg #[.int .i64 0, .int .i64 0]) (by kernel_rfl) (by rfl))) (by rfl) (some 9) (by rfl) (fun _ => by repeat (first | exact trivial | refine ⟨by rfl, ?_⟩ | refine ⟨by simp only [List.length_append, List.length_cons, List.length_nil]; rfl, ?_⟩ | refine ⟨by push_cast; rfl, ?_⟩)) (by exact fun _ _ h => h.last) (by exact fun _ _ h => h.pick [3, 4, 5, 6, 7, 8, 9, 10, 11] (by rfl)) (Does.call [9, 10, 11, 0, 1, 2, 3, 4, 5, 6, 7, 8, 9, 10, 11] (show Oper.op _ = Op.call { callee := Callee.value (Operand.func 7), args := #[Operand.tmp 25], argTypes := #[25] } from rfl) Try.func7 (by kernel_rfl) (by kernel_rfl) (own23_sl FA fc r (fun x h => (hy x h).pre)) (by rfl) (by rfl) (by rfl)) (by rfl) (some 26) (by rfl) (by exact fun _ _ h => h.pick [6, 7, 8, 9, 10, 11, 12, 13, 14] (by rfl)) (fun _ => Does.call [9, 10, 11, 0, 1, 2, 3, 4, 5, 6, 7, 8, 9, 10, 11, 12] (show Oper.op _ = Op.call { callee := Callee.value (Operand.func 7), args := #[Operand.tmp 25], argTypes := #[25] } from rfl) Try.func7 (by kernel_rfl) (by kernel_rfl) (own23_sl FA fc r (fun x h => (hy x h).pre)) (by rfl) (by rfl) (by rfl)) (fun _ => by rfl) (by exact fun _ _ _ h => h.pick [6, 7, 8, 9, 10, 11, 12, 13, 14] (by rfl)) ?_
  rintro ⟨D2, d2, o2⟩ ⟨ho2, hok2⟩
  dsimp only at ho2 hok2
  have hol2 := own_len ho2
  skip
  refine RgF.does 5 (by rfl) (by rfl) (.inr (by kernel_rfl)) (by kernel_rfl) (Does.alloc (cs := [.int .i64 0, .int .i64 0]) (show Oper.op _ = Op.alloc 29 from rfl) (ZeroIs.mk (.agg #[.int .i64 0, .int .i64 0]) (by kernel_rfl) (by rfl))) (by rfl) (some 9) (by rfl) (fun _ => by repeat (first | exact trivial | refine ⟨by rfl, ?_⟩ | refine ⟨by simp only [List.length_append, List.length_cons, List.length_nil]; rfl, ?_⟩ | refine ⟨by push_cast; rfl, ?_⟩)) (by exact fun _ _ h => h.last) (by exact fun _ _ h => h.pick [6, 7, 8, 9, 10, 11, 12, 13, 14] (by rfl)) (Does.app (xs := o1.flatMap EvS.enc) (news := o2.flatMap EvS.enc) 3 (show Oper.op _ = Op.call { callee := Callee.builtin Builtin.append, args := #[Operand.tmp 24, Operand.tmp 26], argTypes := #[25, 25] } from rfl) (by rfl) (by rfl) (by rfl) (ReadsIn.row 0 (by rfl)) elem_ev (one_evs _) (show (o1.length + o2.length) * 128 ≤ 140737488355328 by omega)) (by rfl) (some 27) (by rfl) (by exact fun _ _ h => h.pick [6, 7, 8, 9, 10, 11, 12, 13, 14] (by rfl)) (fun _ => Does.app (xs := o1.flatMap EvS.enc) (news := o2.flatMap EvS.enc) 3 (show Oper.op _ = Op.call { callee := Callee.builtin Builtin.append, args := #[Operand.tmp 24, Operand.tmp 26], argTypes := #[25, 25] } from rfl) (by rfl) (by rfl) (by rfl) (ReadsIn.row 0 (by rfl)) elem_ev (one_evs _) (show (o1.length + o2.length) * 128 ≤ 140737488355328 by omega)) (fun _ => by rfl) (by exact fun _ _ _ h => h.pick [6, 7, 8, 9, 10, 11, 12, 13, 14] (by rfl)) ?_
  rintro q -
  have hck := jcheck_sl m A c hl (o1 ++ o2) (by rw [List.length_append]; omega) (fun x h => (List.mem_append.1 h).elim (fun h => (hok1 x h).1) (fun h => (hok2 x h).1)) q.1 q.2
  rw [List.length_append] at hck
  skip
  refine RgF.does 6 (by rfl) (by rfl) (.inr (by kernel_rfl)) (by kernel_rfl) (Does.alloc (cs := [.int .i64 0, .int .i64 0]) (show Oper.op _ = Op.alloc 29 from rfl) (ZeroIs.mk (.agg #[.int .i64 0, .int .i64 0]) (by kernel_rfl) (by rfl))) (by rfl) (some 9) (by rfl) (fun _ => by repeat (first | exact trivial | refine ⟨by rfl, ?_⟩ | refine ⟨by simp only [List.length_append, List.length_cons, List.length_nil]; rfl, ?_⟩ | refine ⟨by push_cast; rfl, ?_⟩)) (by exact fun _ _ h => h.last) (by exact fun _ _ h => h.pick [6, 7, 8, 9, 10, 11, 12, 13, 14] (by rfl)) (Does.read (show Oper.op _ = Op.call { callee := Callee.value (Operand.func 8), args := #[Operand.tmp 22, Operand.tmp 27], argTypes := #[24, 25] } from rfl) Try.func8 (by kernel_rfl) (by kernel_rfl) (hck) (by rfl) (by rfl) ⟨ReadsIn.rd 8 (by rfl), appR 3 (by rfl), appC 4 1 (by rfl) (by rfl), appD 5 2 (by rfl) (by rfl), trivial⟩) (by rfl) (some 28) (by rfl) (by exact fun _ _ h => h.pick [6, 7, 8, 9, 10, 11, 12, 13, 14] (by rfl)) (fun _ => Does.read (show Oper.op _ = Op.call { callee := Callee.value (Operand.func 8), args := #[Operand.tmp 22, Operand.tmp 27], argTypes := #[24, 25] } from rfl) Try.func8 (by kernel_rfl) (by kernel_rfl) (hck) (by rfl) (by rfl) ⟨ReadsIn.rd 8 (by rfl), appR 3 (by rfl), appC 4 1 (by rfl) (by rfl), appD 5 2 (by rfl) (by rfl), trivial⟩) (fun _ => by rfl) (by exact fun _ _ _ h => h.pick [6, 7, 8, 9, 10, 11, 12, 13, 14] (by rfl)) ?_
  rintro _ -
  refine RgF.ev 7 (by rfl) (by exact fun _ h => h.pick [6, 7, 8, 9, 10, 11, 12, 13, 14] (by rfl)) (by exact fun _ _ h => h.pick [6, 7, 8, 9, 10, 11, 12, 13, 14] (by rfl)) (Ev.move (show Oper.op _ = Op.move (Operand.tmp 28) from rfl) (by rfl)) (fun _ => Ev.move (show Oper.op _ = Op.move (Operand.tmp 28) from rfl) (by rfl)) (by rfl) (fun _ => by rfl) (some 21) (by rfl) (by kernel_rfl) (by kernel_rfl) (by kernel_rfl) (by kernel_rfl) ?_
  refine RgF.ev 8 (by rfl) (by exact fun _ h => h.pick [6, 7, 8, 9, 10, 11, 12, 13, 14] (by rfl)) (by exact fun _ _ h => h.pick [6, 7, 8, 9, 10, 11, 12, 13, 14] (by rfl)) (Ev.extract (show Oper.op _ = Op.extract (Operand.tmp 21) 0 from rfl) (by rfl) (by rfl)) (fun _ => Ev.extract (show Oper.op _ = Op.extract (Operand.tmp 21) 0 from rfl) (by rfl) (by rfl)) (by rfl) (fun _ => by rfl) (some 29) (by rfl) (by kernel_rfl) (by kernel_rfl) (by kernel_rfl) (by kernel_rfl) ?_
  refine RgF.pv 9 (by rfl) (by exact fun _ h => h.pick [6, 7, 8, 9, 10, 11, 12, 13, 14] (by rfl)) (by exact fun _ _ h => h.pick [6, 7, 8, 9, 10, 11, 12, 13, 14] (by rfl)) (fun _ => Ev.extract (show Oper.op _ = Op.extract (Operand.tmp 21) 1 from rfl) (by rfl) (by rfl)) (fun _ _ => Ev.extract (show Oper.op _ = Op.extract (Operand.tmp 21) 1 from rfl) (by rfl) (by rfl)) (by rfl) (fun _ => by rfl) (some 30) (by rfl) (by kernel_rfl) (by kernel_rfl) (by kernel_rfl) (by kernel_rfl) ?_
  refine RgF.land (by rfl) (by kernel_rfl) (Does.alloc (cs := [.int .i64 0, .int .i64 0]) (show Oper.op _ = Op.alloc 29 from rfl) (ZeroIs.mk (.agg #[.int .i64 0, .int .i64 0]) (by kernel_rfl) (by rfl))) (by rfl) (some 9) (by rfl) (fun _ => by repeat (first | exact trivial | refine ⟨by rfl, ?_⟩ | refine ⟨by simp only [List.length_append, List.length_cons, List.length_nil]; rfl, ?_⟩ | refine ⟨by push_cast; rfl, ?_⟩)) (by exact fun _ _ h => h.last) (by exact fun _ _ h => h.pick [6, 7, 8, 9, 10, 11, 12, 13, 14] (by rfl)) ?_
  intro g3
  skip
  refine Rg.one 11 (by kernel_rfl) ?_; refine RgO.tail 11 (by rfl) (Does.store 15 (show Oper.op _ = Op.store 29 (Operand.tmp 9) (Operand.tmp 29) from rfl) (by rfl) (by rfl) (by rfl) (by kernel_rfl) (by rfl) (by kernel_rfl) (by rfl)) (by rfl) none (by rfl) (by kernel_rfl) (by kernel_rfl) ?_
  intro _ _
  skip
  refine Rg.ev 12 (by rfl) (fun _ h => h.pick [] (by rfl)) (Ev.assign (show Oper.op _ = Op.assign (Operand.tmp 30) from rfl) (by rfl)) (by rfl) (some 10) (by rfl) (by kernel_rfl) (by kernel_rfl) (by kernel_rfl) (by kernel_rfl) ?_
  refine Rg.done (by kernel_rfl) ?_ _
  refine Cd.seq ?_
  refine Cd.seq ?_
  refine Ent.pick [15, 6] (by rfl) ?_
  refine Ent.norm ([(1, .slice D o.length d), (6, .bool false), (7, .pointer (some ⟨g2, 0, none⟩)), (8, .int .i64 (codeP m)), (9, .pointer (some ⟨g3, 0, none⟩)), (10, .int .i64 (codeP m))]) ([blk g3 29 [.int .i64 (verdP m ((o1 ++ o2).map EvS.p)).1, .int .i64 (verdP m ((o1 ++ o2).map EvS.p)).2], blk g2 29 [.int .i64 (verdP m (o.map EvS.p)).1, .int .i64 (verdP m (o.map EvS.p)).2]]) (by repeat (first | exact trivial | refine ⟨by rfl, ?_⟩ | refine ⟨by simp only [List.length_append, List.length_cons, List.length_nil]; rfl, ?_⟩ | refine ⟨by push_cast; rfl, ?_⟩)) (by rfl) ?_
  have hoo : (o1 ++ o2).map EvS.p = o.map EvS.p ++ o2.map EvS.p := by
    rw [List.map_append, ho1, ho, own_own]
  rw [hoo]
  have hap := verd_append (m := m) (a := o.map EvS.p) (b := o2.map EvS.p)
  have hbe := verd_behind (m := m) (a := o.map EvS.p) (b := o2.map EvS.p)
  rw [List.length_map] at hbe
  refine Cd.region ?_
  refine Ls.ev (some 31) (Ev.move (show Oper.op _ = Op.move (Operand.tmp 8) from rfl) (by rfl)) (by rfl) (by rfl) ?_
  refine Ls.ev (some 32) (Ev.move (show Oper.op _ = Op.move (Operand.tmp 10) from rfl) (by rfl)) (by rfl) (by rfl) ?_
  refine Ls.ev (some 33) (Ev.neq (show Oper.op _ = Op.binOp BinOp.neq 30 (Operand.tmp 31) (Operand.tmp 32) 30 from rfl) (by rfl) (by rfl)) (by rfl) (by rfl) ?_
  refine Ls.nil ?_
  refine Cd.cond_false (by rfl) (decide_eq_false (show ¬ (codeP m ≠ codeP m) from fun h => h rfl)) ?_
  refine Cd.skip ?_
  refine Cd.seq ?_
  refine Cd.seq ?_
  refine Cd.region ?_
  refine Ls.ev (some 34) (Ev.fieldAddr (k := 1) (show Oper.op _ = Op.fieldAddr 29 (Operand.tmp 7) 1 from rfl) (by rfl) (by kernel_rfl) (by rfl)) (by rfl) (by rfl) ?_
  refine Ls.ev (some 35) (Ev.load 1 (show Oper.op _ = Op.load 3 (Operand.tmp 34) from rfl) (by rfl) (by rfl) (by kernel_rfl) (by rfl)) (by rfl) (by rfl) ?_
  refine Ls.ev (some 36) (Ev.neq (show Oper.op _ = Op.binOp BinOp.neq 3 (Operand.tmp 35) (Operand.const (Value.int IntKind.i64 0)) 3 from rfl) (by rfl) (by rfl)) (by rfl) (by rfl) ?_
  refine Ls.nil ?_
  refine Cd.cond _ (by rfl) (fun h => ?_) (fun h => ?_)
  · skip
    rw [hap (of_decide_eq_true h)]
    refine Cd.seq ?_
    refine Cd.region ?_
    refine Ls.ev (some 37) (Ev.loads 0 (show Oper.op _ = Op.load 29 (Operand.tmp 9) from rfl) (by rfl) (by rfl) (n := 2) (by kernel_rfl) (by rfl) (by rfl)) (by rfl) (by rfl) ?_
    refine Ls.ev (some 38) (Ev.loads 1 (show Oper.op _ = Op.load 29 (Operand.tmp 7) from rfl) (by rfl) (by rfl) (n := 2) (by kernel_rfl) (by rfl) (by rfl)) (by rfl) (by rfl) ?_
    refine Ls.ev (some 39) (Ev.eqlG (r := true) (show Oper.op _ = Op.binOp BinOp.eql 29 (Operand.tmp 37) (Operand.tmp 38) 29 from rfl) (by rfl) (by rfl) (fun w => by kernel_rfl) (fun w => verd_eql w _ _)) (by rfl) (by rfl) ?_
    refine Ls.ev (some 6) (Ev.assign (show Oper.op _ = Op.assign (Operand.tmp 39) from rfl) (by rfl)) (by rfl) (by rfl) ?_
    refine Ls.nil ?_
    refine Cd.ret ?_
    refine Ent.ret (()) (trivial) (Res.tmp (by rfl) (by rfl)) ?_ [] (by rfl) ?_
    · rfl
    · rfl
  · skip
    have hz := hbe (Decidable.not_not.1 (of_decide_eq_false h))
    refine Cd.skip ?_
    refine Cd.seq ?_
    refine Cd.region ?_
    refine Ls.ev (some 40) (Ev.fieldAddr (k := 1) (show Oper.op _ = Op.fieldAddr 29 (Operand.tmp 9) 1 from rfl) (by rfl) (by kernel_rfl) (by rfl)) (by rfl) (by rfl) ?_
    refine Ls.ev (some 41) (Ev.load 0 (show Oper.op _ = Op.load 3 (Operand.tmp 40) from rfl) (by rfl) (by rfl) (by kernel_rfl) (by rfl)) (by rfl) (by rfl) ?_
    refine Ls.ev (some 42) (Ev.eql (show Oper.op _ = Op.binOp BinOp.eql 3 (Operand.tmp 41) (Operand.const (Value.int IntKind.i64 0)) 3 from rfl) (by rfl) (by rfl)) (by rfl) (by rfl) ?_
    refine Ls.ev (some 43) (Ev.move (show Oper.op _ = Op.move (Operand.tmp 42) from rfl) (by rfl)) (by rfl) (by rfl) ?_
    refine Ent.split 43 (by rfl) (fun h2 => ?_) (fun h2 => ?_)
    · skip
      have hz := hz.resolve_left (of_decide_eq_false h2)
      refine Ls.ev (some 44) (Ev.fieldAddr (k := 0) (show Oper.op _ = Op.fieldAddr 29 (Operand.tmp 9) 0 from rfl) (by rfl) (by kernel_rfl) (by rfl)) (by rfl) (by rfl) ?_
      refine Ls.ev (some 45) (Ev.load 0 (show Oper.op _ = Op.load 3 (Operand.tmp 44) from rfl) (by rfl) (by rfl) (by kernel_rfl) (by rfl)) (by rfl) (by rfl) ?_
      refine Ls.ev (some 46) (Ev.move (show Oper.op _ = Op.move (Operand.tmp 1) from rfl) (by rfl)) (by rfl) (by rfl) ?_
      refine Ls.ev (some 47) (Ev.len (show Oper.op _ = Op.call { callee := Callee.builtin Builtin.len, args := #[Operand.tmp 46], argTypes := #[25] } from rfl) (by rfl) Try.underlying25) (by rfl) (by rfl) ?_
      refine Ls.ev (some 48) (Ev.geq (show Oper.op _ = Op.binOp BinOp.geq 3 (Operand.tmp 45) (Operand.tmp 47) 3 from rfl) (by rfl) (by rfl)) (by rfl) (by rfl) ?_
      refine Ls.ev (some 49) (Ev.pickF (show Oper.op _ = Op.pick (Operand.tmp 43) (Operand.const (Value.bool true)) (Operand.tmp 48) from rfl) (by rfl) (by rfl)) (by rfl) (by rfl) ?_
      refine Ls.ev (some 6) (Ev.assign (show Oper.op _ = Op.assign (Operand.tmp 49) from rfl) (by rfl)) (by rfl) (by rfl) ?_
      refine Ls.nil ?_
      refine Cd.ret ?_
      refine Ent.ret (()) (trivial) (Res.tmp (by rfl) (by rfl)) ?_ [] (by rfl) ?_
      · rw [decide_eq_true (show (o.length : Int) ≤ _ from hz)]
      · rfl
    · skip
      refine Ls.pass (some 44) (by rfl) (by rfl) ?_
      refine Ls.pass (some 45) (by rfl) (by rfl) ?_
      refine Ls.pass (some 46) (by rfl) (by rfl) ?_
      refine Ls.pass (some 47) (by rfl) (by rfl) ?_
      refine Ls.pass (some 48) (by rfl) (by rfl) ?_
      refine Ls.ev (some 49) (Ev.pickT (show Oper.op _ = Op.pick (Operand.tmp 43) (Operand.const (Value.bool true)) (Operand.tmp 48) from rfl) (by rfl) (by rfl)) (by rfl) (by rfl) ?_
      refine Ls.ev (some 6) (Ev.assign (show Oper.op _ = Op.assign (Operand.tmp 49) from rfl) (by rfl)) (by rfl) (by rfl) ?_
      refine Ls.nil ?_
      refine Cd.ret ?_
      refine Ent.ret (()) (trivial) (Res.tmp (by rfl) (by rfl)) ?_ [] (by rfl) ?_
      · rfl
      · rfl
end Go.Proofs.Ytegjoabfoddadaa
/- the document over pieces: ticks, cells -/
namespace Go.Proofs.Ytegjoabfoddadaa
open Go.RowKit
theorem dTick_sl (t : Int) : Fn Try.prog 46 #[.int .i64 t] [] Unit (fun _ => .bool (decide (0 ≤ t ∧ t ≤ 1073741824))) (fun _ => []) (fun _ => True) := by
  refine Fn.enter Try.func46 rfl Try.ntmps46 (by rfl) ?_
  intro w0
  refine Cd.seq ?_
  refine Cd.region ?_
  refine Ls.ev (some 2) (Ev.assign (show Oper.op _ = Op.assign (Operand.const (Value.bool false)) from rfl) (by rfl)) (by rfl) (by rfl) ?_
  refine Ls.nil ?_
  refine Cd.seq ?_
  refine Cd.region ?_
  refine Ls.ev (some 3) (Ev.move (show Oper.op _ = Op.move (Operand.tmp 0) from rfl) (by rfl)) (by rfl) (by rfl) ?_
  refine Ls.ev (some 4) (Ev.geq (show Oper.op _ = Op.binOp BinOp.geq 3 (Operand.tmp 3) (Operand.const (Value.int IntKind.i64 0)) 3 from rfl) (by rfl) (by rfl)) (by rfl) (by rfl) ?_
  refine Ls.ev (some 5) (Ev.move (show Oper.op _ = Op.move (Operand.tmp 4) from rfl) (by rfl)) (by rfl) (by rfl) ?_
  refine Ent.split 5 (by rfl) (fun h => ?_) (fun h => ?_)
  · skip
    refine Ls.pass (some 6) (by rfl) (by rfl) ?_
    refine Ls.pass (some 7) (by rfl) (by rfl) ?_
    refine Ls.ev (some 8) (Ev.pickF (show Oper.op _ = Op.pick (Operand.tmp 5) (Operand.tmp 7) (Operand.const (Value.bool false)) from rfl) (by rfl) (by rfl)) (by rfl) (by rfl) ?_
    refine Ls.ev (some 2) (Ev.assign (show Oper.op _ = Op.assign (Operand.tmp 8) from rfl) (by rfl)) (by rfl) (by rfl) ?_
    refine Ls.nil ?_
    refine Cd.ret ?_
    refine Ent.ret (()) (trivial) (Res.tmp (by rfl) (by rfl)) ?_ [] (by rfl) ?_
    · rw [decide_eq_false (fun e => (of_decide_eq_false h) e.1)]
    · rfl
  · skip
    refine Ls.ev (some 6) (Ev.move (show Oper.op _ = Op.move (Operand.tmp 0) from rfl) (by rfl)) (by rfl) (by rfl) ?_
    refine Ls.ev (some 7) (Ev.leq (show Oper.op _ = Op.binOp BinOp.leq 3 (Operand.tmp 6) (Operand.const (Value.int IntKind.i64 1073741824)) 3 from rfl) (by rfl) (by rfl)) (by rfl) (by rfl) ?_
    refine Ls.ev (some 8) (Ev.pickT (show Oper.op _ = Op.pick (Operand.tmp 5) (Operand.tmp 7) (Operand.const (Value.bool false)) from rfl) (by rfl) (by rfl)) (by rfl) (by rfl) ?_
    refine Ls.ev (some 2) (Ev.assign (show Oper.op _ = Op.assign (Operand.tmp 8) from rfl) (by rfl)) (by rfl) (by rfl) ?_
    refine Ls.nil ?_
    refine Cd.ret ?_
    refine Ent.ret (()) (trivial) (Res.tmp (by rfl) (by rfl)) ?_ [] (by rfl) ?_
    · rw [show decide (0 ≤ t ∧ t ≤ 1073741824) = decide (t ≤ 1073741824) from decide_eq_decide.2 (and_iff_right (of_decide_eq_true h))]
    · rfl
theorem dPlain_sl (x : RtS) (hl : x.l.length ≤ 1048576) : Fn Try.prog 45 #[.agg x.enc.toArray] [] Unit (fun _ => .bool (planR x.p)) (fun _ => []) (fun _ => True) := by
  have hp : planR x.p = decide (x.l.length ≤ 24 ∧ 0 ≤ x.s ∧ x.s ≤ 1073741824) := by
    rw [Bool.eq_iff_iff, planR_iff, decide_eq_true_iff]
    rfl
  rw [hp]
  refine Fn.enter Try.func45 rfl Try.ntmps45 (by rfl) ?_
  intro w0
  refine Cd.seq ?_
  refine Cd.region ?_
  refine Ls.does (some 1) (Does.box (show Oper.op _ = Op.box 41 (Operand.tmp 0) from rfl) (by rfl)) (by rfl) (by rfl) ?_
  intro g1 _
  refine Ls.ev (some 2) (Ev.assign (show Oper.op _ = Op.assign (Operand.const (Value.bool false)) from rfl) (by rfl)) (by rfl) (by rfl) ?_
  refine Ls.nil ?_
  refine Cd.seq ?_
  refine Cd.region ?_
  refine Ls.ev (some 3) (Ev.fieldAddr (k := 1) (show Oper.op _ = Op.fieldAddr 41 (Operand.tmp 1) 1 from rfl) (by rfl) (by kernel_rfl) (by rfl)) (by rfl) (by rfl) ?_
  refine Ls.ev (some 4) (Ev.load 0 (show Oper.op _ = Op.load 22 (Operand.tmp 3) from rfl) (by rfl) (by rfl) (by kernel_rfl) (by rfl)) (by rfl) (by rfl) ?_
  refine Ls.ev (some 5) (Ev.len (show Oper.op _ = Op.call { callee := Callee.builtin Builtin.len, args := #[Operand.tmp 4], argTypes := #[22] } from rfl) (by rfl) Try.underlying22) (by rfl) (by rfl) ?_
  refine Ls.ev (some 6) (Ev.leq (show Oper.op _ = Op.binOp BinOp.leq 3 (Operand.tmp 5) (Operand.const (Value.int IntKind.i64 24)) 3 from rfl) (by rfl) (by rfl)) (by rfl) (by rfl) ?_
  refine Ls.ev (some 7) (Ev.move (show Oper.op _ = Op.move (Operand.tmp 6) from rfl) (by rfl)) (by rfl) (by rfl) ?_
  refine Ent.split 7 (by rfl) (fun h => ?_) (fun h => ?_)
  · skip
    have h := of_decide_eq_false h
    refine Ls.pass (some 8) (by rfl) (by rfl) ?_
    refine Ls.pass (some 9) (by rfl) (by rfl) ?_
    refine Ls.pass (some 10) (by rfl) (by rfl) ?_
    refine Ls.ev (some 11) (Ev.pickF (show Oper.op _ = Op.pick (Operand.tmp 7) (Operand.tmp 10) (Operand.const (Value.bool false)) from rfl) (by rfl) (by rfl)) (by rfl) (by rfl) ?_
    refine Ls.ev (some 2) (Ev.assign (show Oper.op _ = Op.assign (Operand.tmp 11) from rfl) (by rfl)) (by rfl) (by rfl) ?_
    refine Ls.nil ?_
    refine Cd.ret ?_
    refine Ent.ret (()) (trivial) (Res.tmp (by rfl) (by rfl)) ?_ [] (by rfl) ?_
    · rw [decide_eq_false (by omega)]
    · rfl
  · skip
    have h := of_decide_eq_true h
    refine Ls.ev (some 8) (Ev.fieldAddr (k := 0) (show Oper.op _ = Op.fieldAddr 41 (Operand.tmp 1) 0 from rfl) (by rfl) (by kernel_rfl) (by rfl)) (by rfl) (by rfl) ?_
    refine Ls.ev (some 9) (Ev.load 0 (show Oper.op _ = Op.load 3 (Operand.tmp 8) from rfl) (by rfl) (by rfl) (by kernel_rfl) (by rfl)) (by rfl) (by rfl) ?_
    refine Ls.does (some 10) (Does.read (show Oper.op _ = Op.call { callee := Callee.value (Operand.func 46), args := #[Operand.tmp 9], argTypes := #[3] } from rfl) Try.func46 (by kernel_rfl) (by kernel_rfl) (dTick_sl x.s) (by rfl) (by rfl) trivial) (by rfl) (by rfl) ?_
    rintro _ -
    refine Ls.ev (some 11) (Ev.pickT (show Oper.op _ = Op.pick (Operand.tmp 7) (Operand.tmp 10) (Operand.const (Value.bool false)) from rfl) (by rfl) (by rfl)) (by rfl) (by rfl) ?_
    refine Ls.ev (some 2) (Ev.assign (show Oper.op _ = Op.assign (Operand.tmp 11) from rfl) (by rfl)) (by rfl) (by rfl) ?_
    refine Ls.nil ?_
    refine Cd.ret ?_
    refine Ent.ret (()) (trivial) (Res.tmp (by rfl) (by rfl)) ?_ [] (by rfl) ?_
    · rw [show decide (x.l.length ≤ 24 ∧ 0 ≤ x.s ∧ x.s ≤ 1073741824) = decide (0 ≤ x.s ∧ x.s ≤ 1073741824) from decide_eq_decide.2 (and_iff_right (by omega))]
    · rfl
abbrev Dims (m : MapP) : Prop := m.w * m.h ≤ 256 ∧ 1 ≤ m.w ∧ m.w ≤ 16 ∧ 1 ≤ m.h ∧ m.h ≤ 16 ∧ 1 ≤ m.w * m.h
section
variable (m : MapP) (hw : Dims m) (A : Option Addr) (c : Nat)
include hw
theorem dIs_sl (x : Int) : Fn Try.prog 17 #[.agg (mapV m A c).toArray, .int .i64 x] [] Unit (fun _ => .bool (isM m x)) (fun _ => []) (fun _ => True) := by
  have hd : isM m x = decide (0 ≤ x ∧ x < m.w * m.h) := by unfold isM; rw [Bool.decide_and]
  rw [hd]
  refine Fn.enter Try.func17 rfl Try.ntmps17 (by rfl) ?_
  intro w0
  refine Cd.seq ?_
  refine Cd.region ?_
  refine Ls.does (some 2) (Does.box (show Oper.op _ = Op.box 24 (Operand.tmp 0) from rfl) (by rfl)) (by rfl) (by rfl) ?_
  intro g1 _
  refine Ls.ev (some 4) (Ev.assign (show Oper.op _ = Op.assign (Operand.const (Value.bool false)) from rfl) (by rfl)) (by rfl) (by rfl) ?_
  refine Ls.nil ?_
  refine Cd.seq ?_
  refine Cd.region ?_
  refine Ls.ev (some 5) (Ev.move (show Oper.op _ = Op.move (Operand.tmp 1) from rfl) (by rfl)) (by rfl) (by rfl) ?_
  refine Ls.ev (some 6) (Ev.geq (show Oper.op _ = Op.binOp BinOp.geq 3 (Operand.tmp 5) (Operand.const (Value.int IntKind.i64 0)) 3 from rfl) (by rfl) (by rfl)) (by rfl) (by rfl) ?_
  refine Ls.ev (some 7) (Ev.move (show Oper.op _ = Op.move (Operand.tmp 6) from rfl) (by rfl)) (by rfl) (by rfl) ?_
  refine Ent.split 7 (by rfl) (fun h => ?_) (fun h => ?_)
  · skip
    refine Ls.pass (some 8) (by rfl) (by rfl) ?_
    refine Ls.pass (some 9) (by rfl) (by rfl) ?_
    refine Ls.pass (some 10) (by rfl) (by rfl) ?_
    refine Ls.pass (some 11) (by rfl) (by rfl) ?_
    refine Ls.pass (some 12) (by rfl) (by rfl) ?_
    refine Ls.pass (some 13) (by rfl) (by rfl) ?_
    refine Ls.pass (some 14) (by rfl) (by rfl) ?_
    refine Ls.ev (some 15) (Ev.pickF (show Oper.op _ = Op.pick (Operand.tmp 7) (Operand.tmp 14) (Operand.const (Value.bool false)) from rfl) (by rfl) (by rfl)) (by rfl) (by rfl) ?_
    refine Ls.ev (some 4) (Ev.assign (show Oper.op _ = Op.assign (Operand.tmp 15) from rfl) (by rfl)) (by rfl) (by rfl) ?_
    refine Ls.nil ?_
    refine Cd.ret ?_
    refine Ent.ret (()) (trivial) (Res.tmp (by rfl) (by rfl)) ?_ [] (by rfl) ?_
    · rw [decide_eq_false (fun e => (of_decide_eq_false h) e.1)]
    · rfl
  · skip
    refine Ls.ev (some 8) (Ev.move (show Oper.op _ = Op.move (Operand.tmp 1) from rfl) (by rfl)) (by rfl) (by rfl) ?_
    refine Ls.ev (some 9) (Ev.fieldAddr (k := 0) (show Oper.op _ = Op.fieldAddr 24 (Operand.tmp 2) 0 from rfl) (by rfl) (by kernel_rfl) (by rfl)) (by rfl) (by rfl) ?_
    refine Ls.ev (some 10) (Ev.load 0 (show Oper.op _ = Op.load 3 (Operand.tmp 9) from rfl) (by rfl) (by rfl) (by kernel_rfl) (by rfl)) (by rfl) (by rfl) ?_
    refine Ls.ev (some 11) (Ev.fieldAddr (k := 1) (show Oper.op _ = Op.fieldAddr 24 (Operand.tmp 2) 1 from rfl) (by rfl) (by kernel_rfl) (by rfl)) (by rfl) (by rfl) ?_
    refine Ls.ev (some 12) (Ev.load 0 (show Oper.op _ = Op.load 3 (Operand.tmp 11) from rfl) (by rfl) (by rfl) (by kernel_rfl) (by rfl)) (by rfl) (by rfl) ?_
    refine Ls.ev (some 13) (Ev.mulI (show Oper.op _ = Op.binOp BinOp.mul 3 (Operand.tmp 10) (Operand.tmp 12) 3 from rfl) (by rfl) (by rfl) (by omega)) (by rfl) (by rfl) ?_
    refine Ls.ev (some 14) (Ev.lss (show Oper.op _ = Op.binOp BinOp.lss 3 (Operand.tmp 8) (Operand.tmp 13) 3 from rfl) (by rfl) (by rfl)) (by rfl) (by rfl) ?_
    refine Ls.ev (some 15) (Ev.pickT (show Oper.op _ = Op.pick (Operand.tmp 7) (Operand.tmp 14) (Operand.const (Value.bool false)) from rfl) (by rfl) (by rfl)) (by rfl) (by rfl) ?_
    refine Ls.ev (some 4) (Ev.assign (show Oper.op _ = Op.assign (Operand.tmp 15) from rfl) (by rfl)) (by rfl) (by rfl) ?_
    refine Ls.nil ?_
    refine Cd.ret ?_
    refine Ent.ret (()) (trivial) (Res.tmp (by rfl) (by rfl)) ?_ [] (by rfl) ?_
    · rw [show decide (0 ≤ x ∧ x < m.w * m.h) = decide (x < m.w * m.h) from decide_eq_decide.2 (and_iff_right (of_decide_eq_true h))]
    · rfl
theorem dFree_sl (hl : m.bl.length ≤ 17592186044415) (x : Int) : Fn Try.prog 47 #[.agg (mapV m A c).toArray, .int .i64 x] [rdI A m.bl] Unit (fun _ => .bool (freeM m x)) (fun _ => []) (fun _ => True) := by
  have hi := dIs_sl m hw A c x
  obtain ⟨w, h, sh, bl⟩ := m
  dsimp only [mapV] at hl hi ⊢
  refine Fn.enter Try.func47 rfl Try.ntmps47 (by rfl) ?_
  intro w0
  refine Cd.seq ?_
  refine Cd.region ?_
  refine Ls.does (some 2) (Does.box (show Oper.op _ = Op.box 24 (Operand.tmp 0) from rfl) (by rfl)) (by rfl) (by rfl) ?_
  intro g1 _
  refine Ls.ev (some 4) (Ev.assign (show Oper.op _ = Op.assign (Operand.const (Value.bool false)) from rfl) (by rfl)) (by rfl) (by rfl) ?_
  refine Ls.nil ?_
  refine Cd.seq ?_
  refine Cd.seq ?_
  refine Cd.region ?_
  refine Ls.ev (some 5) (Ev.assign (show Oper.op _ = Op.assign (Operand.const (Value.int IntKind.i64 0)) from rfl) (by rfl)) (by rfl) (by rfl) ?_
  refine Ls.nil ?_
  refine Cd.block ?_
  refine Cd.loop (ι := Nat) (fun k => [(1, .int .i64 x), (2, .pointer (some ⟨g1, 0, none⟩)), (4, .bool false), (5, .int .i64 k)]) (fun _ => [blk g1 24 [.int .i64 w, .int .i64 h, .int .i64 sh, .slice A bl.length c], rdI A bl]) (fun k => k ≤ bl.length ∧ x ∉ bl.take k) (fun k => bl.length - k) (0) (⟨Nat.zero_le _, by simp⟩) ?_ rfl ?_
  · (repeat (first | exact trivial | refine ⟨by rfl, ?_⟩))
  rintro k ⟨hk, hno⟩
  refine Cd.seq ?_
  refine Cd.seq ?_
  refine Cd.region ?_
  refine Ls.ev (some 6) (Ev.move (show Oper.op _ = Op.move (Operand.tmp 5) from rfl) (by rfl)) (by rfl) (by rfl) ?_
  refine Ls.ev (some 7) (Ev.fieldAddr (k := 3) (show Oper.op _ = Op.fieldAddr 24 (Operand.tmp 2) 3 from rfl) (by rfl) (by kernel_rfl) (by rfl)) (by rfl) (by rfl) ?_
  refine Ls.ev (some 8) (Ev.load 0 (show Oper.op _ = Op.load 22 (Operand.tmp 7) from rfl) (by rfl) (by rfl) (by kernel_rfl) (by rfl)) (by rfl) (by rfl) ?_
  refine Ls.ev (some 9) (Ev.len (show Oper.op _ = Op.call { callee := Callee.builtin Builtin.len, args := #[Operand.tmp 8], argTypes := #[22] } from rfl) (by rfl) Try.underlying22) (by rfl) (by rfl) ?_
  refine Ls.ev (some 10) (Ev.lss (show Oper.op _ = Op.binOp BinOp.lss 3 (Operand.tmp 6) (Operand.tmp 9) 3 from rfl) (by rfl) (by rfl)) (by rfl) (by rfl) ?_
  refine Ls.nil ?_
  refine Cd.cond _ (by rfl) (fun h1 => ?_) (fun h1 => ?_)
  · skip
    have hlt : k < bl.length := by have := of_decide_eq_true h1; omega
    obtain ⟨y, hy⟩ := get_of_lt hlt
    have hv : (ints bl)[k * 1]? = some (.int .i64 y) := by unfold ints; simp [hy]
    refine Ent.rdSome 1 (by rfl) (by omega) (fun ad had => ?_)
    subst had
    refine Cd.skip ?_
    refine Cd.seq ?_
    refine Cd.block ?_
    refine Cd.seq ?_
    refine Cd.region ?_
    refine Ls.ev (some 13) (Ev.fieldAddr (k := 3) (show Oper.op _ = Op.fieldAddr 24 (Operand.tmp 2) 3 from rfl) (by rfl) (by kernel_rfl) (by rfl)) (by rfl) (by rfl) ?_
    refine Ls.ev (some 14) (Ev.load 0 (show Oper.op _ = Op.load 22 (Operand.tmp 13) from rfl) (by rfl) (by rfl) (by kernel_rfl) (by rfl)) (by rfl) (by rfl) ?_
    refine Ls.ev (some 15) (Ev.move (show Oper.op _ = Op.move (Operand.tmp 5) from rfl) (by rfl)) (by rfl) (by rfl) ?_
    refine Ls.ev (some 16) (Ev.indexAt (sz := 1) (show Oper.op _ = Op.indexAddr 22 (Operand.tmp 14) (Operand.tmp 15) from rfl) (by rfl) (by rfl) Try.underlying22 (by kernel_rfl) (by omega)) (by rfl) (by rfl) ?_
    refine Ls.ev (some 17) (Ev.loadInt (show Oper.op _ = Op.load 3 (Operand.tmp 16) from rfl) (by rfl) (ReadsIn.rd 1 (by rfl)) (by kernel_rfl) (by assumption)) (by rfl) (by rfl) ?_
    refine Ls.ev (some 18) (Ev.move (show Oper.op _ = Op.move (Operand.tmp 1) from rfl) (by rfl)) (by rfl) (by rfl) ?_
    refine Ls.ev (some 19) (Ev.eql (show Oper.op _ = Op.binOp BinOp.eql 3 (Operand.tmp 17) (Operand.tmp 18) 3 from rfl) (by rfl) (by rfl)) (by rfl) (by rfl) ?_
    refine Ls.nil ?_
    refine Cd.cond _ (by rfl) (fun h2 => ?_) (fun h2 => ?_)
    · skip
      have h2 := of_decide_eq_true h2
      subst h2
      have hm : y ∈ bl := List.mem_of_getElem? hy
      refine Cd.seq ?_
      refine Cd.region ?_
      refine Ls.ev (some 4) (Ev.assign (show Oper.op _ = Op.assign (Operand.const (Value.bool false)) from rfl) (by rfl)) (by rfl) (by rfl) ?_
      refine Ls.nil ?_
      refine Cd.ret ?_
      refine Ent.ret (()) (trivial) (Res.tmp (by rfl) (by rfl)) ?_ [] (by rfl) ?_
      · unfold freeM; simp [hm]
      · rfl
    · skip
      have h2 := of_decide_eq_false h2
      refine Cd.skip ?_
      refine Cd.region ?_
      refine Ls.ev (some 11) (Ev.move (show Oper.op _ = Op.move (Operand.tmp 5) from rfl) (by rfl)) (by rfl) (by rfl) ?_
      refine Ls.ev (some 12) (Ev.addI (show Oper.op _ = Op.binOp BinOp.add 3 (Operand.tmp 11) (Operand.const (Value.int IntKind.i64 1)) 3 from rfl) (by rfl) (by rfl) (by omega)) (by rfl) (by rfl) ?_
      refine Ls.ev (some 5) (Ev.assign (show Oper.op _ = Op.assign (Operand.tmp 12) from rfl) (by rfl)) (by rfl) (by rfl) ?_
      refine Ls.nil ?_
      refine Ent.inv (k + 1) ?_ ?_ ?_
      · (try dsimp only); exact ⟨⟨hlt, fun hm => by rw [List.take_add_one, hy] at hm; simp at hm; exact hm.elim hno (fun e => h2 e.symm)⟩, by omega⟩
      · (repeat (first | exact trivial | refine ⟨by rfl, ?_⟩ | refine ⟨by simp only [List.length_append, List.length_cons, List.length_nil]; rfl, ?_⟩ | refine ⟨by push_cast; rfl, ?_⟩))
      · rfl
  · skip
    have hk2 : bl.length ≤ k := by have := of_decide_eq_false h1; omega
    rw [List.take_of_length_le hk2] at hno
    refine Cd.exit ?_
    refine Cd.seq ?_
    refine Cd.region ?_
    refine Ls.ev (some 20) (Ev.loads 0 (show Oper.op _ = Op.load 24 (Operand.tmp 2) from rfl) (by rfl) (by rfl) (n := 4) (by kernel_rfl) (by rfl) (by rfl)) (by rfl) (by rfl) ?_
    refine Ls.ev (some 21) (Ev.move (show Oper.op _ = Op.move (Operand.tmp 1) from rfl) (by rfl)) (by rfl) (by rfl) ?_
    refine Ls.does (some 22) (Does.read (show Oper.op _ = Op.call { callee := Callee.value (Operand.func 17), args := #[Operand.tmp 20, Operand.tmp 21], argTypes := #[24, 3] } from rfl) Try.func17 (by kernel_rfl) (by kernel_rfl) (hi) (by rfl) (by rfl) trivial) (by rfl) (by rfl) ?_
    rintro _ -
    refine Ls.ev (some 4) (Ev.assign (show Oper.op _ = Op.assign (Operand.tmp 22) from rfl) (by rfl)) (by rfl) (by rfl) ?_
    refine Ls.nil ?_
    refine Cd.ret ?_
    refine Ent.ret (()) (trivial) (Res.tmp (by rfl) (by rfl)) ?_ [] (by rfl) ?_
    · unfold freeM; simp [hno]
    · rfl
end
end Go.Proofs.Ytegjoabfoddadaa
