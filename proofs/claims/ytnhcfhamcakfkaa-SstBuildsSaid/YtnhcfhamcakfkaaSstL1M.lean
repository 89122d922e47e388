/- SstBuilds: any list that is a table's is written in its one form, and all others are refused for the first thing that is wrong. No condition beyond the statement's own. -/
import Derived.Test.YtnhcfhamcakfkaaMSstL1f
import Derived.Test.YtnhcfhamcakfkaaMSstL1g
import Derived.Test.YtnhcfhamcakfkaaChecked
import Derived.Test.YtnhcfhamcakfkaaRows
namespace Go.Proofs.Ytnhcfhamcakfkaa
open Go.RowKit
theorem builds_fn (W : World) (A : Option Addr) (c : Nat) (l : List Ety) (hr : Reads W W.heap.size 4 A l.length (l.flatMap Ety.enc)) (hn : l.length ≤ 8796093022207) (hc : l.length ≤ c) :
    Fn Try.prog 3 #[.slice A l.length c] [argc W] Unit (fun _ => .bool true) (fun _ => []) (fun _ => True) := by
  have h90 : (l.take 90).take 90 = l.take 90 := by rw [List.take_take, Nat.min_self]
  have hl9 : (l.take 90).length ≤ 90 := by rw [List.length_take]; omega
  refine Fn.enter Try.func3 rfl Try.ntmps3 (by rfl) ?_
  intro w0
  refine Ent.arg 0 (by rfl) hr ?_
  refine Cd.seq ?_
  refine Cd.region ?_
  refine Ls.ev (some 2) (Ev.assign (show Oper.op _ = Op.assign (Operand.const (Value.bool false)) from rfl) (by rfl)) (by rfl) (by rfl) ?_
  refine Ls.nil ?_
  refine Cd.seq ?_
  refine Cd.seq ?_
  refine Cd.region ?_
  refine Ls.does (some 6) (Does.read (show Oper.op _ = Op.call { callee := Callee.value (Operand.func 8), args := #[], argTypes := #[] } from rfl) Try.func8 (by kernel_rfl) (by kernel_rfl) (awake_sl) (by rfl) (by rfl) trivial) (by rfl) (by rfl) ?_
  rintro _ -
  refine Ls.ev (some 7) (Ev.not (show Oper.op _ = Op.unOp UnOp.not 4 (Operand.tmp 6) from rfl) (by rfl)) (by rfl) (by rfl) ?_
  refine Ls.nil ?_
  refine Cd.cond_false (by rfl) (rfl) ?_
  refine Cd.skip ?_
  refine Cd.seq ?_
  refine Cd.region ?_
  refine Ls.ev (some 8) (Ev.move (show Oper.op _ = Op.move (Operand.tmp 0) from rfl) (by rfl)) (by rfl) (by rfl) ?_
  refine Ls.does (some 9) (Does.readN (show Oper.op _ = Op.call { callee := Callee.value (Operand.func 9), args := #[Operand.tmp 8], argTypes := #[22] } from rfl) Try.func9 (by kernel_rfl) (by kernel_rfl) (own_sl A c l hn hc) (by rfl) (by rfl) ⟨ReadsIn.rd 0 (by rfl), trivial⟩ (fun _ => by rfl)) (by rfl) (by rfl) ?_
  revert h90 hl9
  generalize l.take 90 = l1
  intro h90 hl9 p _
  refine Ent.fact 0 (by rfl) (p := l1.length ≤ p.2) (fun w hw => Own.le hw) (fun hpc => ?_)
  refine Ls.ev (some 0) (Ev.assign (show Oper.op _ = Op.assign (Operand.tmp 9) from rfl) (by rfl)) (by rfl) (by rfl) ?_
  refine Ls.nil ?_
  refine Cd.seq ?_
  refine Cd.region ?_
  refine Ls.ev (some 11) (Ev.move (show Oper.op _ = Op.move (Operand.tmp 0) from rfl) (by rfl)) (by rfl) (by rfl) ?_
  refine Ls.does (some 12) (Does.readN (show Oper.op _ = Op.call { callee := Callee.value (Operand.func 9), args := #[Operand.tmp 11], argTypes := #[22] } from rfl) Try.func9 (by kernel_rfl) (by kernel_rfl) (own_sl p.1 p.2 l1 (by omega) hpc) (by rfl) (by rfl) ⟨ReadsIn.row 0 (by rfl), trivial⟩ (fun _ => by rfl)) (by rfl) (by rfl) ?_
  rw [h90]
  intro q _
  refine Ent.fact 0 (by rfl) (p := l1.length ≤ q.2) (fun w hw => Own.le hw) (fun hqc => ?_)
  by_cases he : errL l1 = 0
  · skip
    refine Ls.does (some 13) (Does.readN (show Oper.op _ = Op.call { callee := Callee.value (Operand.func 10), args := #[Operand.tmp 12], argTypes := #[22] } from rfl) Try.func10 (by kernel_rfl) (by kernel_rfl) (build_sl q.1 q.2 l1 hqc he) (by rfl) (by rfl) ⟨ReadsIn.row 0 (by rfl), trivial⟩ (fun _ => by rfl)) (by rfl) (by rfl) ?_
    intro r _
    refine Ls.ev (some 10) (Ev.move (show Oper.op _ = Op.move (Operand.tmp 13) from rfl) (by rfl)) (by rfl) (by rfl) ?_
    refine Ls.ev (some 14) (Ev.extract (show Oper.op _ = Op.extract (Operand.tmp 10) 0 from rfl) (by rfl) (by rfl)) (by rfl) (by rfl) ?_
    refine Ls.ev (some 15) (Ev.extract (show Oper.op _ = Op.extract (Operand.tmp 10) 1 from rfl) (by rfl) (by rfl)) (by rfl) (by rfl) ?_
    refine Ls.ev (some 3) (Ev.assign (show Oper.op _ = Op.assign (Operand.tmp 14) from rfl) (by rfl)) (by rfl) (by rfl) ?_
    refine Ls.ev (some 4) (Ev.assign (show Oper.op _ = Op.assign (Operand.tmp 15) from rfl) (by rfl)) (by rfl) (by rfl) ?_
    refine Ls.nil ?_
    refine Cd.seq ?_
    refine Cd.region ?_
    refine Ls.ev (some 16) (Ev.move (show Oper.op _ = Op.move (Operand.tmp 0) from rfl) (by rfl)) (by rfl) (by rfl) ?_
    refine Ls.does (some 17) (Does.read (show Oper.op _ = Op.call { callee := Callee.value (Operand.func 11), args := #[Operand.tmp 16], argTypes := #[22] } from rfl) Try.func11 (by kernel_rfl) (by kernel_rfl) (refError_sl p.1 p.2 l1 (by omega)) (by rfl) (by rfl) ⟨ReadsIn.row 2 (by rfl), trivial⟩) (by rfl) (by rfl) ?_
    rw [he]
    rintro _ -
    refine Ls.ev (some 5) (Ev.assign (show Oper.op _ = Op.assign (Operand.tmp 17) from rfl) (by rfl)) (by rfl) (by rfl) ?_
    refine Ls.nil ?_
    refine Cd.seq ?_
    refine Cd.seq ?_
    refine Cd.region ?_
    refine Ls.ev (some 18) (Ev.move (show Oper.op _ = Op.move (Operand.tmp 4) from rfl) (by rfl)) (by rfl) (by rfl) ?_
    refine Ls.ev (some 19) (Ev.move (show Oper.op _ = Op.move (Operand.tmp 5) from rfl) (by rfl)) (by rfl) (by rfl) ?_
    refine Ls.ev (some 20) (Ev.neq (show Oper.op _ = Op.binOp BinOp.neq 3 (Operand.tmp 18) (Operand.tmp 19) 3 from rfl) (by rfl) (by rfl)) (by rfl) (by rfl) ?_
    refine Ls.nil ?_
    refine Cd.cond_false (by rfl) (rfl) ?_
    refine Cd.skip ?_
    refine Cd.seq ?_
    refine Cd.seq ?_
    refine Cd.region ?_
    refine Ls.ev (some 21) (Ev.move (show Oper.op _ = Op.move (Operand.tmp 5) from rfl) (by rfl)) (by rfl) (by rfl) ?_
    refine Ls.ev (some 22) (Ev.neq (show Oper.op _ = Op.binOp BinOp.neq 3 (Operand.tmp 21) (Operand.const (Value.int IntKind.i64 0)) 3 from rfl) (by rfl) (by rfl)) (by rfl) (by rfl) ?_
    refine Ls.nil ?_
    refine Cd.cond_false (by rfl) (rfl) ?_
    refine Cd.skip ?_
    refine Cd.seq ?_
    refine Cd.draw [] (by kernel_rfl) ?_
    refine Rg.ev 0 (by rfl) (fun _ h => h) (Ev.move (show Oper.op _ = Op.move (Operand.tmp 3) from rfl) (by rfl)) (by rfl) (some 26) (by rfl) (by kernel_rfl) (by kernel_rfl) (by kernel_rfl) (by kernel_rfl) ?_
    refine Rg.ev 1 (by rfl) (fun _ h => h) (Ev.textOf (show Oper.op _ = Op.convert 25 9 (Operand.tmp 26) from rfl) (by rfl) (ReadsIn.row 0 (by rfl)) Try.underlying25 Try.underlying5 Try.underlying9) (by rfl) (some 27) (by rfl) (by kernel_rfl) (by kernel_rfl) (by kernel_rfl) (by kernel_rfl) ?_
    refine Rg.ev 2 (by rfl) (fun _ h => h) (Ev.move (show Oper.op _ = Op.move (Operand.tmp 0) from rfl) (by rfl)) (by rfl) (some 28) (by rfl) (by kernel_rfl) (by kernel_rfl) (by kernel_rfl) (by kernel_rfl) ?_
    refine Rg.does 3 (by rfl) (by kernel_rfl) (Does.readN (show Oper.op _ = Op.call { callee := Callee.value (Operand.func 12), args := #[Operand.tmp 28], argTypes := #[22] } from rfl) Try.func12 (by kernel_rfl) (by kernel_rfl) (refBuild_sl p.1 p.2 l1 he) (by rfl) (by rfl) ⟨ReadsIn.row 2 (by rfl), trivial⟩ (fun _ => by rfl)) (by rfl) (some 29) (by rfl) (fun _ _ h => h.tail_) ?_
    intro r2 _
    refine Rg.ev 4 (by rfl) (fun _ h => h) (Ev.textOf (show Oper.op _ = Op.convert 25 9 (Operand.tmp 29) from rfl) (by rfl) (ReadsIn.row 0 (by rfl)) Try.underlying25 Try.underlying5 Try.underlying9) (by rfl) (some 30) (by rfl) (by kernel_rfl) (by kernel_rfl) (by kernel_rfl) (by kernel_rfl) ?_
    refine Rg.ev 5 (by rfl) (fun _ h => h) (Ev.eqlS (show Oper.op _ = Op.binOp BinOp.eql 9 (Operand.tmp 27) (Operand.tmp 30) 9 from rfl) (by rfl) (by rfl)) (by rfl) (some 31) (by rfl) (by kernel_rfl) (by kernel_rfl) (by kernel_rfl) (by kernel_rfl) ?_
    refine Rg.ev 6 (by rfl) (fun _ h => h) (Ev.assign (show Oper.op _ = Op.assign (Operand.tmp 31) from rfl) (by rfl)) (by rfl) (some 2) (by rfl) (by kernel_rfl) (by kernel_rfl) (by kernel_rfl) (by kernel_rfl) ?_
    refine Rg.done (by kernel_rfl) ?_ _
    refine Cd.ret ?_
    refine Ent.ret (()) (trivial) (Res.tmp (by rfl) (by rfl)) ?_ [] (by rfl) ?_
    · rw [decide_eq_true rfl]
    · rfl
  · skip
    refine Ls.does (some 13) (Does.read (show Oper.op _ = Op.call { callee := Callee.value (Operand.func 10), args := #[Operand.tmp 12], argTypes := #[22] } from rfl) Try.func10 (by kernel_rfl) (by kernel_rfl) (build_bad q.1 q.2 l1 (by omega) he) (by rfl) (by rfl) ⟨ReadsIn.row 0 (by rfl), trivial⟩) (by rfl) (by rfl) ?_
    rintro _ -
    refine Ls.ev (some 10) (Ev.move (show Oper.op _ = Op.move (Operand.tmp 13) from rfl) (by rfl)) (by rfl) (by rfl) ?_
    refine Ls.ev (some 14) (Ev.extract (show Oper.op _ = Op.extract (Operand.tmp 10) 0 from rfl) (by rfl) (by rfl)) (by rfl) (by rfl) ?_
    refine Ls.ev (some 15) (Ev.extract (show Oper.op _ = Op.extract (Operand.tmp 10) 1 from rfl) (by rfl) (by rfl)) (by rfl) (by rfl) ?_
    refine Ls.ev (some 3) (Ev.assign (show Oper.op _ = Op.assign (Operand.tmp 14) from rfl) (by rfl)) (by rfl) (by rfl) ?_
    refine Ls.ev (some 4) (Ev.assign (show Oper.op _ = Op.assign (Operand.tmp 15) from rfl) (by rfl)) (by rfl) (by rfl) ?_
    refine Ls.nil ?_
    refine Cd.seq ?_
    refine Cd.region ?_
    refine Ls.ev (some 16) (Ev.move (show Oper.op _ = Op.move (Operand.tmp 0) from rfl) (by rfl)) (by rfl) (by rfl) ?_
    refine Ls.does (some 17) (Does.read (show Oper.op _ = Op.call { callee := Callee.value (Operand.func 11), args := #[Operand.tmp 16], argTypes := #[22] } from rfl) Try.func11 (by kernel_rfl) (by kernel_rfl) (refError_sl p.1 p.2 l1 (by omega)) (by rfl) (by rfl) ⟨ReadsIn.row 1 (by rfl), trivial⟩) (by rfl) (by rfl) ?_
    rintro _ -
    refine Ls.ev (some 5) (Ev.assign (show Oper.op _ = Op.assign (Operand.tmp 17) from rfl) (by rfl)) (by rfl) (by rfl) ?_
    refine Ls.nil ?_
    refine Cd.seq ?_
    refine Cd.seq ?_
    refine Cd.region ?_
    refine Ls.ev (some 18) (Ev.move (show Oper.op _ = Op.move (Operand.tmp 4) from rfl) (by rfl)) (by rfl) (by rfl) ?_
    refine Ls.ev (some 19) (Ev.move (show Oper.op _ = Op.move (Operand.tmp 5) from rfl) (by rfl)) (by rfl) (by rfl) ?_
    refine Ls.ev (some 20) (Ev.neq (show Oper.op _ = Op.binOp BinOp.neq 3 (Operand.tmp 18) (Operand.tmp 19) 3 from rfl) (by rfl) (by rfl)) (by rfl) (by rfl) ?_
    refine Ls.nil ?_
    refine Cd.cond_false (by rfl) (by simp) ?_
    refine Cd.skip ?_
    refine Cd.seq ?_
    refine Cd.seq ?_
    refine Cd.region ?_
    refine Ls.ev (some 21) (Ev.move (show Oper.op _ = Op.move (Operand.tmp 5) from rfl) (by rfl)) (by rfl) (by rfl) ?_
    refine Ls.ev (some 22) (Ev.neq (show Oper.op _ = Op.binOp BinOp.neq 3 (Operand.tmp 21) (Operand.const (Value.int IntKind.i64 0)) 3 from rfl) (by rfl) (by rfl)) (by rfl) (by rfl) ?_
    refine Ls.nil ?_
    refine Cd.cond_true (by rfl) (decide_eq_true he) ?_
    refine Cd.seq ?_
    refine Cd.region ?_
    refine Ls.ev (some 23) (Ev.move (show Oper.op _ = Op.move (Operand.tmp 3) from rfl) (by rfl)) (by rfl) (by rfl) ?_
    refine Ls.ev (some 24) (Ev.len (show Oper.op _ = Op.call { callee := Callee.builtin Builtin.len, args := #[Operand.tmp 23], argTypes := #[25] } from rfl) (by rfl) Try.underlying25) (by rfl) (by rfl) ?_
    refine Ls.ev (some 25) (Ev.eql (show Oper.op _ = Op.binOp BinOp.eql 3 (Operand.tmp 24) (Operand.const (Value.int IntKind.i64 0)) 3 from rfl) (by rfl) (by rfl)) (by rfl) (by rfl) ?_
    refine Ls.ev (some 2) (Ev.assign (show Oper.op _ = Op.assign (Operand.tmp 25) from rfl) (by rfl)) (by rfl) (by rfl) ?_
    refine Ls.nil ?_
    refine Cd.ret ?_
    refine Ent.ret (()) (trivial) (Res.tmp (by rfl) (by rfl)) ?_ [] (by rfl) ?_
    · rfl
    · rfl
set_option maxRecDepth 100000 in
theorem val_ents {W : World} {v : Value} (h : Val Try.prog W 22 v) : ∃ A c l, v = .slice A (List.length l) c ∧ Reads W W.heap.size 4 A l.length (l.flatMap Ety.enc) ∧ (∀ e ∈ l, e.key.size ≤ reachBytes ∧ e.value.size ≤ reachBytes ∧ (-9223372036854775808 ≤ e.seq ∧ e.seq ≤ 9223372036854775807)) ∧ l.length ≤ c ∧ l.length ≤ 2932031007402 := by
  obtain ⟨A, c, l, e, hr, hq, hc, hb⟩ := val_list (f := Ety.enc) (Q := fun W x => x.ok W) Try.underlying22 (m := 4) (by kernel_rfl) (by decide) (fun _ => rfl) cel_ety h
  have h48 : Try.prog.bytesOf 42 = 48 := by kernel_rfl
  rw [h48] at hb
  unfold reachBytes at hb
  exact ⟨A, c, l, e, hr, fun x hx => ⟨(hq x hx).1, (hq x hx).2.2, (hq x hx).2.1⟩, hc, by omega⟩
set_option maxRecDepth 100000 in
theorem builds_vals (W : World) (args : Array Value) (hv : Vals Try.prog W [22] args.toList) :
    Calls Try.prog 3 args W fun e W' => e = .returned (.bool true) ∧ Below W.heap.size W W' := by
  obtain ⟨v0, r0, e0, h0, rfl⟩ := hv
  obtain rfl : args = #[v0] := by cases args; simp_all
  obtain ⟨A, c, l, rfl, hr, _, hc, hn⟩ := val_ents h0
  exact Fn.law (builds_fn W A c l hr (by omega) hc)

set_option maxRecDepth 100000 in
theorem builds_lifted (os : Os) (started : os.Started) (H : Type) (enc : TypeId × Value → H) :
    ReturnsInHanded {} Try.checked os 3 .any (Rows.sstBuildsSpec.pre6 enc Try.prog Try.f3 Rows.sstBuildsRow.domain false) (Rows.sstBuildsSpec.post enc Try.prog Try.f3 false true false false) :=
  lift_law (C := Try.checked) #[22] (by kernel_rfl) (by kernel_rfl) started (by kernel_rfl) Try.func3
    (ChangeSpec.witness6 (enc := enc) (C := Try.checked) false ⟨#[], #[.slice none 0 0], []⟩ 8 (by kernel_rfl) (by kernel_rfl) (by kernel_rfl) (by kernel_rfl))
    Try.params3 (by kernel_rfl) rfl rfl Try.underlying4 (fun ds hl => match ds, hl with | [_], _ => rfl) (fun W args hv => builds_vals W args hv)

theorem builds_holds : Rows.SstBuildsSaid :=
  OpenClaim.holds_of_wide 3 Try.f3 rfl rfl rfl rfl rfl rfl rfl ⟨rfl, rfl, rfl, rfl, rfl⟩ rfl rfl rfl rfl rfl (by kernel_rfl) Try.func3 (by kernel_rfl)
    (of_decide_eq_true (by kernel_rfl)) (by unfold Func.isWrapper; rw [if_neg (of_decide_eq_false (by kernel_rfl))]; exact ⟨rfl, rfl⟩)
    (fun os started H enc _ => builds_lifted os started H enc)
end Go.Proofs.Ytnhcfhamcakfkaa
