/-
  Texts joined: DvD, DvU, RfA, RfB, DvN, RfD, WlR, WlS, RfE.
-/
import Derived.Test.YtceanciekadkeaaGreatDoorMWlL4d
import Derived.Test.YtceanciekadkeaaGreatDoorMWlL4f
import Derived.Test.YtceanciekadkeaaGreatDoorMWlL4j
import Derived.Sort.Walk0
import Derived.Lib.AtoiAllCases
import Derived.Lib.ItoaLen
/- drives: what turns them, in one word each -/
namespace Go.Proofs.YtceanciekadkeaaGreatDoor
open Go.RowKit
section
variable {P : Program} {f : FuncId} {args : Array Value} {H Hr : List Chunk} {ι ι' : Type} {res : ι → Value} {φ : ι → Prop}
/-- What only reads leaves all that there is. -/
theorem Fn.keep (h : Fn P f args Hr ι res (fun _ => []) φ) (hx : ∀ D ∈ Hr, D.excl = false) (hh : ∀ w, Sat0 H w → Sat0 Hr w) : Fn P f args H ι res (fun _ => H) φ := fun w hs =>
  (h w (hh w hs)).mono fun e w' ⟨i, h1, h2, h3⟩ => ⟨i, h1, h2, by
    have hn : ∀ k, ¬ Ctx.S ⟨w, Hr⟩ k := fun k ⟨D, hD, he, _⟩ => by rw [hx D hD] at he; cases he
    have hb : ∀ k, k < w.heap.size → w'.heap[k]? = w.heap[k]? := fun k hk => h3.upd.block k hk (hn k)
    exact ⟨⟨h3.upd.os, h3.upd.tape, h3.upd.output, h3.upd.size, fun k hk _ => hb k hk⟩, ⟨fun C hC => C.loc w w' h3.upd.size (fun k hk => hb k (C.lt w k (hs.1 C hC) hk)) (hs.1 C hC), hs.2⟩, fun C hC _ hk _ => ⟨⟨C, hC, hk⟩, fun he => ⟨C, hC, he, hk⟩⟩⟩⟩
end
theorem Sat0.mem {H : List Chunk} {w : World} (h : Sat0 H w) {C : Chunk} (hC : C ∈ H) : C.holds w := h.1 C hC
/-- A drive of one's own, read alone. -/
theorem drv_see {D : DrS} {H : List Chunk} {w : World} (h : Sat0 (D.B :: D.M :: D.F :: H) w) : D.rB.holds w ∧ D.rM.holds w ∧ D.rF.holds w := by
  have hs := Sat.start h
  exact ⟨(hs.mem (C := D.B) (i := 0) rfl : D.B.holds w), mapIn 1 rfl w hs, filIn 2 rfl w hs⟩
theorem sat0_ro3 {A B C : Chunk} {w : World} (hx : A.excl = false) (hy : B.excl = false) (hz : C.excl = false) (h : A.holds w ∧ B.holds w ∧ C.holds w) : Sat0 [A, B, C] w := by
  refine ⟨fun D hD => ?_, ?_⟩
  · simp only [List.mem_cons, List.not_mem_nil, or_false] at hD
    rcases hD with rfl | rfl | rfl
    · exact h.1
    · exact h.2.1
    · exact h.2.2
  · refine List.pairwise_iff_getElem.2 fun i j hi hj _ he => ?_
    have hall : ∀ D ∈ [A, B, C], D.excl = false := fun D hD => by
      simp only [List.mem_cons, List.not_mem_nil, or_false] at hD
      rcases hD with rfl | rfl | rfl <;> assumption
    rw [hall _ (List.getElem_mem hi), hall _ (List.getElem_mem hj)] at he
    rcases he with he | he <;> cases he
section
variable {D : DrS} {P : DrP}
theorem Fn.dkeep {f : FuncId} {args : Array Value} {H : List Chunk} {v : Value} (h : Fn Tryz.prog f args [D.rB, D.rM, D.rF] Unit (fun _ => v) (fun _ => []) (fun _ => True)) {Q : DrP} (hD : Drv D Q) :
    Fn Tryz.prog f args (D.B :: D.M :: D.F :: H) DrS (fun _ => v) (fun D' => [D'.B, D'.M, D'.F]) (fun D' => Drv D' Q ∧ D'.d = D.d ∧ D'.m = D.m) :=
  ((h.keep (H := D.B :: D.M :: D.F :: H) (fun C hC => by
    simp only [List.mem_cons, List.not_mem_nil, or_false] at hC
    rcases hC with rfl | rfl | rfl <;> rfl) (fun w hs => sat0_ro3 rfl rfl rfl (drv_see hs)))).turn fun _ _ => ⟨D, ⟨hD, rfl, rfl⟩, rfl, fun Γ w hs => by
    have : (D.B :: D.M :: D.F :: H) = [D.B, D.M, D.F] ++ H := rfl
    rw [this] at hs
    obtain ⟨h1, h2, h3⟩ := hs
    obtain ⟨s1, _, _⟩ := sat0_append.1 h2
    exact ⟨h1, s1, fun C hC => h3 C (List.mem_append_left _ hC)⟩⟩
theorem append_sl (h : Drv D P) (q : List UInt8) (hq : Good q) (A : Option Addr) (c : Nat) (l : List UInt8) (hl : l.length ≤ 1099511627776) :
    Fn Tryz.prog 34 #[D.ptr, .string (txt q), .slice A l.length c] [D.B, D.M, D.F, rdB A l] DrS (fun _ => .int .i64 (P.append q l).2) (fun D' => [D'.B, D'.M, D'.F]) (fun D' => Drv D' (P.append q l).1 ∧ D'.d = D.d ∧ D'.m = D.m) := by
  have hok := h.ok.append q l
  unfold DrP.append at hok ⊢
  rw [if_neg (fun hn => hn hq)] at hok ⊢
  by_cases hx : (P.find q = none ∧ 256 ≤ P.fs.length) ∨ 262144 < (P.bytes q).length + l.length
  · rw [if_pos hx]
    exact (append_full h q hq A c l hl hx).dkeep h
  · rw [if_neg hx] at hok ⊢
    by_cases hd : P.dead = true
    · rw [if_pos hd]
      exact (append_dead h q hq A c l hx hd).dkeep h
    · have hd : P.dead = false := by simpa using hd
      rw [hd] at hok ⊢
      rw [if_neg (by decide)] at hok ⊢
      have h2 : ¬ 262144 < (P.bytes q).length + l.length := fun e => hx (.inr e)
      cases hf : P.find q with
      | some f0 =>
        obtain ⟨f, hf2, rfl⟩ := h.hit hf
        have hb : P.bytes q = f.b := by unfold DrP.bytes; rw [hf]
        rw [hb] at h2
        rw [hf] at hok
        refine (append_hit h q hq f hf2 A c l (by omega) hd).turn fun p _ => ⟨{ D.stepD with fs := putG FiS.nm ⟨{ f.p with b := f.b ++ l }, f.g, p.1, p.2⟩ D.fs }, ⟨(h.step hd).put hok, rfl, rfl⟩, rfl, fun Γ w hs => hs⟩
      | none =>
        have hb : P.bytes q = [] := by unfold DrP.bytes; rw [hf]
        rw [hb] at h2
        rw [hf] at hok
        have hf2 := h.miss hf
        have hn : D.fs.length < 256 := by
          rw [h.len]
          have : ¬ 256 ≤ P.fs.length := fun e => hx (.inl ⟨hf, e⟩)
          omega
        refine (append_new h q hf2 hq A c l hn (by simpa using h2) hd).turn fun p _ => ⟨{ D.stepD with fs := putG FiS.nm ⟨⟨q, l, 0⟩, p.1, p.2.1, p.2.2⟩ D.fs }, ⟨(h.step hd).put hok, rfl, rfl⟩, rfl, fun Γ w hs => hs⟩
theorem sync_sl (h : Drv D P) (q : List UInt8) (hq : Good q) : Fn Tryz.prog 70 #[D.ptr, .string (txt q)] [D.B, D.M, D.F] DrS (fun _ => .int .i64 (P.sync q).2) (fun D' => [D'.B, D'.M, D'.F]) (fun D' => Drv D' (P.sync q).1 ∧ D'.d = D.d ∧ D'.m = D.m) := by
  have hok := h.ok.sync_ q
  unfold DrP.sync at hok ⊢
  cases hf : P.find q with
  | none =>
    have hf2 := h.miss hf
    dsimp only
    rw [if_pos hq]
    refine Fn.enter Tryz.func70 rfl Tryz.ntmps70 (by rfl) ?_
    intro w0
    refine Cd.seq ?_
    refine Cd.region ?_
    refine Ls.ev (some 4) (Ev.assign (show Oper.op _ = Op.assign (Operand.const (Value.int IntKind.i64 0)) from rfl) (by rfl)) (by rfl) (by rfl) ?_
    refine Ls.nil ?_
    refine Cd.seq ?_
    refine Cd.region ?_
    refine Ls.ev (some 8) (Ev.move (show Oper.op _ = Op.move (Operand.tmp 0) from rfl) (by rfl)) (by rfl) (by rfl) ?_
    refine Ls.ev (some 9) (Ev.move (show Oper.op _ = Op.move (Operand.tmp 1) from rfl) (by rfl)) (by rfl) (by rfl) ?_
    refine Ls.does (some 10) (Does.read (show Oper.op _ = Op.call { callee := Callee.value (Operand.func 56), args := #[Operand.tmp 8, Operand.tmp 9], argTypes := #[23, 9] } from rfl) Tryz.func56 (by kernel_rfl) (by kernel_rfl) (find_miss D q hq hf2) (by rfl) (by rfl) ⟨blkIn 0 (by rfl), mapIn 1 (by rfl), trivial⟩) (by rfl) (by rfl) ?_
    rintro _ -
    refine Ls.ev (some 7) (Ev.move (show Oper.op _ = Op.move (Operand.tmp 10) from rfl) (by rfl)) (by rfl) (by rfl) ?_
    refine Ls.ev (some 11) (Ev.extract (show Oper.op _ = Op.extract (Operand.tmp 7) 0 from rfl) (by rfl) (by rfl)) (by rfl) (by rfl) ?_
    refine Ls.ev (some 12) (Ev.extract (show Oper.op _ = Op.extract (Operand.tmp 7) 1 from rfl) (by rfl) (by rfl)) (by rfl) (by rfl) ?_
    refine Ls.ev (some 5) (Ev.assign (show Oper.op _ = Op.assign (Operand.tmp 11) from rfl) (by rfl)) (by rfl) (by rfl) ?_
    refine Ls.ev (some 6) (Ev.assign (show Oper.op _ = Op.assign (Operand.tmp 12) from rfl) (by rfl)) (by rfl) (by rfl) ?_
    refine Ls.nil ?_
    refine Cd.seq ?_
    refine Cd.seq ?_
    refine Cd.region ?_
    refine Ls.ev (some 13) (Ev.move (show Oper.op _ = Op.move (Operand.tmp 6) from rfl) (by rfl)) (by rfl) (by rfl) ?_
    refine Ls.ev (some 14) (Ev.eql (show Oper.op _ = Op.binOp BinOp.eql 27 (Operand.tmp 13) (Operand.const (Value.int IntKind.i64 0)) 27 from rfl) (by rfl) (by rfl)) (by rfl) (by rfl) ?_
    refine Ls.nil ?_
    refine Cd.cond_false (by rfl) (decide_eq_false (show ¬ ((4 : Int) = 0) by decide)) ?_
    refine Cd.skip ?_
    refine Cd.seq ?_
    refine Cd.seq ?_
    refine Cd.region ?_
    refine Ls.ev (some 17) (Ev.move (show Oper.op _ = Op.move (Operand.tmp 6) from rfl) (by rfl)) (by rfl) (by rfl) ?_
    refine Ls.ev (some 18) (Ev.eql (show Oper.op _ = Op.binOp BinOp.eql 27 (Operand.tmp 17) (Operand.const (Value.int IntKind.i64 0)) 27 from rfl) (by rfl) (by rfl)) (by rfl) (by rfl) ?_
    refine Ls.nil ?_
    refine Cd.cond_false (by rfl) (decide_eq_false (show ¬ ((4 : Int) = 0) by decide)) ?_
    refine Cd.skip ?_
    refine Cd.seq ?_
    refine Cd.region ?_
    refine Ls.ev (some 27) (Ev.move (show Oper.op _ = Op.move (Operand.tmp 6) from rfl) (by rfl)) (by rfl) (by rfl) ?_
    refine Ls.ev (some 4) (Ev.assign (show Oper.op _ = Op.assign (Operand.tmp 27) from rfl) (by rfl)) (by rfl) (by rfl) ?_
    refine Ls.nil ?_
    refine Cd.ret ?_
    refine Ent.ret (D) (⟨h, rfl, rfl⟩) (Res.tmp (by rfl) (by rfl)) ?_ [0, 1, 2] (by rfl) ?_
    · rfl
    · rfl
  | some f0 =>
    obtain ⟨f, hf2, rfl⟩ := h.hit hf
    rw [hf] at hok
    by_cases hd : P.dead = true
    · dsimp only
      rw [if_pos hd]
      refine Fn.enter Tryz.func70 rfl Tryz.ntmps70 (by rfl) ?_
      intro w0
      refine Cd.seq ?_
      refine Cd.region ?_
      refine Ls.ev (some 4) (Ev.assign (show Oper.op _ = Op.assign (Operand.const (Value.int IntKind.i64 0)) from rfl) (by rfl)) (by rfl) (by rfl) ?_
      refine Ls.nil ?_
      refine Cd.seq ?_
      refine Cd.region ?_
      refine Ls.ev (some 8) (Ev.move (show Oper.op _ = Op.move (Operand.tmp 0) from rfl) (by rfl)) (by rfl) (by rfl) ?_
      refine Ls.ev (some 9) (Ev.move (show Oper.op _ = Op.move (Operand.tmp 1) from rfl) (by rfl)) (by rfl) (by rfl) ?_
      refine Ls.does (some 10) (Does.read (show Oper.op _ = Op.call { callee := Callee.value (Operand.func 56), args := #[Operand.tmp 8, Operand.tmp 9], argTypes := #[23, 9] } from rfl) Tryz.func56 (by kernel_rfl) (by kernel_rfl) (find_hit D q hq f hf2) (by rfl) (by rfl) ⟨blkIn 0 (by rfl), mapIn 1 (by rfl), trivial⟩) (by rfl) (by rfl) ?_
      rintro _ -
      refine Ls.ev (some 7) (Ev.move (show Oper.op _ = Op.move (Operand.tmp 10) from rfl) (by rfl)) (by rfl) (by rfl) ?_
      refine Ls.ev (some 11) (Ev.extract (show Oper.op _ = Op.extract (Operand.tmp 7) 0 from rfl) (by rfl) (by rfl)) (by rfl) (by rfl) ?_
      refine Ls.ev (some 12) (Ev.extract (show Oper.op _ = Op.extract (Operand.tmp 7) 1 from rfl) (by rfl) (by rfl)) (by rfl) (by rfl) ?_
      refine Ls.ev (some 5) (Ev.assign (show Oper.op _ = Op.assign (Operand.tmp 11) from rfl) (by rfl)) (by rfl) (by rfl) ?_
      refine Ls.ev (some 6) (Ev.assign (show Oper.op _ = Op.assign (Operand.tmp 12) from rfl) (by rfl)) (by rfl) (by rfl) ?_
      refine Ls.nil ?_
      refine Cd.seq ?_
      refine Cd.seq ?_
      refine Cd.region ?_
      refine Ls.ev (some 13) (Ev.move (show Oper.op _ = Op.move (Operand.tmp 6) from rfl) (by rfl)) (by rfl) (by rfl) ?_
      refine Ls.ev (some 14) (Ev.eql (show Oper.op _ = Op.binOp BinOp.eql 27 (Operand.tmp 13) (Operand.const (Value.int IntKind.i64 0)) 27 from rfl) (by rfl) (by rfl)) (by rfl) (by rfl) ?_
      refine Ls.nil ?_
      refine Cd.cond_true (by rfl) (decide_eq_true rfl) ?_
      refine Cd.region ?_
      refine Ls.ev (some 15) (Ev.move (show Oper.op _ = Op.move (Operand.tmp 0) from rfl) (by rfl)) (by rfl) (by rfl) ?_
      refine Ls.does (some 16) (Does.read (show Oper.op _ = Op.call { callee := Callee.value (Operand.func 62), args := #[Operand.tmp 15], argTypes := #[23] } from rfl) Tryz.func62 (by kernel_rfl) (by kernel_rfl) (step_dead h hd) (by rfl) (by rfl) ⟨blkIn 0 (by rfl), trivial⟩) (by rfl) (by rfl) ?_
      rintro _ -
      refine Ls.ev (some 6) (Ev.assign (show Oper.op _ = Op.assign (Operand.tmp 16) from rfl) (by rfl)) (by rfl) (by rfl) ?_
      refine Ls.nil ?_
      refine Cd.seq ?_
      refine Cd.seq ?_
      refine Cd.region ?_
      refine Ls.ev (some 17) (Ev.move (show Oper.op _ = Op.move (Operand.tmp 6) from rfl) (by rfl)) (by rfl) (by rfl) ?_
      refine Ls.ev (some 18) (Ev.eql (show Oper.op _ = Op.binOp BinOp.eql 27 (Operand.tmp 17) (Operand.const (Value.int IntKind.i64 0)) 27 from rfl) (by rfl) (by rfl)) (by rfl) (by rfl) ?_
      refine Ls.nil ?_
      refine Cd.cond_false (by rfl) (decide_eq_false (show ¬ ((6 : Int) = 0) by decide)) ?_
      refine Cd.skip ?_
      refine Cd.seq ?_
      refine Cd.region ?_
      refine Ls.ev (some 27) (Ev.move (show Oper.op _ = Op.move (Operand.tmp 6) from rfl) (by rfl)) (by rfl) (by rfl) ?_
      refine Ls.ev (some 4) (Ev.assign (show Oper.op _ = Op.assign (Operand.tmp 27) from rfl) (by rfl)) (by rfl) (by rfl) ?_
      refine Ls.nil ?_
      refine Cd.ret ?_
      refine Ent.ret (D) (⟨h, rfl, rfl⟩) (Res.tmp (by rfl) (by rfl)) ?_ [0, 1, 2] (by rfl) ?_
      · rfl
      · rfl
    · have hd : P.dead = false := by simpa using hd
      rw [hd] at hok ⊢
      dsimp only at hok ⊢
      rw [if_neg (by decide)] at hok ⊢
      refine Fn.enter Tryz.func70 rfl Tryz.ntmps70 (by rfl) ?_
      intro w0
      refine Cd.seq ?_
      refine Cd.region ?_
      refine Ls.ev (some 4) (Ev.assign (show Oper.op _ = Op.assign (Operand.const (Value.int IntKind.i64 0)) from rfl) (by rfl)) (by rfl) (by rfl) ?_
      refine Ls.nil ?_
      refine Cd.seq ?_
      refine Cd.region ?_
      refine Ls.ev (some 8) (Ev.move (show Oper.op _ = Op.move (Operand.tmp 0) from rfl) (by rfl)) (by rfl) (by rfl) ?_
      refine Ls.ev (some 9) (Ev.move (show Oper.op _ = Op.move (Operand.tmp 1) from rfl) (by rfl)) (by rfl) (by rfl) ?_
      refine Ls.does (some 10) (Does.read (show Oper.op _ = Op.call { callee := Callee.value (Operand.func 56), args := #[Operand.tmp 8, Operand.tmp 9], argTypes := #[23, 9] } from rfl) Tryz.func56 (by kernel_rfl) (by kernel_rfl) (find_hit D q hq f hf2) (by rfl) (by rfl) ⟨blkIn 0 (by rfl), mapIn 1 (by rfl), trivial⟩) (by rfl) (by rfl) ?_
      rintro _ -
      refine Ls.ev (some 7) (Ev.move (show Oper.op _ = Op.move (Operand.tmp 10) from rfl) (by rfl)) (by rfl) (by rfl) ?_
      refine Ls.ev (some 11) (Ev.extract (show Oper.op _ = Op.extract (Operand.tmp 7) 0 from rfl) (by rfl) (by rfl)) (by rfl) (by rfl) ?_
      refine Ls.ev (some 12) (Ev.extract (show Oper.op _ = Op.extract (Operand.tmp 7) 1 from rfl) (by rfl) (by rfl)) (by rfl) (by rfl) ?_
      refine Ls.ev (some 5) (Ev.assign (show Oper.op _ = Op.assign (Operand.tmp 11) from rfl) (by rfl)) (by rfl) (by rfl) ?_
      refine Ls.ev (some 6) (Ev.assign (show Oper.op _ = Op.assign (Operand.tmp 12) from rfl) (by rfl)) (by rfl) (by rfl) ?_
      refine Ls.nil ?_
      refine Cd.seq ?_
      refine Cd.seq ?_
      refine Cd.region ?_
      refine Ls.ev (some 13) (Ev.move (show Oper.op _ = Op.move (Operand.tmp 6) from rfl) (by rfl)) (by rfl) (by rfl) ?_
      refine Ls.ev (some 14) (Ev.eql (show Oper.op _ = Op.binOp BinOp.eql 27 (Operand.tmp 13) (Operand.const (Value.int IntKind.i64 0)) 27 from rfl) (by rfl) (by rfl)) (by rfl) (by rfl) ?_
      refine Ls.nil ?_
      refine Cd.cond_true (by rfl) (decide_eq_true rfl) ?_
      refine Cd.region ?_
      refine Ls.ev (some 15) (Ev.move (show Oper.op _ = Op.move (Operand.tmp 0) from rfl) (by rfl)) (by rfl) (by rfl) ?_
      refine Ls.does (some 16) (Does.call [0, 1, 2] (show Oper.op _ = Op.call { callee := Callee.value (Operand.func 62), args := #[Operand.tmp 15], argTypes := #[23] } from rfl) Tryz.func62 (by kernel_rfl) (by kernel_rfl) (step_ok h hd) (by rfl) (by rfl) (by rfl)) (by rfl) (by rfl) ?_
      rintro _ -
      refine Ls.ev (some 6) (Ev.assign (show Oper.op _ = Op.assign (Operand.tmp 16) from rfl) (by rfl)) (by rfl) (by rfl) ?_
      refine Ls.nil ?_
      refine Cd.seq ?_
      refine Cd.seq ?_
      refine Cd.region ?_
      refine Ls.ev (some 17) (Ev.move (show Oper.op _ = Op.move (Operand.tmp 6) from rfl) (by rfl)) (by rfl) (by rfl) ?_
      refine Ls.ev (some 18) (Ev.eql (show Oper.op _ = Op.binOp BinOp.eql 27 (Operand.tmp 17) (Operand.const (Value.int IntKind.i64 0)) 27 from rfl) (by rfl) (by rfl)) (by rfl) (by rfl) ?_
      refine Ls.nil ?_
      refine Cd.cond_true (by rfl) (decide_eq_true rfl) ?_
      skip
      refine Ent.pick [2, 0, 1] (by rfl) ?_
      obtain ⟨a, b, hD, hP⟩ := put_split h.rise hf2
      have hqn := (findG_some hf2).2
      refine Ent.map (fun w hs => fil_open (by rw [← hD]; exact hs)) ?_
      refine Cd.region ?_
      refine Ls.ev (some 19) (Ev.move (show Oper.op _ = Op.move (Operand.tmp 5) from rfl) (by rfl)) (by rfl) (by rfl) ?_
      refine Ls.ev (some 20) (Ev.move (show Oper.op _ = Op.move (Operand.tmp 5) from rfl) (by rfl)) (by rfl) (by rfl) ?_
      refine Ls.ev (some 21) (Ev.nilCheck (show Oper.op _ = Op.nilCheck (Operand.tmp 20) from rfl) (by rfl)) (by rfl) (by rfl) ?_
      refine Ls.ev (some 22) (Ev.fieldAddr (k := 0) (show Oper.op _ = Op.fieldAddr 84 (Operand.tmp 21) 0 from rfl) (by rfl) (by kernel_rfl) (by rfl)) (by rfl) (by rfl) ?_
      refine Ls.ev (some 23) (Ev.load 0 (show Oper.op _ = Op.load 30 (Operand.tmp 22) from rfl) (by rfl) (by rfl) (by kernel_rfl) (by rfl)) (by rfl) (by rfl) ?_
      refine Ls.ev (some 24) (Ev.len (show Oper.op _ = Op.call { callee := Callee.builtin Builtin.len, args := #[Operand.tmp 23], argTypes := #[30] } from rfl) (by rfl) Tryz.underlying30) (by rfl) (by rfl) ?_
      refine Ls.ev (some 25) (Ev.nilCheck (show Oper.op _ = Op.nilCheck (Operand.tmp 19) from rfl) (by rfl)) (by rfl) (by rfl) ?_
      refine Ls.ev (some 26) (Ev.fieldAddr (k := 1) (show Oper.op _ = Op.fieldAddr 84 (Operand.tmp 25) 1 from rfl) (by rfl) (by kernel_rfl) (by rfl)) (by rfl) (by rfl) ?_
      refine Ls.does none (Does.store 0 (show Oper.op _ = Op.store 3 (Operand.tmp 26) (Operand.tmp 24) from rfl) (by rfl) (by rfl) (by rfl) (by kernel_rfl) (by rfl) (by kernel_rfl) (by rfl)) (by rfl) (by rfl) ?_
      intro _ _
      refine Ls.nil ?_
      refine Cd.seq ?_
      refine Cd.region ?_
      refine Ls.ev (some 27) (Ev.move (show Oper.op _ = Op.move (Operand.tmp 6) from rfl) (by rfl)) (by rfl) (by rfl) ?_
      refine Ls.ev (some 4) (Ev.assign (show Oper.op _ = Op.assign (Operand.tmp 27) from rfl) (by rfl)) (by rfl) (by rfl) ?_
      refine Ls.nil ?_
      refine Ent.map (fun w hs => fil_shut (a := a) (b := b) (f := ⟨{ f.p with sy := f.b.length }, f.g, f.A, f.c⟩) hs) ?_
      refine Cd.ret ?_
      refine Ent.ret ({ D.stepD with fs := putG FiS.nm ⟨{ f.p with sy := f.b.length }, f.g, f.A, f.c⟩ D.fs }) (⟨(h.step hd).put hok, rfl, rfl⟩) (Res.tmp (by rfl) (by rfl)) ?_ [1, 2, 0] (by rfl) ?_
      · rfl
      · obtain ⟨h1, h2⟩ := ptrF_same (f := f) (f' := ⟨{ f.p with sy := f.b.length }, f.g, f.A, f.c⟩) h.rise (by rw [hqn]; exact hf2) rfl rfl
        have hput := hP ⟨{ f.p with sy := f.b.length }, f.g, f.A, f.c⟩ hqn
        show [_, mapt _ _ _ _ _ _, _] = [_, mapt _ _ _ _ _ _, _]
        dsimp only
        rw [h1, h2, hput]
        rfl
end
end Go.Proofs.YtceanciekadkeaaGreatDoor
/- bytes out of a slice; a slice's front -/
namespace Go.Proofs.YtceanciekadkeaaGreatDoor
open Go.RowKit
end Go.Proofs.YtceanciekadkeaaGreatDoor
/- the document's drives over pieces: what is asked of them -/
namespace Go.Proofs.YtceanciekadkeaaGreatDoor
open Go.RowKit
def FiP.enc (f : FiP) : List Value := [.string (txt f.nm), .string (txt f.b), .int .i64 f.sy]
abbrev rdF (A : Option Addr) (fs : List FiP) : Chunk := rd A fs.length 3 (fs.flatMap FiP.enc)
/-- The document's drive, as a value. -/
def DrP.val (P : DrP) (A : Option Addr) (c : Nat) : List Value := [.slice A P.fs.length c, .int .i64 P.steps, .bool P.left.isSome, .int .i64 ((P.left.getD 0 : Nat) : Int)]
theorem dname_sl (q : List UInt8) (hql : q.length ≤ 1048576) : Fn Tryz.prog 38 #[.string (txt q)] [] Unit (fun _ => .bool (decide (Good q))) (fun _ => []) (fun _ => True) := by
  have hs : (txt q).size = q.length := rfl
  refine Fn.enter Tryz.func38 rfl Tryz.ntmps38 (by rfl) ?_
  intro w0
  skip
  refine Cd.seq ?_
  refine Cd.region ?_
  refine Ls.ev (some 2) (Ev.assign (show Oper.op _ = Op.assign (Operand.const (Value.bool false)) from rfl) (by rfl)) (by rfl) (by rfl) ?_
  refine Ls.nil ?_
  refine Cd.seq ?_
  refine Cd.seq ?_
  refine Cd.region ?_
  refine Ls.ev (some 3) (Ev.assign (show Oper.op _ = Op.assign (Operand.const (Value.int IntKind.i64 0)) from rfl) (by rfl)) (by rfl) (by rfl) ?_
  refine Ls.nil ?_
  refine Cd.block ?_
  refine Cd.loop (ι := Nat) (fun k => [(0, .string (txt q)), (3, .int .i64 k)]) (fun _ => []) (fun k => k ≤ q.length ∧ ∀ x ∈ q.take k, okB x) (fun k => q.length - k) (0) (⟨Nat.zero_le _, fun _ h => by simp at h⟩) ?_ rfl ?_
  · (repeat (first | exact trivial | refine ⟨by rfl, ?_⟩))
  rintro k ⟨hk, hall⟩
  refine Cd.seq ?_
  refine Cd.seq ?_
  refine Cd.region ?_
  refine Ls.ev (some 5) (Ev.move (show Oper.op _ = Op.move (Operand.tmp 3) from rfl) (by rfl)) (by rfl) (by rfl) ?_
  refine Ls.ev (some 6) (Ev.move (show Oper.op _ = Op.move (Operand.tmp 0) from rfl) (by rfl)) (by rfl) (by rfl) ?_
  refine Ls.ev (some 7) (Ev.lenS (show Oper.op _ = Op.call { callee := Callee.builtin Builtin.len, args := #[Operand.tmp 6], argTypes := #[9] } from rfl) (by rfl) Tryz.underlying9) (by rfl) (by rfl) ?_
  refine Ls.ev (some 8) (Ev.lss (show Oper.op _ = Op.binOp BinOp.lss 3 (Operand.tmp 5) (Operand.tmp 7) 3 from rfl) (by rfl) (by rfl)) (by rfl) (by rfl) ?_
  refine Ls.nil ?_
  refine Cd.cond _ (by rfl) (fun h => ?_) (fun h => ?_)
  · skip
    have hlt : k < q.length := by have := of_decide_eq_true h; omega
    obtain ⟨x, hx⟩ := get_of_lt hlt
    refine Cd.skip ?_
    refine Cd.seq ?_
    refine Cd.block ?_
    refine Cd.seq ?_
    refine Cd.region ?_
    refine Ls.ev (some 11) (Ev.move (show Oper.op _ = Op.move (Operand.tmp 0) from rfl) (by rfl)) (by rfl) (by rfl) ?_
    refine Ls.ev (some 12) (Ev.move (show Oper.op _ = Op.move (Operand.tmp 3) from rfl) (by rfl)) (by rfl) (by rfl) ?_
    refine Ls.ev (some 13) (Ev.indexT (show Oper.op _ = Op.index 9 (Operand.tmp 11) (Operand.tmp 12) from rfl) (by rfl) (by rfl) Tryz.underlying9 (by assumption)) (by rfl) (by rfl) ?_
    refine Ls.ev (some 4) (Ev.assign (show Oper.op _ = Op.assign (Operand.tmp 13) from rfl) (by rfl)) (by rfl) (by rfl) ?_
    refine Ls.nil ?_
    refine Cd.seq ?_
    by_cases hok : okB x
    · skip
      have hok2 := hok
      unfold okB at hok2
      refine Cd.cut (ι := Unit) (fun _ => [(0, .string (txt q)), (3, .int .i64 k), (36, .bool false)]) (fun _ => []) (fun _ => True) ?_ ?_
      · skip
        refine Cd.region ?_
        refine Ls.ev (some 14) (Ev.move (show Oper.op _ = Op.move (Operand.tmp 4) from rfl) (by rfl)) (by rfl) (by rfl) ?_
        refine Ls.ev (some 15) (Ev.geq (show Oper.op _ = Op.binOp BinOp.geq 5 (Operand.tmp 14) (Operand.const (Value.int IntKind.u8 97)) 5 from rfl) (by rfl) (by rfl)) (by rfl) (by rfl) ?_
        refine Ls.ev (some 16) (Ev.move (show Oper.op _ = Op.move (Operand.tmp 15) from rfl) (by rfl)) (by rfl) (by rfl) ?_
        refine Ent.split 16 (by rfl) (fun hT1 => ?_) (fun hT1 => ?_)
        · first | have hT1 := of_decide_eq_false hT1 | have hT1 := of_not_decide_false hT1 | skip
          refine Ls.pass (some 17) (by rfl) (by rfl) ?_
          refine Ls.pass (some 18) (by rfl) (by rfl) ?_
          refine Ls.ev (some 19) (Ev.pickF (show Oper.op _ = Op.pick (Operand.tmp 16) (Operand.tmp 18) (Operand.const (Value.bool false)) from rfl) (by rfl) (by rfl)) (by rfl) (by rfl) ?_
          refine Ls.ev (some 20) (Ev.move (show Oper.op _ = Op.move (Operand.tmp 19) from rfl) (by rfl)) (by rfl) (by rfl) ?_
          refine Ls.ev (some 21) (Ev.move (show Oper.op _ = Op.move (Operand.tmp 4) from rfl) (by rfl)) (by rfl) (by rfl) ?_
          refine Ls.ev (some 22) (Ev.geq (show Oper.op _ = Op.binOp BinOp.geq 5 (Operand.tmp 21) (Operand.const (Value.int IntKind.u8 48)) 5 from rfl) (by rfl) (by rfl)) (by rfl) (by rfl) ?_
          refine Ls.ev (some 23) (Ev.move (show Oper.op _ = Op.move (Operand.tmp 22) from rfl) (by rfl)) (by rfl) (by rfl) ?_
          refine Ent.split 23 (by rfl) (fun hT2 => ?_) (fun hT2 => ?_)
          · first | have hT2 := of_decide_eq_false hT2 | have hT2 := of_not_decide_false hT2 | skip
            refine Ls.pass (some 24) (by rfl) (by rfl) ?_
            refine Ls.pass (some 25) (by rfl) (by rfl) ?_
            refine Ls.ev (some 26) (Ev.pickF (show Oper.op _ = Op.pick (Operand.tmp 23) (Operand.tmp 25) (Operand.const (Value.bool false)) from rfl) (by rfl) (by rfl)) (by rfl) (by rfl) ?_
            refine Ls.ev (some 27) (Ev.pickF (show Oper.op _ = Op.pick (Operand.tmp 20) (Operand.const (Value.bool true)) (Operand.tmp 26) from rfl) (by rfl) (by rfl)) (by rfl) (by rfl) ?_
            refine Ls.ev (some 28) (Ev.move (show Oper.op _ = Op.move (Operand.tmp 27) from rfl) (by rfl)) (by rfl) (by rfl) ?_
            refine Ls.ev (some 29) (Ev.move (show Oper.op _ = Op.move (Operand.tmp 4) from rfl) (by rfl)) (by rfl) (by rfl) ?_
            refine Ls.ev (some 30) (Ev.eql (show Oper.op _ = Op.binOp BinOp.eql 5 (Operand.tmp 29) (Operand.const (Value.int IntKind.u8 45)) 5 from rfl) (by rfl) (by rfl)) (by rfl) (by rfl) ?_
            refine Ls.ev (some 31) (Ev.pickF (show Oper.op _ = Op.pick (Operand.tmp 28) (Operand.const (Value.bool true)) (Operand.tmp 30) from rfl) (by rfl) (by rfl)) (by rfl) (by rfl) ?_
            refine Ls.ev (some 32) (Ev.move (show Oper.op _ = Op.move (Operand.tmp 31) from rfl) (by rfl)) (by rfl) (by rfl) ?_
            refine Ent.split 32 (by rfl) (fun hT3 => ?_) (fun hT3 => ?_)
            · first | have hT3 := of_decide_eq_false hT3 | have hT3 := of_not_decide_false hT3 | skip
              refine Ls.ev (some 33) (Ev.move (show Oper.op _ = Op.move (Operand.tmp 4) from rfl) (by rfl)) (by rfl) (by rfl) ?_
              refine Ls.ev (some 34) (Ev.eql (show Oper.op _ = Op.binOp BinOp.eql 5 (Operand.tmp 33) (Operand.const (Value.int IntKind.u8 46)) 5 from rfl) (by rfl) (by rfl)) (by rfl) (by rfl) ?_
              refine Ls.ev (some 35) (Ev.pickF (show Oper.op _ = Op.pick (Operand.tmp 32) (Operand.const (Value.bool true)) (Operand.tmp 34) from rfl) (by rfl) (by rfl)) (by rfl) (by rfl) ?_
              refine Ls.ev (some 36) (Ev.not (show Oper.op _ = Op.unOp UnOp.not 4 (Operand.tmp 35) from rfl) (by rfl)) (by rfl) (by rfl) ?_
              refine Ls.nil ?_
              refine Ent.inv () ?_ ?_ ?_
              · exact trivial
              · (repeat (first | exact trivial | refine ⟨by rfl, ?_⟩ | refine ⟨by simp only [List.length_append, List.length_cons, List.length_nil]; rfl, ?_⟩ | refine ⟨by push_cast; rfl, ?_⟩ | refine ⟨by (show some (Value.bool _) = some (Value.bool _); congr 2; all_goals ((first | rfl | (exact (decide_eq_false (by omega)).symm) | (exact (decide_eq_true (by omega)).symm) | (exact (decide_eq_false (by omega))) | (rw [decide_eq_true (by omega)]; rfl) | (rw [decide_eq_false (by omega)]; rfl) | omega))), ?_⟩))
              · rfl
            · first | have hT3 := of_decide_eq_true hT3 | have hT3 := of_not_decide_true hT3 | skip
              refine Ls.pass (some 33) (by rfl) (by rfl) ?_
              refine Ls.pass (some 34) (by rfl) (by rfl) ?_
              refine Ls.ev (some 35) (Ev.pickT (show Oper.op _ = Op.pick (Operand.tmp 32) (Operand.const (Value.bool true)) (Operand.tmp 34) from rfl) (by rfl) (by rfl)) (by rfl) (by rfl) ?_
              refine Ls.ev (some 36) (Ev.not (show Oper.op _ = Op.unOp UnOp.not 4 (Operand.tmp 35) from rfl) (by rfl)) (by rfl) (by rfl) ?_
              refine Ls.nil ?_
              refine Ent.inv () ?_ ?_ ?_
              · exact trivial
              · (repeat (first | exact trivial | refine ⟨by rfl, ?_⟩ | refine ⟨by simp only [List.length_append, List.length_cons, List.length_nil]; rfl, ?_⟩ | refine ⟨by push_cast; rfl, ?_⟩ | refine ⟨by (show some (Value.bool _) = some (Value.bool _); congr 2; all_goals ((first | rfl | (exact (decide_eq_false (by omega)).symm) | (exact (decide_eq_true (by omega)).symm) | (exact (decide_eq_false (by omega))) | (rw [decide_eq_true (by omega)]; rfl) | (rw [decide_eq_false (by omega)]; rfl) | omega))), ?_⟩))
              · rfl
          · first | have hT2 := of_decide_eq_true hT2 | have hT2 := of_not_decide_true hT2 | skip
            refine Ls.ev (some 24) (Ev.move (show Oper.op _ = Op.move (Operand.tmp 4) from rfl) (by rfl)) (by rfl) (by rfl) ?_
            refine Ls.ev (some 25) (Ev.leq (show Oper.op _ = Op.binOp BinOp.leq 5 (Operand.tmp 24) (Operand.const (Value.int IntKind.u8 57)) 5 from rfl) (by rfl) (by rfl)) (by rfl) (by rfl) ?_
            refine Ls.ev (some 26) (Ev.pickT (show Oper.op _ = Op.pick (Operand.tmp 23) (Operand.tmp 25) (Operand.const (Value.bool false)) from rfl) (by rfl) (by rfl)) (by rfl) (by rfl) ?_
            refine Ls.ev (some 27) (Ev.pickF (show Oper.op _ = Op.pick (Operand.tmp 20) (Operand.const (Value.bool true)) (Operand.tmp 26) from rfl) (by rfl) (by rfl)) (by rfl) (by rfl) ?_
            refine Ls.ev (some 28) (Ev.move (show Oper.op _ = Op.move (Operand.tmp 27) from rfl) (by rfl)) (by rfl) (by rfl) ?_
            refine Ent.split 28 (by rfl) (fun hT3 => ?_) (fun hT3 => ?_)
            · first | have hT3 := of_decide_eq_false hT3 | have hT3 := of_not_decide_false hT3 | skip
              refine Ls.ev (some 29) (Ev.move (show Oper.op _ = Op.move (Operand.tmp 4) from rfl) (by rfl)) (by rfl) (by rfl) ?_
              refine Ls.ev (some 30) (Ev.eql (show Oper.op _ = Op.binOp BinOp.eql 5 (Operand.tmp 29) (Operand.const (Value.int IntKind.u8 45)) 5 from rfl) (by rfl) (by rfl)) (by rfl) (by rfl) ?_
              refine Ls.ev (some 31) (Ev.pickF (show Oper.op _ = Op.pick (Operand.tmp 28) (Operand.const (Value.bool true)) (Operand.tmp 30) from rfl) (by rfl) (by rfl)) (by rfl) (by rfl) ?_
              refine Ls.ev (some 32) (Ev.move (show Oper.op _ = Op.move (Operand.tmp 31) from rfl) (by rfl)) (by rfl) (by rfl) ?_
              refine Ent.split 32 (by rfl) (fun hT4 => ?_) (fun hT4 => ?_)
              · first | have hT4 := of_decide_eq_false hT4 | have hT4 := of_not_decide_false hT4 | skip
                refine Ls.ev (some 33) (Ev.move (show Oper.op _ = Op.move (Operand.tmp 4) from rfl) (by rfl)) (by rfl) (by rfl) ?_
                refine Ls.ev (some 34) (Ev.eql (show Oper.op _ = Op.binOp BinOp.eql 5 (Operand.tmp 33) (Operand.const (Value.int IntKind.u8 46)) 5 from rfl) (by rfl) (by rfl)) (by rfl) (by rfl) ?_
                refine Ls.ev (some 35) (Ev.pickF (show Oper.op _ = Op.pick (Operand.tmp 32) (Operand.const (Value.bool true)) (Operand.tmp 34) from rfl) (by rfl) (by rfl)) (by rfl) (by rfl) ?_
                refine Ls.ev (some 36) (Ev.not (show Oper.op _ = Op.unOp UnOp.not 4 (Operand.tmp 35) from rfl) (by rfl)) (by rfl) (by rfl) ?_
                refine Ls.nil ?_
                refine Ent.inv () ?_ ?_ ?_
                · exact trivial
                · (repeat (first | exact trivial | refine ⟨by rfl, ?_⟩ | refine ⟨by simp only [List.length_append, List.length_cons, List.length_nil]; rfl, ?_⟩ | refine ⟨by push_cast; rfl, ?_⟩ | refine ⟨by (show some (Value.bool _) = some (Value.bool _); congr 2; all_goals ((first | rfl | (exact (decide_eq_false (by omega)).symm) | (exact (decide_eq_true (by omega)).symm) | (exact (decide_eq_false (by omega))) | (rw [decide_eq_true (by omega)]; rfl) | (rw [decide_eq_false (by omega)]; rfl) | omega))), ?_⟩))
                · rfl
              · first | have hT4 := of_decide_eq_true hT4 | have hT4 := of_not_decide_true hT4 | skip
                refine Ls.pass (some 33) (by rfl) (by rfl) ?_
                refine Ls.pass (some 34) (by rfl) (by rfl) ?_
                refine Ls.ev (some 35) (Ev.pickT (show Oper.op _ = Op.pick (Operand.tmp 32) (Operand.const (Value.bool true)) (Operand.tmp 34) from rfl) (by rfl) (by rfl)) (by rfl) (by rfl) ?_
                refine Ls.ev (some 36) (Ev.not (show Oper.op _ = Op.unOp UnOp.not 4 (Operand.tmp 35) from rfl) (by rfl)) (by rfl) (by rfl) ?_
                refine Ls.nil ?_
                refine Ent.inv () ?_ ?_ ?_
                · exact trivial
                · (repeat (first | exact trivial | refine ⟨by rfl, ?_⟩ | refine ⟨by simp only [List.length_append, List.length_cons, List.length_nil]; rfl, ?_⟩ | refine ⟨by push_cast; rfl, ?_⟩ | refine ⟨by (show some (Value.bool _) = some (Value.bool _); congr 2; all_goals ((first | rfl | (exact (decide_eq_false (by omega)).symm) | (exact (decide_eq_true (by omega)).symm) | (exact (decide_eq_false (by omega))) | (rw [decide_eq_true (by omega)]; rfl) | (rw [decide_eq_false (by omega)]; rfl) | omega))), ?_⟩))
                · rfl
            · first | have hT3 := of_decide_eq_true hT3 | have hT3 := of_not_decide_true hT3 | skip
              refine Ls.pass (some 29) (by rfl) (by rfl) ?_
              refine Ls.pass (some 30) (by rfl) (by rfl) ?_
              refine Ls.ev (some 31) (Ev.pickT (show Oper.op _ = Op.pick (Operand.tmp 28) (Operand.const (Value.bool true)) (Operand.tmp 30) from rfl) (by rfl) (by rfl)) (by rfl) (by rfl) ?_
              refine Ls.ev (some 32) (Ev.move (show Oper.op _ = Op.move (Operand.tmp 31) from rfl) (by rfl)) (by rfl) (by rfl) ?_
              refine Ls.pass (some 33) (by rfl) (by rfl) ?_
              refine Ls.pass (some 34) (by rfl) (by rfl) ?_
              refine Ls.ev (some 35) (Ev.pickT (show Oper.op _ = Op.pick (Operand.tmp 32) (Operand.const (Value.bool true)) (Operand.tmp 34) from rfl) (by rfl) (by rfl)) (by rfl) (by rfl) ?_
              refine Ls.ev (some 36) (Ev.not (show Oper.op _ = Op.unOp UnOp.not 4 (Operand.tmp 35) from rfl) (by rfl)) (by rfl) (by rfl) ?_
              refine Ls.nil ?_
              refine Ent.inv () ?_ ?_ ?_
              · exact trivial
              · (repeat (first | exact trivial | refine ⟨by rfl, ?_⟩ | refine ⟨by simp only [List.length_append, List.length_cons, List.length_nil]; rfl, ?_⟩ | refine ⟨by push_cast; rfl, ?_⟩ | refine ⟨by (show some (Value.bool _) = some (Value.bool _); congr 2; all_goals ((first | rfl | (exact (decide_eq_false (by omega)).symm) | (exact (decide_eq_true (by omega)).symm) | (exact (decide_eq_false (by omega))) | (rw [decide_eq_true (by omega)]; rfl) | (rw [decide_eq_false (by omega)]; rfl) | omega))), ?_⟩))
              · rfl
        · first | have hT1 := of_decide_eq_true hT1 | have hT1 := of_not_decide_true hT1 | skip
          refine Ls.ev (some 17) (Ev.move (show Oper.op _ = Op.move (Operand.tmp 4) from rfl) (by rfl)) (by rfl) (by rfl) ?_
          refine Ls.ev (some 18) (Ev.leq (show Oper.op _ = Op.binOp BinOp.leq 5 (Operand.tmp 17) (Operand.const (Value.int IntKind.u8 122)) 5 from rfl) (by rfl) (by rfl)) (by rfl) (by rfl) ?_
          refine Ls.ev (some 19) (Ev.pickT (show Oper.op _ = Op.pick (Operand.tmp 16) (Operand.tmp 18) (Operand.const (Value.bool false)) from rfl) (by rfl) (by rfl)) (by rfl) (by rfl) ?_
          refine Ls.ev (some 20) (Ev.move (show Oper.op _ = Op.move (Operand.tmp 19) from rfl) (by rfl)) (by rfl) (by rfl) ?_
          refine Ent.split 20 (by rfl) (fun hT2 => ?_) (fun hT2 => ?_)
          · first | have hT2 := of_decide_eq_false hT2 | have hT2 := of_not_decide_false hT2 | skip
            refine Ls.ev (some 21) (Ev.move (show Oper.op _ = Op.move (Operand.tmp 4) from rfl) (by rfl)) (by rfl) (by rfl) ?_
            refine Ls.ev (some 22) (Ev.geq (show Oper.op _ = Op.binOp BinOp.geq 5 (Operand.tmp 21) (Operand.const (Value.int IntKind.u8 48)) 5 from rfl) (by rfl) (by rfl)) (by rfl) (by rfl) ?_
            refine Ls.ev (some 23) (Ev.move (show Oper.op _ = Op.move (Operand.tmp 22) from rfl) (by rfl)) (by rfl) (by rfl) ?_
            refine Ent.split 23 (by rfl) (fun hT3 => ?_) (fun hT3 => ?_)
            · first | have hT3 := of_decide_eq_false hT3 | have hT3 := of_not_decide_false hT3 | skip
              refine Ls.pass (some 24) (by rfl) (by rfl) ?_
              refine Ls.pass (some 25) (by rfl) (by rfl) ?_
              refine Ls.ev (some 26) (Ev.pickF (show Oper.op _ = Op.pick (Operand.tmp 23) (Operand.tmp 25) (Operand.const (Value.bool false)) from rfl) (by rfl) (by rfl)) (by rfl) (by rfl) ?_
              refine Ls.ev (some 27) (Ev.pickF (show Oper.op _ = Op.pick (Operand.tmp 20) (Operand.const (Value.bool true)) (Operand.tmp 26) from rfl) (by rfl) (by rfl)) (by rfl) (by rfl) ?_
              refine Ls.ev (some 28) (Ev.move (show Oper.op _ = Op.move (Operand.tmp 27) from rfl) (by rfl)) (by rfl) (by rfl) ?_
              refine Ls.ev (some 29) (Ev.move (show Oper.op _ = Op.move (Operand.tmp 4) from rfl) (by rfl)) (by rfl) (by rfl) ?_
              refine Ls.ev (some 30) (Ev.eql (show Oper.op _ = Op.binOp BinOp.eql 5 (Operand.tmp 29) (Operand.const (Value.int IntKind.u8 45)) 5 from rfl) (by rfl) (by rfl)) (by rfl) (by rfl) ?_
              refine Ls.ev (some 31) (Ev.pickF (show Oper.op _ = Op.pick (Operand.tmp 28) (Operand.const (Value.bool true)) (Operand.tmp 30) from rfl) (by rfl) (by rfl)) (by rfl) (by rfl) ?_
              refine Ls.ev (some 32) (Ev.move (show Oper.op _ = Op.move (Operand.tmp 31) from rfl) (by rfl)) (by rfl) (by rfl) ?_
              refine Ent.split 32 (by rfl) (fun hT4 => ?_) (fun hT4 => ?_)
              · first | have hT4 := of_decide_eq_false hT4 | have hT4 := of_not_decide_false hT4 | skip
                refine Ls.ev (some 33) (Ev.move (show Oper.op _ = Op.move (Operand.tmp 4) from rfl) (by rfl)) (by rfl) (by rfl) ?_
                refine Ls.ev (some 34) (Ev.eql (show Oper.op _ = Op.binOp BinOp.eql 5 (Operand.tmp 33) (Operand.const (Value.int IntKind.u8 46)) 5 from rfl) (by rfl) (by rfl)) (by rfl) (by rfl) ?_
                refine Ls.ev (some 35) (Ev.pickF (show Oper.op _ = Op.pick (Operand.tmp 32) (Operand.const (Value.bool true)) (Operand.tmp 34) from rfl) (by rfl) (by rfl)) (by rfl) (by rfl) ?_
                refine Ls.ev (some 36) (Ev.not (show Oper.op _ = Op.unOp UnOp.not 4 (Operand.tmp 35) from rfl) (by rfl)) (by rfl) (by rfl) ?_
                refine Ls.nil ?_
                refine Ent.inv () ?_ ?_ ?_
                · exact trivial
                · (repeat (first | exact trivial | refine ⟨by rfl, ?_⟩ | refine ⟨by simp only [List.length_append, List.length_cons, List.length_nil]; rfl, ?_⟩ | refine ⟨by push_cast; rfl, ?_⟩ | refine ⟨by (show some (Value.bool _) = some (Value.bool _); congr 2; all_goals ((first | rfl | (exact (decide_eq_false (by omega)).symm) | (exact (decide_eq_true (by omega)).symm) | (exact (decide_eq_false (by omega))) | (rw [decide_eq_true (by omega)]; rfl) | (rw [decide_eq_false (by omega)]; rfl) | omega))), ?_⟩))
                · rfl
              · first | have hT4 := of_decide_eq_true hT4 | have hT4 := of_not_decide_true hT4 | skip
                refine Ls.pass (some 33) (by rfl) (by rfl) ?_
                refine Ls.pass (some 34) (by rfl) (by rfl) ?_
                refine Ls.ev (some 35) (Ev.pickT (show Oper.op _ = Op.pick (Operand.tmp 32) (Operand.const (Value.bool true)) (Operand.tmp 34) from rfl) (by rfl) (by rfl)) (by rfl) (by rfl) ?_
                refine Ls.ev (some 36) (Ev.not (show Oper.op _ = Op.unOp UnOp.not 4 (Operand.tmp 35) from rfl) (by rfl)) (by rfl) (by rfl) ?_
                refine Ls.nil ?_
                refine Ent.inv () ?_ ?_ ?_
                · exact trivial
                · (repeat (first | exact trivial | refine ⟨by rfl, ?_⟩ | refine ⟨by simp only [List.length_append, List.length_cons, List.length_nil]; rfl, ?_⟩ | refine ⟨by push_cast; rfl, ?_⟩ | refine ⟨by (show some (Value.bool _) = some (Value.bool _); congr 2; all_goals ((first | rfl | (exact (decide_eq_false (by omega)).symm) | (exact (decide_eq_true (by omega)).symm) | (exact (decide_eq_false (by omega))) | (rw [decide_eq_true (by omega)]; rfl) | (rw [decide_eq_false (by omega)]; rfl) | omega))), ?_⟩))
                · rfl
            · first | have hT3 := of_decide_eq_true hT3 | have hT3 := of_not_decide_true hT3 | skip
              refine Ls.ev (some 24) (Ev.move (show Oper.op _ = Op.move (Operand.tmp 4) from rfl) (by rfl)) (by rfl) (by rfl) ?_
              refine Ls.ev (some 25) (Ev.leq (show Oper.op _ = Op.binOp BinOp.leq 5 (Operand.tmp 24) (Operand.const (Value.int IntKind.u8 57)) 5 from rfl) (by rfl) (by rfl)) (by rfl) (by rfl) ?_
              refine Ls.ev (some 26) (Ev.pickT (show Oper.op _ = Op.pick (Operand.tmp 23) (Operand.tmp 25) (Operand.const (Value.bool false)) from rfl) (by rfl) (by rfl)) (by rfl) (by rfl) ?_
              refine Ls.ev (some 27) (Ev.pickF (show Oper.op _ = Op.pick (Operand.tmp 20) (Operand.const (Value.bool true)) (Operand.tmp 26) from rfl) (by rfl) (by rfl)) (by rfl) (by rfl) ?_
              refine Ls.ev (some 28) (Ev.move (show Oper.op _ = Op.move (Operand.tmp 27) from rfl) (by rfl)) (by rfl) (by rfl) ?_
              refine Ent.split 28 (by rfl) (fun hT4 => ?_) (fun hT4 => ?_)
              · first | have hT4 := of_decide_eq_false hT4 | have hT4 := of_not_decide_false hT4 | skip
                refine Ls.ev (some 29) (Ev.move (show Oper.op _ = Op.move (Operand.tmp 4) from rfl) (by rfl)) (by rfl) (by rfl) ?_
                refine Ls.ev (some 30) (Ev.eql (show Oper.op _ = Op.binOp BinOp.eql 5 (Operand.tmp 29) (Operand.const (Value.int IntKind.u8 45)) 5 from rfl) (by rfl) (by rfl)) (by rfl) (by rfl) ?_
                refine Ls.ev (some 31) (Ev.pickF (show Oper.op _ = Op.pick (Operand.tmp 28) (Operand.const (Value.bool true)) (Operand.tmp 30) from rfl) (by rfl) (by rfl)) (by rfl) (by rfl) ?_
                refine Ls.ev (some 32) (Ev.move (show Oper.op _ = Op.move (Operand.tmp 31) from rfl) (by rfl)) (by rfl) (by rfl) ?_
                refine Ent.split 32 (by rfl) (fun hT5 => ?_) (fun hT5 => ?_)
                · first | have hT5 := of_decide_eq_false hT5 | have hT5 := of_not_decide_false hT5 | skip
                  refine Ls.ev (some 33) (Ev.move (show Oper.op _ = Op.move (Operand.tmp 4) from rfl) (by rfl)) (by rfl) (by rfl) ?_
                  refine Ls.ev (some 34) (Ev.eql (show Oper.op _ = Op.binOp BinOp.eql 5 (Operand.tmp 33) (Operand.const (Value.int IntKind.u8 46)) 5 from rfl) (by rfl) (by rfl)) (by rfl) (by rfl) ?_
                  refine Ls.ev (some 35) (Ev.pickF (show Oper.op _ = Op.pick (Operand.tmp 32) (Operand.const (Value.bool true)) (Operand.tmp 34) from rfl) (by rfl) (by rfl)) (by rfl) (by rfl) ?_
                  refine Ls.ev (some 36) (Ev.not (show Oper.op _ = Op.unOp UnOp.not 4 (Operand.tmp 35) from rfl) (by rfl)) (by rfl) (by rfl) ?_
                  refine Ls.nil ?_
                  refine Ent.inv () ?_ ?_ ?_
                  · exact trivial
                  · (repeat (first | exact trivial | refine ⟨by rfl, ?_⟩ | refine ⟨by simp only [List.length_append, List.length_cons, List.length_nil]; rfl, ?_⟩ | refine ⟨by push_cast; rfl, ?_⟩ | refine ⟨by (show some (Value.bool _) = some (Value.bool _); congr 2; all_goals ((first | rfl | (exact (decide_eq_false (by omega)).symm) | (exact (decide_eq_true (by omega)).symm) | (exact (decide_eq_false (by omega))) | (rw [decide_eq_true (by omega)]; rfl) | (rw [decide_eq_false (by omega)]; rfl) | omega))), ?_⟩))
                  · rfl
                · first | have hT5 := of_decide_eq_true hT5 | have hT5 := of_not_decide_true hT5 | skip
                  refine Ls.pass (some 33) (by rfl) (by rfl) ?_
                  refine Ls.pass (some 34) (by rfl) (by rfl) ?_
                  refine Ls.ev (some 35) (Ev.pickT (show Oper.op _ = Op.pick (Operand.tmp 32) (Operand.const (Value.bool true)) (Operand.tmp 34) from rfl) (by rfl) (by rfl)) (by rfl) (by rfl) ?_
                  refine Ls.ev (some 36) (Ev.not (show Oper.op _ = Op.unOp UnOp.not 4 (Operand.tmp 35) from rfl) (by rfl)) (by rfl) (by rfl) ?_
                  refine Ls.nil ?_
                  refine Ent.inv () ?_ ?_ ?_
                  · exact trivial
                  · (repeat (first | exact trivial | refine ⟨by rfl, ?_⟩ | refine ⟨by simp only [List.length_append, List.length_cons, List.length_nil]; rfl, ?_⟩ | refine ⟨by push_cast; rfl, ?_⟩ | refine ⟨by (show some (Value.bool _) = some (Value.bool _); congr 2; all_goals ((first | rfl | (exact (decide_eq_false (by omega)).symm) | (exact (decide_eq_true (by omega)).symm) | (exact (decide_eq_false (by omega))) | (rw [decide_eq_true (by omega)]; rfl) | (rw [decide_eq_false (by omega)]; rfl) | omega))), ?_⟩))
                  · rfl
              · first | have hT4 := of_decide_eq_true hT4 | have hT4 := of_not_decide_true hT4 | skip
                refine Ls.pass (some 29) (by rfl) (by rfl) ?_
                refine Ls.pass (some 30) (by rfl) (by rfl) ?_
                refine Ls.ev (some 31) (Ev.pickT (show Oper.op _ = Op.pick (Operand.tmp 28) (Operand.const (Value.bool true)) (Operand.tmp 30) from rfl) (by rfl) (by rfl)) (by rfl) (by rfl) ?_
                refine Ls.ev (some 32) (Ev.move (show Oper.op _ = Op.move (Operand.tmp 31) from rfl) (by rfl)) (by rfl) (by rfl) ?_
                refine Ls.pass (some 33) (by rfl) (by rfl) ?_
                refine Ls.pass (some 34) (by rfl) (by rfl) ?_
                refine Ls.ev (some 35) (Ev.pickT (show Oper.op _ = Op.pick (Operand.tmp 32) (Operand.const (Value.bool true)) (Operand.tmp 34) from rfl) (by rfl) (by rfl)) (by rfl) (by rfl) ?_
                refine Ls.ev (some 36) (Ev.not (show Oper.op _ = Op.unOp UnOp.not 4 (Operand.tmp 35) from rfl) (by rfl)) (by rfl) (by rfl) ?_
                refine Ls.nil ?_
                refine Ent.inv () ?_ ?_ ?_
                · exact trivial
                · (repeat (first | exact trivial | refine ⟨by rfl, ?_⟩ | refine ⟨by simp only [List.length_append, List.length_cons, List.length_nil]; rfl, ?_⟩ | refine ⟨by push_cast; rfl, ?_⟩ | refine ⟨by (show some (Value.bool _) = some (Value.bool _); congr 2; all_goals ((first | rfl | (exact (decide_eq_false (by omega)).symm) | (exact (decide_eq_true (by omega)).symm) | (exact (decide_eq_false (by omega))) | (rw [decide_eq_true (by omega)]; rfl) | (rw [decide_eq_false (by omega)]; rfl) | omega))), ?_⟩))
                · rfl
          · first | have hT2 := of_decide_eq_true hT2 | have hT2 := of_not_decide_true hT2 | skip
            refine Ls.pass (some 21) (by rfl) (by rfl) ?_
            refine Ls.pass (some 22) (by rfl) (by rfl) ?_
            refine Ls.pass (some 23) (by rfl) (by rfl) ?_
            refine Ls.pass (some 24) (by rfl) (by rfl) ?_
            refine Ls.pass (some 25) (by rfl) (by rfl) ?_
            refine Ls.pass (some 26) (by rfl) (by rfl) ?_
            refine Ls.ev (some 27) (Ev.pickT (show Oper.op _ = Op.pick (Operand.tmp 20) (Operand.const (Value.bool true)) (Operand.tmp 26) from rfl) (by rfl) (by rfl)) (by rfl) (by rfl) ?_
            refine Ls.ev (some 28) (Ev.move (show Oper.op _ = Op.move (Operand.tmp 27) from rfl) (by rfl)) (by rfl) (by rfl) ?_
            refine Ls.pass (some 29) (by rfl) (by rfl) ?_
            refine Ls.pass (some 30) (by rfl) (by rfl) ?_
            refine Ls.ev (some 31) (Ev.pickT (show Oper.op _ = Op.pick (Operand.tmp 28) (Operand.const (Value.bool true)) (Operand.tmp 30) from rfl) (by rfl) (by rfl)) (by rfl) (by rfl) ?_
            refine Ls.ev (some 32) (Ev.move (show Oper.op _ = Op.move (Operand.tmp 31) from rfl) (by rfl)) (by rfl) (by rfl) ?_
            refine Ls.pass (some 33) (by rfl) (by rfl) ?_
            refine Ls.pass (some 34) (by rfl) (by rfl) ?_
            refine Ls.ev (some 35) (Ev.pickT (show Oper.op _ = Op.pick (Operand.tmp 32) (Operand.const (Value.bool true)) (Operand.tmp 34) from rfl) (by rfl) (by rfl)) (by rfl) (by rfl) ?_
            refine Ls.ev (some 36) (Ev.not (show Oper.op _ = Op.unOp UnOp.not 4 (Operand.tmp 35) from rfl) (by rfl)) (by rfl) (by rfl) ?_
            refine Ls.nil ?_
            refine Ent.inv () ?_ ?_ ?_
            · exact trivial
            · (repeat (first | exact trivial | refine ⟨by rfl, ?_⟩ | refine ⟨by simp only [List.length_append, List.length_cons, List.length_nil]; rfl, ?_⟩ | refine ⟨by push_cast; rfl, ?_⟩ | refine ⟨by (show some (Value.bool _) = some (Value.bool _); congr 2; all_goals ((first | rfl | (exact (decide_eq_false (by omega)).symm) | (exact (decide_eq_true (by omega)).symm) | (exact (decide_eq_false (by omega))) | (rw [decide_eq_true (by omega)]; rfl) | (rw [decide_eq_false (by omega)]; rfl) | omega))), ?_⟩))
            · rfl
      skip
      rintro _ -
      refine Cd.cond_false (by rfl) (rfl) ?_
      refine Cd.skip ?_
      refine Cd.region ?_
      refine Ls.ev (some 9) (Ev.move (show Oper.op _ = Op.move (Operand.tmp 3) from rfl) (by rfl)) (by rfl) (by rfl) ?_
      refine Ls.ev (some 10) (Ev.addN (b := 1) (show Oper.op _ = Op.binOp BinOp.add 3 (Operand.tmp 9) (Operand.const (Value.int IntKind.i64 1)) 3 from rfl) (by rfl) (by rfl) (by omega)) (by rfl) (by rfl) ?_
      refine Ls.ev (some 3) (Ev.assign (show Oper.op _ = Op.assign (Operand.tmp 10) from rfl) (by rfl)) (by rfl) (by rfl) ?_
      refine Ls.nil ?_
      refine Ent.inv (k + 1) ?_ ?_ ?_
      · (try dsimp only); exact ⟨⟨hlt, fun y hy => by rw [List.take_add_one, hx] at hy; rcases List.mem_append.1 hy with hy | hy; exact hall y hy; exact (List.mem_singleton.1 hy) ▸ hok⟩, by omega⟩
      · (repeat (first | exact trivial | refine ⟨by rfl, ?_⟩ | refine ⟨by simp only [List.length_append, List.length_cons, List.length_nil]; rfl, ?_⟩ | refine ⟨by push_cast; rfl, ?_⟩))
      · rfl
    · skip
      have hok2 := hok
      unfold okB at hok2
      refine Cd.cut (ι := Unit) (fun _ => [(0, .string (txt q)), (3, .int .i64 k), (36, .bool true)]) (fun _ => []) (fun _ => True) ?_ ?_
      · skip
        refine Cd.region ?_
        refine Ls.ev (some 14) (Ev.move (show Oper.op _ = Op.move (Operand.tmp 4) from rfl) (by rfl)) (by rfl) (by rfl) ?_
        refine Ls.ev (some 15) (Ev.geq (show Oper.op _ = Op.binOp BinOp.geq 5 (Operand.tmp 14) (Operand.const (Value.int IntKind.u8 97)) 5 from rfl) (by rfl) (by rfl)) (by rfl) (by rfl) ?_
        refine Ls.ev (some 16) (Ev.move (show Oper.op _ = Op.move (Operand.tmp 15) from rfl) (by rfl)) (by rfl) (by rfl) ?_
        refine Ent.split 16 (by rfl) (fun hT1 => ?_) (fun hT1 => ?_)
        · first | have hT1 := of_decide_eq_false hT1 | have hT1 := of_not_decide_false hT1 | skip
          refine Ls.pass (some 17) (by rfl) (by rfl) ?_
          refine Ls.pass (some 18) (by rfl) (by rfl) ?_
          refine Ls.ev (some 19) (Ev.pickF (show Oper.op _ = Op.pick (Operand.tmp 16) (Operand.tmp 18) (Operand.const (Value.bool false)) from rfl) (by rfl) (by rfl)) (by rfl) (by rfl) ?_
          refine Ls.ev (some 20) (Ev.move (show Oper.op _ = Op.move (Operand.tmp 19) from rfl) (by rfl)) (by rfl) (by rfl) ?_
          refine Ls.ev (some 21) (Ev.move (show Oper.op _ = Op.move (Operand.tmp 4) from rfl) (by rfl)) (by rfl) (by rfl) ?_
          refine Ls.ev (some 22) (Ev.geq (show Oper.op _ = Op.binOp BinOp.geq 5 (Operand.tmp 21) (Operand.const (Value.int IntKind.u8 48)) 5 from rfl) (by rfl) (by rfl)) (by rfl) (by rfl) ?_
          refine Ls.ev (some 23) (Ev.move (show Oper.op _ = Op.move (Operand.tmp 22) from rfl) (by rfl)) (by rfl) (by rfl) ?_
          refine Ent.split 23 (by rfl) (fun hT2 => ?_) (fun hT2 => ?_)
          · first | have hT2 := of_decide_eq_false hT2 | have hT2 := of_not_decide_false hT2 | skip
            refine Ls.pass (some 24) (by rfl) (by rfl) ?_
            refine Ls.pass (some 25) (by rfl) (by rfl) ?_
            refine Ls.ev (some 26) (Ev.pickF (show Oper.op _ = Op.pick (Operand.tmp 23) (Operand.tmp 25) (Operand.const (Value.bool false)) from rfl) (by rfl) (by rfl)) (by rfl) (by rfl) ?_
            refine Ls.ev (some 27) (Ev.pickF (show Oper.op _ = Op.pick (Operand.tmp 20) (Operand.const (Value.bool true)) (Operand.tmp 26) from rfl) (by rfl) (by rfl)) (by rfl) (by rfl) ?_
            refine Ls.ev (some 28) (Ev.move (show Oper.op _ = Op.move (Operand.tmp 27) from rfl) (by rfl)) (by rfl) (by rfl) ?_
            refine Ls.ev (some 29) (Ev.move (show Oper.op _ = Op.move (Operand.tmp 4) from rfl) (by rfl)) (by rfl) (by rfl) ?_
            refine Ls.ev (some 30) (Ev.eql (show Oper.op _ = Op.binOp BinOp.eql 5 (Operand.tmp 29) (Operand.const (Value.int IntKind.u8 45)) 5 from rfl) (by rfl) (by rfl)) (by rfl) (by rfl) ?_
            refine Ls.ev (some 31) (Ev.pickF (show Oper.op _ = Op.pick (Operand.tmp 28) (Operand.const (Value.bool true)) (Operand.tmp 30) from rfl) (by rfl) (by rfl)) (by rfl) (by rfl) ?_
            refine Ls.ev (some 32) (Ev.move (show Oper.op _ = Op.move (Operand.tmp 31) from rfl) (by rfl)) (by rfl) (by rfl) ?_
            refine Ent.split 32 (by rfl) (fun hT3 => ?_) (fun hT3 => ?_)
            · first | have hT3 := of_decide_eq_false hT3 | have hT3 := of_not_decide_false hT3 | skip
              refine Ls.ev (some 33) (Ev.move (show Oper.op _ = Op.move (Operand.tmp 4) from rfl) (by rfl)) (by rfl) (by rfl) ?_
              refine Ls.ev (some 34) (Ev.eql (show Oper.op _ = Op.binOp BinOp.eql 5 (Operand.tmp 33) (Operand.const (Value.int IntKind.u8 46)) 5 from rfl) (by rfl) (by rfl)) (by rfl) (by rfl) ?_
              refine Ls.ev (some 35) (Ev.pickF (show Oper.op _ = Op.pick (Operand.tmp 32) (Operand.const (Value.bool true)) (Operand.tmp 34) from rfl) (by rfl) (by rfl)) (by rfl) (by rfl) ?_
              refine Ls.ev (some 36) (Ev.not (show Oper.op _ = Op.unOp UnOp.not 4 (Operand.tmp 35) from rfl) (by rfl)) (by rfl) (by rfl) ?_
              refine Ls.nil ?_
              refine Ent.inv () ?_ ?_ ?_
              · exact trivial
              · (repeat (first | exact trivial | refine ⟨by rfl, ?_⟩ | refine ⟨by simp only [List.length_append, List.length_cons, List.length_nil]; rfl, ?_⟩ | refine ⟨by push_cast; rfl, ?_⟩ | refine ⟨by (show some (Value.bool _) = some (Value.bool _); congr 2; all_goals ((first | rfl | (exact (decide_eq_true (by omega)).symm) | (exact (decide_eq_true (by omega))) | (rw [decide_eq_true (by omega)]; rfl) | (rw [decide_eq_false (by omega)]; rfl) | omega))), ?_⟩))
              · rfl
            · first | have hT3 := of_decide_eq_true hT3 | have hT3 := of_not_decide_true hT3 | skip
              refine Ls.pass (some 33) (by rfl) (by rfl) ?_
              refine Ls.pass (some 34) (by rfl) (by rfl) ?_
              refine Ls.ev (some 35) (Ev.pickT (show Oper.op _ = Op.pick (Operand.tmp 32) (Operand.const (Value.bool true)) (Operand.tmp 34) from rfl) (by rfl) (by rfl)) (by rfl) (by rfl) ?_
              refine Ls.ev (some 36) (Ev.not (show Oper.op _ = Op.unOp UnOp.not 4 (Operand.tmp 35) from rfl) (by rfl)) (by rfl) (by rfl) ?_
              refine Ls.nil ?_
              refine Ent.inv () ?_ ?_ ?_
              · exact trivial
              · (repeat (first | exact trivial | refine ⟨by rfl, ?_⟩ | refine ⟨by simp only [List.length_append, List.length_cons, List.length_nil]; rfl, ?_⟩ | refine ⟨by push_cast; rfl, ?_⟩ | refine ⟨by (show some (Value.bool _) = some (Value.bool _); congr 2; all_goals ((first | rfl | (exact (decide_eq_true (by omega)).symm) | (exact (decide_eq_true (by omega))) | (rw [decide_eq_true (by omega)]; rfl) | (rw [decide_eq_false (by omega)]; rfl) | omega))), ?_⟩))
              · rfl
          · first | have hT2 := of_decide_eq_true hT2 | have hT2 := of_not_decide_true hT2 | skip
            refine Ls.ev (some 24) (Ev.move (show Oper.op _ = Op.move (Operand.tmp 4) from rfl) (by rfl)) (by rfl) (by rfl) ?_
            refine Ls.ev (some 25) (Ev.leq (show Oper.op _ = Op.binOp BinOp.leq 5 (Operand.tmp 24) (Operand.const (Value.int IntKind.u8 57)) 5 from rfl) (by rfl) (by rfl)) (by rfl) (by rfl) ?_
            refine Ls.ev (some 26) (Ev.pickT (show Oper.op _ = Op.pick (Operand.tmp 23) (Operand.tmp 25) (Operand.const (Value.bool false)) from rfl) (by rfl) (by rfl)) (by rfl) (by rfl) ?_
            refine Ls.ev (some 27) (Ev.pickF (show Oper.op _ = Op.pick (Operand.tmp 20) (Operand.const (Value.bool true)) (Operand.tmp 26) from rfl) (by rfl) (by rfl)) (by rfl) (by rfl) ?_
            refine Ls.ev (some 28) (Ev.move (show Oper.op _ = Op.move (Operand.tmp 27) from rfl) (by rfl)) (by rfl) (by rfl) ?_
            refine Ent.split 28 (by rfl) (fun hT3 => ?_) (fun hT3 => ?_)
            · first | have hT3 := of_decide_eq_false hT3 | have hT3 := of_not_decide_false hT3 | skip
              refine Ls.ev (some 29) (Ev.move (show Oper.op _ = Op.move (Operand.tmp 4) from rfl) (by rfl)) (by rfl) (by rfl) ?_
              refine Ls.ev (some 30) (Ev.eql (show Oper.op _ = Op.binOp BinOp.eql 5 (Operand.tmp 29) (Operand.const (Value.int IntKind.u8 45)) 5 from rfl) (by rfl) (by rfl)) (by rfl) (by rfl) ?_
              refine Ls.ev (some 31) (Ev.pickF (show Oper.op _ = Op.pick (Operand.tmp 28) (Operand.const (Value.bool true)) (Operand.tmp 30) from rfl) (by rfl) (by rfl)) (by rfl) (by rfl) ?_
              refine Ls.ev (some 32) (Ev.move (show Oper.op _ = Op.move (Operand.tmp 31) from rfl) (by rfl)) (by rfl) (by rfl) ?_
              refine Ent.split 32 (by rfl) (fun hT4 => ?_) (fun hT4 => ?_)
              · first | have hT4 := of_decide_eq_false hT4 | have hT4 := of_not_decide_false hT4 | skip
                refine Ls.ev (some 33) (Ev.move (show Oper.op _ = Op.move (Operand.tmp 4) from rfl) (by rfl)) (by rfl) (by rfl) ?_
                refine Ls.ev (some 34) (Ev.eql (show Oper.op _ = Op.binOp BinOp.eql 5 (Operand.tmp 33) (Operand.const (Value.int IntKind.u8 46)) 5 from rfl) (by rfl) (by rfl)) (by rfl) (by rfl) ?_
                refine Ls.ev (some 35) (Ev.pickF (show Oper.op _ = Op.pick (Operand.tmp 32) (Operand.const (Value.bool true)) (Operand.tmp 34) from rfl) (by rfl) (by rfl)) (by rfl) (by rfl) ?_
                refine Ls.ev (some 36) (Ev.not (show Oper.op _ = Op.unOp UnOp.not 4 (Operand.tmp 35) from rfl) (by rfl)) (by rfl) (by rfl) ?_
                refine Ls.nil ?_
                refine Ent.inv () ?_ ?_ ?_
                · exact trivial
                · (repeat (first | exact trivial | refine ⟨by rfl, ?_⟩ | refine ⟨by simp only [List.length_append, List.length_cons, List.length_nil]; rfl, ?_⟩ | refine ⟨by push_cast; rfl, ?_⟩ | refine ⟨by (show some (Value.bool _) = some (Value.bool _); congr 2; all_goals ((first | rfl | (exact (decide_eq_true (by omega)).symm) | (exact (decide_eq_true (by omega))) | (rw [decide_eq_true (by omega)]; rfl) | (rw [decide_eq_false (by omega)]; rfl) | omega))), ?_⟩))
                · rfl
              · first | have hT4 := of_decide_eq_true hT4 | have hT4 := of_not_decide_true hT4 | skip
                refine Ls.pass (some 33) (by rfl) (by rfl) ?_
                refine Ls.pass (some 34) (by rfl) (by rfl) ?_
                refine Ls.ev (some 35) (Ev.pickT (show Oper.op _ = Op.pick (Operand.tmp 32) (Operand.const (Value.bool true)) (Operand.tmp 34) from rfl) (by rfl) (by rfl)) (by rfl) (by rfl) ?_
                refine Ls.ev (some 36) (Ev.not (show Oper.op _ = Op.unOp UnOp.not 4 (Operand.tmp 35) from rfl) (by rfl)) (by rfl) (by rfl) ?_
                refine Ls.nil ?_
                refine Ent.inv () ?_ ?_ ?_
                · exact trivial
                · (repeat (first | exact trivial | refine ⟨by rfl, ?_⟩ | refine ⟨by simp only [List.length_append, List.length_cons, List.length_nil]; rfl, ?_⟩ | refine ⟨by push_cast; rfl, ?_⟩ | refine ⟨by (show some (Value.bool _) = some (Value.bool _); congr 2; all_goals ((first | rfl | (exact (decide_eq_true (by omega)).symm) | (exact (decide_eq_true (by omega))) | (rw [decide_eq_true (by omega)]; rfl) | (rw [decide_eq_false (by omega)]; rfl) | omega))), ?_⟩))
                · rfl
            · first | have hT3 := of_decide_eq_true hT3 | have hT3 := of_not_decide_true hT3 | skip
              refine Ls.pass (some 29) (by rfl) (by rfl) ?_
              refine Ls.pass (some 30) (by rfl) (by rfl) ?_
              refine Ls.ev (some 31) (Ev.pickT (show Oper.op _ = Op.pick (Operand.tmp 28) (Operand.const (Value.bool true)) (Operand.tmp 30) from rfl) (by rfl) (by rfl)) (by rfl) (by rfl) ?_
              refine Ls.ev (some 32) (Ev.move (show Oper.op _ = Op.move (Operand.tmp 31) from rfl) (by rfl)) (by rfl) (by rfl) ?_
              refine Ls.pass (some 33) (by rfl) (by rfl) ?_
              refine Ls.pass (some 34) (by rfl) (by rfl) ?_
              refine Ls.ev (some 35) (Ev.pickT (show Oper.op _ = Op.pick (Operand.tmp 32) (Operand.const (Value.bool true)) (Operand.tmp 34) from rfl) (by rfl) (by rfl)) (by rfl) (by rfl) ?_
              refine Ls.ev (some 36) (Ev.not (show Oper.op _ = Op.unOp UnOp.not 4 (Operand.tmp 35) from rfl) (by rfl)) (by rfl) (by rfl) ?_
              refine Ls.nil ?_
              refine Ent.inv () ?_ ?_ ?_
              · exact trivial
              · (repeat (first | exact trivial | refine ⟨by rfl, ?_⟩ | refine ⟨by simp only [List.length_append, List.length_cons, List.length_nil]; rfl, ?_⟩ | refine ⟨by push_cast; rfl, ?_⟩ | refine ⟨by (show some (Value.bool _) = some (Value.bool _); congr 2; all_goals ((first | rfl | (exact (decide_eq_true (by omega)).symm) | (exact (decide_eq_true (by omega))) | (rw [decide_eq_true (by omega)]; rfl) | (rw [decide_eq_false (by omega)]; rfl) | omega))), ?_⟩))
              · rfl
        · first | have hT1 := of_decide_eq_true hT1 | have hT1 := of_not_decide_true hT1 | skip
          refine Ls.ev (some 17) (Ev.move (show Oper.op _ = Op.move (Operand.tmp 4) from rfl) (by rfl)) (by rfl) (by rfl) ?_
          refine Ls.ev (some 18) (Ev.leq (show Oper.op _ = Op.binOp BinOp.leq 5 (Operand.tmp 17) (Operand.const (Value.int IntKind.u8 122)) 5 from rfl) (by rfl) (by rfl)) (by rfl) (by rfl) ?_
          refine Ls.ev (some 19) (Ev.pickT (show Oper.op _ = Op.pick (Operand.tmp 16) (Operand.tmp 18) (Operand.const (Value.bool false)) from rfl) (by rfl) (by rfl)) (by rfl) (by rfl) ?_
          refine Ls.ev (some 20) (Ev.move (show Oper.op _ = Op.move (Operand.tmp 19) from rfl) (by rfl)) (by rfl) (by rfl) ?_
          refine Ent.split 20 (by rfl) (fun hT2 => ?_) (fun hT2 => ?_)
          · first | have hT2 := of_decide_eq_false hT2 | have hT2 := of_not_decide_false hT2 | skip
            refine Ls.ev (some 21) (Ev.move (show Oper.op _ = Op.move (Operand.tmp 4) from rfl) (by rfl)) (by rfl) (by rfl) ?_
            refine Ls.ev (some 22) (Ev.geq (show Oper.op _ = Op.binOp BinOp.geq 5 (Operand.tmp 21) (Operand.const (Value.int IntKind.u8 48)) 5 from rfl) (by rfl) (by rfl)) (by rfl) (by rfl) ?_
            refine Ls.ev (some 23) (Ev.move (show Oper.op _ = Op.move (Operand.tmp 22) from rfl) (by rfl)) (by rfl) (by rfl) ?_
            refine Ent.split 23 (by rfl) (fun hT3 => ?_) (fun hT3 => ?_)
            · first | have hT3 := of_decide_eq_false hT3 | have hT3 := of_not_decide_false hT3 | skip
              refine Ls.pass (some 24) (by rfl) (by rfl) ?_
              refine Ls.pass (some 25) (by rfl) (by rfl) ?_
              refine Ls.ev (some 26) (Ev.pickF (show Oper.op _ = Op.pick (Operand.tmp 23) (Operand.tmp 25) (Operand.const (Value.bool false)) from rfl) (by rfl) (by rfl)) (by rfl) (by rfl) ?_
              refine Ls.ev (some 27) (Ev.pickF (show Oper.op _ = Op.pick (Operand.tmp 20) (Operand.const (Value.bool true)) (Operand.tmp 26) from rfl) (by rfl) (by rfl)) (by rfl) (by rfl) ?_
              refine Ls.ev (some 28) (Ev.move (show Oper.op _ = Op.move (Operand.tmp 27) from rfl) (by rfl)) (by rfl) (by rfl) ?_
              refine Ls.ev (some 29) (Ev.move (show Oper.op _ = Op.move (Operand.tmp 4) from rfl) (by rfl)) (by rfl) (by rfl) ?_
              refine Ls.ev (some 30) (Ev.eql (show Oper.op _ = Op.binOp BinOp.eql 5 (Operand.tmp 29) (Operand.const (Value.int IntKind.u8 45)) 5 from rfl) (by rfl) (by rfl)) (by rfl) (by rfl) ?_
              refine Ls.ev (some 31) (Ev.pickF (show Oper.op _ = Op.pick (Operand.tmp 28) (Operand.const (Value.bool true)) (Operand.tmp 30) from rfl) (by rfl) (by rfl)) (by rfl) (by rfl) ?_
              refine Ls.ev (some 32) (Ev.move (show Oper.op _ = Op.move (Operand.tmp 31) from rfl) (by rfl)) (by rfl) (by rfl) ?_
              refine Ent.split 32 (by rfl) (fun hT4 => ?_) (fun hT4 => ?_)
              · first | have hT4 := of_decide_eq_false hT4 | have hT4 := of_not_decide_false hT4 | skip
                refine Ls.ev (some 33) (Ev.move (show Oper.op _ = Op.move (Operand.tmp 4) from rfl) (by rfl)) (by rfl) (by rfl) ?_
                refine Ls.ev (some 34) (Ev.eql (show Oper.op _ = Op.binOp BinOp.eql 5 (Operand.tmp 33) (Operand.const (Value.int IntKind.u8 46)) 5 from rfl) (by rfl) (by rfl)) (by rfl) (by rfl) ?_
                refine Ls.ev (some 35) (Ev.pickF (show Oper.op _ = Op.pick (Operand.tmp 32) (Operand.const (Value.bool true)) (Operand.tmp 34) from rfl) (by rfl) (by rfl)) (by rfl) (by rfl) ?_
                refine Ls.ev (some 36) (Ev.not (show Oper.op _ = Op.unOp UnOp.not 4 (Operand.tmp 35) from rfl) (by rfl)) (by rfl) (by rfl) ?_
                refine Ls.nil ?_
                refine Ent.inv () ?_ ?_ ?_
                · exact trivial
                · (repeat (first | exact trivial | refine ⟨by rfl, ?_⟩ | refine ⟨by simp only [List.length_append, List.length_cons, List.length_nil]; rfl, ?_⟩ | refine ⟨by push_cast; rfl, ?_⟩ | refine ⟨by (show some (Value.bool _) = some (Value.bool _); congr 2; all_goals ((first | rfl | (exact (decide_eq_true (by omega)).symm) | (exact (decide_eq_true (by omega))) | (rw [decide_eq_true (by omega)]; rfl) | (rw [decide_eq_false (by omega)]; rfl) | omega))), ?_⟩))
                · rfl
              · first | have hT4 := of_decide_eq_true hT4 | have hT4 := of_not_decide_true hT4 | skip
                refine Ls.pass (some 33) (by rfl) (by rfl) ?_
                refine Ls.pass (some 34) (by rfl) (by rfl) ?_
                refine Ls.ev (some 35) (Ev.pickT (show Oper.op _ = Op.pick (Operand.tmp 32) (Operand.const (Value.bool true)) (Operand.tmp 34) from rfl) (by rfl) (by rfl)) (by rfl) (by rfl) ?_
                refine Ls.ev (some 36) (Ev.not (show Oper.op _ = Op.unOp UnOp.not 4 (Operand.tmp 35) from rfl) (by rfl)) (by rfl) (by rfl) ?_
                refine Ls.nil ?_
                refine Ent.inv () ?_ ?_ ?_
                · exact trivial
                · (repeat (first | exact trivial | refine ⟨by rfl, ?_⟩ | refine ⟨by simp only [List.length_append, List.length_cons, List.length_nil]; rfl, ?_⟩ | refine ⟨by push_cast; rfl, ?_⟩ | refine ⟨by (show some (Value.bool _) = some (Value.bool _); congr 2; all_goals ((first | rfl | (exact (decide_eq_true (by omega)).symm) | (exact (decide_eq_true (by omega))) | (rw [decide_eq_true (by omega)]; rfl) | (rw [decide_eq_false (by omega)]; rfl) | omega))), ?_⟩))
                · rfl
            · first | have hT3 := of_decide_eq_true hT3 | have hT3 := of_not_decide_true hT3 | skip
              refine Ls.ev (some 24) (Ev.move (show Oper.op _ = Op.move (Operand.tmp 4) from rfl) (by rfl)) (by rfl) (by rfl) ?_
              refine Ls.ev (some 25) (Ev.leq (show Oper.op _ = Op.binOp BinOp.leq 5 (Operand.tmp 24) (Operand.const (Value.int IntKind.u8 57)) 5 from rfl) (by rfl) (by rfl)) (by rfl) (by rfl) ?_
              refine Ls.ev (some 26) (Ev.pickT (show Oper.op _ = Op.pick (Operand.tmp 23) (Operand.tmp 25) (Operand.const (Value.bool false)) from rfl) (by rfl) (by rfl)) (by rfl) (by rfl) ?_
              refine Ls.ev (some 27) (Ev.pickF (show Oper.op _ = Op.pick (Operand.tmp 20) (Operand.const (Value.bool true)) (Operand.tmp 26) from rfl) (by rfl) (by rfl)) (by rfl) (by rfl) ?_
              refine Ls.ev (some 28) (Ev.move (show Oper.op _ = Op.move (Operand.tmp 27) from rfl) (by rfl)) (by rfl) (by rfl) ?_
              refine Ent.split 28 (by rfl) (fun hT4 => ?_) (fun hT4 => ?_)
              · first | have hT4 := of_decide_eq_false hT4 | have hT4 := of_not_decide_false hT4 | skip
                refine Ls.ev (some 29) (Ev.move (show Oper.op _ = Op.move (Operand.tmp 4) from rfl) (by rfl)) (by rfl) (by rfl) ?_
                refine Ls.ev (some 30) (Ev.eql (show Oper.op _ = Op.binOp BinOp.eql 5 (Operand.tmp 29) (Operand.const (Value.int IntKind.u8 45)) 5 from rfl) (by rfl) (by rfl)) (by rfl) (by rfl) ?_
                refine Ls.ev (some 31) (Ev.pickF (show Oper.op _ = Op.pick (Operand.tmp 28) (Operand.const (Value.bool true)) (Operand.tmp 30) from rfl) (by rfl) (by rfl)) (by rfl) (by rfl) ?_
                refine Ls.ev (some 32) (Ev.move (show Oper.op _ = Op.move (Operand.tmp 31) from rfl) (by rfl)) (by rfl) (by rfl) ?_
                refine Ent.split 32 (by rfl) (fun hT5 => ?_) (fun hT5 => ?_)
                · first | have hT5 := of_decide_eq_false hT5 | have hT5 := of_not_decide_false hT5 | skip
                  refine Ls.ev (some 33) (Ev.move (show Oper.op _ = Op.move (Operand.tmp 4) from rfl) (by rfl)) (by rfl) (by rfl) ?_
                  refine Ls.ev (some 34) (Ev.eql (show Oper.op _ = Op.binOp BinOp.eql 5 (Operand.tmp 33) (Operand.const (Value.int IntKind.u8 46)) 5 from rfl) (by rfl) (by rfl)) (by rfl) (by rfl) ?_
                  refine Ls.ev (some 35) (Ev.pickF (show Oper.op _ = Op.pick (Operand.tmp 32) (Operand.const (Value.bool true)) (Operand.tmp 34) from rfl) (by rfl) (by rfl)) (by rfl) (by rfl) ?_
                  refine Ls.ev (some 36) (Ev.not (show Oper.op _ = Op.unOp UnOp.not 4 (Operand.tmp 35) from rfl) (by rfl)) (by rfl) (by rfl) ?_
                  refine Ls.nil ?_
                  refine Ent.inv () ?_ ?_ ?_
                  · exact trivial
                  · (repeat (first | exact trivial | refine ⟨by rfl, ?_⟩ | refine ⟨by simp only [List.length_append, List.length_cons, List.length_nil]; rfl, ?_⟩ | refine ⟨by push_cast; rfl, ?_⟩ | refine ⟨by (show some (Value.bool _) = some (Value.bool _); congr 2; all_goals ((first | rfl | (exact (decide_eq_true (by omega)).symm) | (exact (decide_eq_true (by omega))) | (rw [decide_eq_true (by omega)]; rfl) | (rw [decide_eq_false (by omega)]; rfl) | omega))), ?_⟩))
                  · rfl
                · first | have hT5 := of_decide_eq_true hT5 | have hT5 := of_not_decide_true hT5 | skip
                  refine Ls.pass (some 33) (by rfl) (by rfl) ?_
                  refine Ls.pass (some 34) (by rfl) (by rfl) ?_
                  refine Ls.ev (some 35) (Ev.pickT (show Oper.op _ = Op.pick (Operand.tmp 32) (Operand.const (Value.bool true)) (Operand.tmp 34) from rfl) (by rfl) (by rfl)) (by rfl) (by rfl) ?_
                  refine Ls.ev (some 36) (Ev.not (show Oper.op _ = Op.unOp UnOp.not 4 (Operand.tmp 35) from rfl) (by rfl)) (by rfl) (by rfl) ?_
                  refine Ls.nil ?_
                  refine Ent.inv () ?_ ?_ ?_
                  · exact trivial
                  · (repeat (first | exact trivial | refine ⟨by rfl, ?_⟩ | refine ⟨by simp only [List.length_append, List.length_cons, List.length_nil]; rfl, ?_⟩ | refine ⟨by push_cast; rfl, ?_⟩ | refine ⟨by (show some (Value.bool _) = some (Value.bool _); congr 2; all_goals ((first | rfl | (exact (decide_eq_true (by omega)).symm) | (exact (decide_eq_true (by omega))) | (rw [decide_eq_true (by omega)]; rfl) | (rw [decide_eq_false (by omega)]; rfl) | omega))), ?_⟩))
                  · rfl
              · first | have hT4 := of_decide_eq_true hT4 | have hT4 := of_not_decide_true hT4 | skip
                refine Ls.pass (some 29) (by rfl) (by rfl) ?_
                refine Ls.pass (some 30) (by rfl) (by rfl) ?_
                refine Ls.ev (some 31) (Ev.pickT (show Oper.op _ = Op.pick (Operand.tmp 28) (Operand.const (Value.bool true)) (Operand.tmp 30) from rfl) (by rfl) (by rfl)) (by rfl) (by rfl) ?_
                refine Ls.ev (some 32) (Ev.move (show Oper.op _ = Op.move (Operand.tmp 31) from rfl) (by rfl)) (by rfl) (by rfl) ?_
                refine Ls.pass (some 33) (by rfl) (by rfl) ?_
                refine Ls.pass (some 34) (by rfl) (by rfl) ?_
                refine Ls.ev (some 35) (Ev.pickT (show Oper.op _ = Op.pick (Operand.tmp 32) (Operand.const (Value.bool true)) (Operand.tmp 34) from rfl) (by rfl) (by rfl)) (by rfl) (by rfl) ?_
                refine Ls.ev (some 36) (Ev.not (show Oper.op _ = Op.unOp UnOp.not 4 (Operand.tmp 35) from rfl) (by rfl)) (by rfl) (by rfl) ?_
                refine Ls.nil ?_
                refine Ent.inv () ?_ ?_ ?_
                · exact trivial
                · (repeat (first | exact trivial | refine ⟨by rfl, ?_⟩ | refine ⟨by simp only [List.length_append, List.length_cons, List.length_nil]; rfl, ?_⟩ | refine ⟨by push_cast; rfl, ?_⟩ | refine ⟨by (show some (Value.bool _) = some (Value.bool _); congr 2; all_goals ((first | rfl | (exact (decide_eq_true (by omega)).symm) | (exact (decide_eq_true (by omega))) | (rw [decide_eq_true (by omega)]; rfl) | (rw [decide_eq_false (by omega)]; rfl) | omega))), ?_⟩))
                · rfl
          · first | have hT2 := of_decide_eq_true hT2 | have hT2 := of_not_decide_true hT2 | skip
            refine Ls.pass (some 21) (by rfl) (by rfl) ?_
            refine Ls.pass (some 22) (by rfl) (by rfl) ?_
            refine Ls.pass (some 23) (by rfl) (by rfl) ?_
            refine Ls.pass (some 24) (by rfl) (by rfl) ?_
            refine Ls.pass (some 25) (by rfl) (by rfl) ?_
            refine Ls.pass (some 26) (by rfl) (by rfl) ?_
            refine Ls.ev (some 27) (Ev.pickT (show Oper.op _ = Op.pick (Operand.tmp 20) (Operand.const (Value.bool true)) (Operand.tmp 26) from rfl) (by rfl) (by rfl)) (by rfl) (by rfl) ?_
            refine Ls.ev (some 28) (Ev.move (show Oper.op _ = Op.move (Operand.tmp 27) from rfl) (by rfl)) (by rfl) (by rfl) ?_
            refine Ls.pass (some 29) (by rfl) (by rfl) ?_
            refine Ls.pass (some 30) (by rfl) (by rfl) ?_
            refine Ls.ev (some 31) (Ev.pickT (show Oper.op _ = Op.pick (Operand.tmp 28) (Operand.const (Value.bool true)) (Operand.tmp 30) from rfl) (by rfl) (by rfl)) (by rfl) (by rfl) ?_
            refine Ls.ev (some 32) (Ev.move (show Oper.op _ = Op.move (Operand.tmp 31) from rfl) (by rfl)) (by rfl) (by rfl) ?_
            refine Ls.pass (some 33) (by rfl) (by rfl) ?_
            refine Ls.pass (some 34) (by rfl) (by rfl) ?_
            refine Ls.ev (some 35) (Ev.pickT (show Oper.op _ = Op.pick (Operand.tmp 32) (Operand.const (Value.bool true)) (Operand.tmp 34) from rfl) (by rfl) (by rfl)) (by rfl) (by rfl) ?_
            refine Ls.ev (some 36) (Ev.not (show Oper.op _ = Op.unOp UnOp.not 4 (Operand.tmp 35) from rfl) (by rfl)) (by rfl) (by rfl) ?_
            refine Ls.nil ?_
            refine Ent.inv () ?_ ?_ ?_
            · exact trivial
            · (repeat (first | exact trivial | refine ⟨by rfl, ?_⟩ | refine ⟨by simp only [List.length_append, List.length_cons, List.length_nil]; rfl, ?_⟩ | refine ⟨by push_cast; rfl, ?_⟩ | refine ⟨by (show some (Value.bool _) = some (Value.bool _); congr 2; all_goals ((first | rfl | (exact (decide_eq_true (by omega)).symm) | (exact (decide_eq_true (by omega))) | (rw [decide_eq_true (by omega)]; rfl) | (rw [decide_eq_false (by omega)]; rfl) | omega))), ?_⟩))
            · rfl
      skip
      rintro _ -
      refine Cd.cond_true (by rfl) (rfl) ?_
      refine Cd.seq ?_
      refine Cd.region ?_
      refine Ls.ev (some 2) (Ev.assign (show Oper.op _ = Op.assign (Operand.const (Value.bool false)) from rfl) (by rfl)) (by rfl) (by rfl) ?_
      refine Ls.nil ?_
      refine Cd.ret ?_
      refine Ent.ret (()) (trivial) (Res.tmp (by rfl) (by rfl)) ?_ [] (by rfl) ?_
      · show Value.bool false = _
        rw [decide_eq_false (fun h : Good q => hok (h.all x (List.mem_of_getElem? hx)))]
      · rfl
  · skip
    have hge : q.length ≤ k := by have := of_decide_eq_false h; omega
    rw [List.take_of_length_le hge] at hall
    have hgd : decide (Good q) = decide ((1 : Nat) ≤ q.length ∧ q.length ≤ 32) := decide_eq_decide.2 ⟨fun g => ⟨by
      have := g.ne
      cases q with
      | nil => exact absurd rfl this
      | cons _ _ => simp, g.len⟩, fun ⟨a, b⟩ => ⟨fun e => by rw [e] at a; simp at a, b, hall⟩⟩
    rw [hgd]
    refine Cd.exit ?_
    refine Cd.seq ?_
    refine Cd.region ?_
    refine Ls.ev (some 37) (Ev.move (show Oper.op _ = Op.move (Operand.tmp 0) from rfl) (by rfl)) (by rfl) (by rfl) ?_
    refine Ls.ev (some 38) (Ev.lenS (show Oper.op _ = Op.call { callee := Callee.builtin Builtin.len, args := #[Operand.tmp 37], argTypes := #[9] } from rfl) (by rfl) Tryz.underlying9) (by rfl) (by rfl) ?_
    refine Ls.ev (some 39) (Ev.geq (show Oper.op _ = Op.binOp BinOp.geq 3 (Operand.tmp 38) (Operand.const (Value.int IntKind.i64 1)) 3 from rfl) (by rfl) (by rfl)) (by rfl) (by rfl) ?_
    refine Ls.ev (some 40) (Ev.move (show Oper.op _ = Op.move (Operand.tmp 39) from rfl) (by rfl)) (by rfl) (by rfl) ?_
    by_cases h1 : (1 : Int) ≤ (q.length : Int)
    · skip
      refine Ent.known 40 true (by rfl) (by exact (decide_eq_true h1)) ?_
      refine Ls.ev (some 41) (Ev.move (show Oper.op _ = Op.move (Operand.tmp 0) from rfl) (by rfl)) (by rfl) (by rfl) ?_
      refine Ls.ev (some 42) (Ev.lenS (show Oper.op _ = Op.call { callee := Callee.builtin Builtin.len, args := #[Operand.tmp 41], argTypes := #[9] } from rfl) (by rfl) Tryz.underlying9) (by rfl) (by rfl) ?_
      refine Ls.ev (some 43) (Ev.leq (show Oper.op _ = Op.binOp BinOp.leq 3 (Operand.tmp 42) (Operand.const (Value.int IntKind.i64 32)) 3 from rfl) (by rfl) (by rfl)) (by rfl) (by rfl) ?_
      refine Ls.ev (some 44) (Ev.pickT (show Oper.op _ = Op.pick (Operand.tmp 40) (Operand.tmp 43) (Operand.const (Value.bool false)) from rfl) (by rfl) (by rfl)) (by rfl) (by rfl) ?_
      refine Ls.ev (some 2) (Ev.assign (show Oper.op _ = Op.assign (Operand.tmp 44) from rfl) (by rfl)) (by rfl) (by rfl) ?_
      refine Ls.nil ?_
      skip
      refine Cd.ret ?_
      refine Ent.ret (()) (trivial) (Res.tmp (by rfl) (by rfl)) ?_ [] (by rfl) ?_
      · show Value.bool _ = Value.bool _
        congr 1
        exact decide_eq_decide.2 (by rw [hs]; omega)
      · rfl
    · skip
      refine Ent.known 40 false (by rfl) (by exact (decide_eq_false h1)) ?_
      refine Ls.pass (some 41) (by rfl) (by rfl) ?_
      refine Ls.pass (some 42) (by rfl) (by rfl) ?_
      refine Ls.pass (some 43) (by rfl) (by rfl) ?_
      refine Ls.ev (some 44) (Ev.pickF (show Oper.op _ = Op.pick (Operand.tmp 40) (Operand.tmp 43) (Operand.const (Value.bool false)) from rfl) (by rfl) (by rfl)) (by rfl) (by rfl) ?_
      refine Ls.ev (some 2) (Ev.assign (show Oper.op _ = Op.assign (Operand.tmp 44) from rfl) (by rfl)) (by rfl) (by rfl) ?_
      refine Ls.nil ?_
      skip
      refine Cd.ret ?_
      refine Ent.ret (()) (trivial) (Res.tmp (by rfl) (by rfl)) ?_ [] (by rfl) ?_
      · show Value.bool false = Value.bool _
        congr 1
        exact (decide_eq_false (by omega)).symm
      · rfl
/-- Where a file is. -/
def AtR (l : List FiP) (q : List UInt8) (r : Int) : Prop := (r = -1 ∧ findG FiP.nm q l = none) ∨ ∃ (k : Nat) (f : FiP), r = k ∧ l[k]? = some f ∧ f.nm = q ∧ findG FiP.nm q l = some f
theorem findG_take {l : List FiP} {q : List UInt8} {k : Nat} {f : FiP} (h : ∀ x ∈ l.take k, x.nm ≠ q) (hf : l[k]? = some f) (hq : f.nm = q) : findG FiP.nm q l = some f := by
  induction l generalizing k with
  | nil => simp at hf
  | cons y l ih =>
    cases k with
    | zero =>
      obtain rfl : y = f := by simpa using hf
      rw [findG_cons, if_pos hq]
    | succ k =>
      rw [findG_cons, if_neg (h y (by simp))]
      exact ih (fun x hx => h x (by rw [List.take_succ_cons]; exact List.mem_cons_of_mem _ hx)) (by simpa using hf)
theorem dat_sl (P : DrP) (A : Option Addr) (c : Nat) (q : List UInt8) (hn : P.fs.length ≤ 1000000) : Fn Tryz.prog 39 #[.agg (P.val A c).toArray, .string (txt q)] [rdF A P.fs] Int (fun r => .int .i64 r) (fun _ => []) (AtR P.fs q) := by
  obtain ⟨fs, steps, left⟩ := P
  dsimp only [DrP.val] at hn ⊢
  refine Fn.enter Tryz.func39 rfl Tryz.ntmps39 (by rfl) ?_
  intro w0
  refine Cd.seq ?_
  refine Cd.region ?_
  refine Ls.does (some 2) (Does.box (show Oper.op _ = Op.box 43 (Operand.tmp 0) from rfl) (by rfl)) (by rfl) (by rfl) ?_
  intro g1 _
  refine Ls.ev (some 4) (Ev.assign (show Oper.op _ = Op.assign (Operand.const (Value.int IntKind.i64 0)) from rfl) (by rfl)) (by rfl) (by rfl) ?_
  refine Ls.nil ?_
  refine Cd.seq ?_
  refine Cd.seq ?_
  refine Cd.region ?_
  refine Ls.ev (some 5) (Ev.assign (show Oper.op _ = Op.assign (Operand.const (Value.int IntKind.i64 0)) from rfl) (by rfl)) (by rfl) (by rfl) ?_
  refine Ls.nil ?_
  refine Cd.block ?_
  refine Cd.loop (ι := Nat) (fun k => [(1, .string (txt q)), (2, .pointer (some ⟨g1, 0, none⟩)), (5, .int .i64 k)]) (fun _ => [blk g1 43 [.slice A fs.length c, .int .i64 steps, .bool left.isSome, .int .i64 ((left.getD 0 : Nat) : Int)], rdF A fs]) (fun k => k ≤ fs.length ∧ ∀ x ∈ fs.take k, x.nm ≠ q) (fun k => fs.length - k) (0) (⟨Nat.zero_le _, fun _ h => by simp at h⟩) ?_ rfl ?_
  · (repeat (first | exact trivial | refine ⟨by rfl, ?_⟩))
  rintro k ⟨hk, hall⟩
  refine Cd.seq ?_
  refine Cd.seq ?_
  refine Cd.region ?_
  refine Ls.ev (some 6) (Ev.move (show Oper.op _ = Op.move (Operand.tmp 5) from rfl) (by rfl)) (by rfl) (by rfl) ?_
  refine Ls.ev (some 7) (Ev.fieldAddr (k := 0) (show Oper.op _ = Op.fieldAddr 43 (Operand.tmp 2) 0 from rfl) (by rfl) (by kernel_rfl) (by rfl)) (by rfl) (by rfl) ?_
  refine Ls.ev (some 8) (Ev.load 0 (show Oper.op _ = Op.load 41 (Operand.tmp 7) from rfl) (by rfl) (by rfl) (by kernel_rfl) (by rfl)) (by rfl) (by rfl) ?_
  refine Ls.ev (some 9) (Ev.len (show Oper.op _ = Op.call { callee := Callee.builtin Builtin.len, args := #[Operand.tmp 8], argTypes := #[41] } from rfl) (by rfl) Tryz.underlying41) (by rfl) (by rfl) ?_
  refine Ls.ev (some 10) (Ev.lss (show Oper.op _ = Op.binOp BinOp.lss 3 (Operand.tmp 6) (Operand.tmp 9) 3 from rfl) (by rfl) (by rfl)) (by rfl) (by rfl) ?_
  refine Ls.nil ?_
  refine Cd.cond _ (by rfl) (fun h => ?_) (fun h => ?_)
  · skip
    have hlt : k < fs.length := by have := of_decide_eq_true h; omega
    obtain ⟨f, hf⟩ := get_of_lt hlt
    refine Ent.rdSome 1 (by rfl) (by omega) (fun ad had => ?_)
    subst had
    skip
    refine Cd.skip ?_
    refine Cd.seq ?_
    refine Cd.block ?_
    refine Cd.seq ?_
    refine Cd.region ?_
    refine Ls.ev (some 13) (Ev.fieldAddr (k := 0) (show Oper.op _ = Op.fieldAddr 43 (Operand.tmp 2) 0 from rfl) (by rfl) (by kernel_rfl) (by rfl)) (by rfl) (by rfl) ?_
    refine Ls.ev (some 14) (Ev.load 0 (show Oper.op _ = Op.load 41 (Operand.tmp 13) from rfl) (by rfl) (by rfl) (by kernel_rfl) (by rfl)) (by rfl) (by rfl) ?_
    refine Ls.ev (some 15) (Ev.move (show Oper.op _ = Op.move (Operand.tmp 5) from rfl) (by rfl)) (by rfl) (by rfl) ?_
    refine Ls.ev (some 16) (Ev.indexAt (sz := 3) (show Oper.op _ = Op.indexAddr 41 (Operand.tmp 14) (Operand.tmp 15) from rfl) (by rfl) (by rfl) Tryz.underlying41 (by kernel_rfl) (by omega)) (by rfl) (by rfl) ?_
    refine Ls.ev (some 17) (Ev.fieldAddrE0 (k := 0) (show Oper.op _ = Op.fieldAddr 88 (Operand.tmp 16) 0 from rfl) (by rfl) (by kernel_rfl)) (by rfl) (by rfl) ?_
    refine Ls.ev (some 18) (Ev.loadElF (show Oper.op _ = Op.load 9 (Operand.tmp 17) from rfl) (by rfl) (ReadsIn.rd 1 (by rfl)) (by kernel_rfl) (by intro _; rfl) (by assumption) (by rfl)) (by rfl) (by rfl) ?_
    refine Ls.ev (some 19) (Ev.move (show Oper.op _ = Op.move (Operand.tmp 1) from rfl) (by rfl)) (by rfl) (by rfl) ?_
    refine Ls.ev (some 20) (Ev.eqlS (show Oper.op _ = Op.binOp BinOp.eql 9 (Operand.tmp 18) (Operand.tmp 19) 9 from rfl) (by rfl) (by rfl)) (by rfl) (by rfl) ?_
    refine Ls.nil ?_
    by_cases hq : f.nm = q
    · skip
      refine Cd.cond_true (by rfl) (decide_eq_true (txt_eq_iff.2 hq)) ?_
      refine Cd.seq ?_
      refine Cd.region ?_
      refine Ls.ev (some 21) (Ev.move (show Oper.op _ = Op.move (Operand.tmp 5) from rfl) (by rfl)) (by rfl) (by rfl) ?_
      refine Ls.ev (some 4) (Ev.assign (show Oper.op _ = Op.assign (Operand.tmp 21) from rfl) (by rfl)) (by rfl) (by rfl) ?_
      refine Ls.nil ?_
      refine Cd.ret ?_
      refine Ent.ret ((k : Int)) (.inr ⟨k, f, rfl, hf, hq, findG_take hall hf hq⟩) (Res.tmp (by rfl) (by rfl)) ?_ [] (by rfl) ?_
      · rfl
      · rfl
    · skip
      refine Cd.cond_false (by rfl) (decide_eq_false (fun e => hq (txt_eq_iff.1 e))) ?_
      skip
      refine Cd.skip ?_
      refine Cd.region ?_
      refine Ls.ev (some 11) (Ev.move (show Oper.op _ = Op.move (Operand.tmp 5) from rfl) (by rfl)) (by rfl) (by rfl) ?_
      refine Ls.ev (some 12) (Ev.addN (b := 1) (show Oper.op _ = Op.binOp BinOp.add 3 (Operand.tmp 11) (Operand.const (Value.int IntKind.i64 1)) 3 from rfl) (by rfl) (by rfl) (by omega)) (by rfl) (by rfl) ?_
      refine Ls.ev (some 5) (Ev.assign (show Oper.op _ = Op.assign (Operand.tmp 12) from rfl) (by rfl)) (by rfl) (by rfl) ?_
      refine Ls.nil ?_
      refine Ent.inv (k + 1) ?_ ?_ ?_
      · (try dsimp only); exact ⟨⟨hlt, fun x hx => by rw [List.take_add_one, hf] at hx; rcases List.mem_append.1 hx with hx | hx; exact hall x hx; exact (List.mem_singleton.1 hx) ▸ hq⟩, by omega⟩
      · (repeat (first | exact trivial | refine ⟨by rfl, ?_⟩ | refine ⟨by simp only [List.length_append, List.length_cons, List.length_nil]; rfl, ?_⟩ | refine ⟨by push_cast; rfl, ?_⟩))
      · rfl
  · skip
    have hge : fs.length ≤ k := by have := of_decide_eq_false h; omega
    rw [List.take_of_length_le hge] at hall
    refine Cd.exit ?_
    refine Cd.seq ?_
    refine Cd.region ?_
    refine Ls.ev (some 4) (Ev.assign (show Oper.op _ = Op.assign (Operand.const (Value.int IntKind.i64 (-1))) from rfl) (by rfl)) (by rfl) (by rfl) ?_
    refine Ls.nil ?_
    refine Cd.ret ?_
    refine Ent.ret ((-1 : Int)) (.inl ⟨rfl, findG_none_of hall⟩) (Res.tmp (by rfl) (by rfl)) ?_ [] (by rfl) ?_
    · rfl
    · rfl
theorem ddead_sl (P : DrP) (A : Option Addr) (c : Nat) : Fn Tryz.prog 47 #[.agg (P.val A c).toArray] [] Unit (fun _ => .bool P.dead) (fun _ => []) (fun _ => True) := by
  obtain ⟨fs, steps, left⟩ := P
  dsimp only [DrP.val, DrP.dead]
  cases left with
  | none =>
    dsimp only [Option.isSome, Option.getD]
    refine Fn.enter Tryz.func47 rfl Tryz.ntmps47 (by rfl) ?_
    intro w0
    refine Cd.seq ?_
    refine Cd.region ?_
    refine Ls.does (some 1) (Does.box (show Oper.op _ = Op.box 43 (Operand.tmp 0) from rfl) (by rfl)) (by rfl) (by rfl) ?_
    intro g1 _
    refine Ls.ev (some 2) (Ev.assign (show Oper.op _ = Op.assign (Operand.const (Value.bool false)) from rfl) (by rfl)) (by rfl) (by rfl) ?_
    refine Ls.nil ?_
    refine Cd.seq ?_
    refine Cd.region ?_
    refine Ls.ev (some 3) (Ev.fieldAddr (k := 2) (show Oper.op _ = Op.fieldAddr 43 (Operand.tmp 1) 2 from rfl) (by rfl) (by kernel_rfl) (by rfl)) (by rfl) (by rfl) ?_
    refine Ls.ev (some 4) (Ev.load 0 (show Oper.op _ = Op.load 4 (Operand.tmp 3) from rfl) (by rfl) (by rfl) (by kernel_rfl) (by rfl)) (by rfl) (by rfl) ?_
    refine Ls.ev (some 5) (Ev.move (show Oper.op _ = Op.move (Operand.tmp 4) from rfl) (by rfl)) (by rfl) (by rfl) ?_
    refine Ent.known 5 false (by rfl) (by exact (rfl)) ?_
    refine Ls.pass (some 6) (by rfl) (by rfl) ?_
    refine Ls.pass (some 7) (by rfl) (by rfl) ?_
    refine Ls.pass (some 8) (by rfl) (by rfl) ?_
    refine Ls.ev (some 9) (Ev.pickF (show Oper.op _ = Op.pick (Operand.tmp 5) (Operand.tmp 8) (Operand.const (Value.bool false)) from rfl) (by rfl) (by rfl)) (by rfl) (by rfl) ?_
    refine Ls.ev (some 2) (Ev.assign (show Oper.op _ = Op.assign (Operand.tmp 9) from rfl) (by rfl)) (by rfl) (by rfl) ?_
    refine Ls.nil ?_
    skip
    refine Cd.ret ?_
    refine Ent.ret (()) (trivial) (Res.tmp (by rfl) (by rfl)) ?_ [] (by rfl) ?_
    · rfl
    · rfl
  | some n =>
    dsimp only [Option.isSome, Option.getD]
    refine Fn.enter Tryz.func47 rfl Tryz.ntmps47 (by rfl) ?_
    intro w0
    refine Cd.seq ?_
    refine Cd.region ?_
    refine Ls.does (some 1) (Does.box (show Oper.op _ = Op.box 43 (Operand.tmp 0) from rfl) (by rfl)) (by rfl) (by rfl) ?_
    intro g1 _
    refine Ls.ev (some 2) (Ev.assign (show Oper.op _ = Op.assign (Operand.const (Value.bool false)) from rfl) (by rfl)) (by rfl) (by rfl) ?_
    refine Ls.nil ?_
    refine Cd.seq ?_
    refine Cd.region ?_
    refine Ls.ev (some 3) (Ev.fieldAddr (k := 2) (show Oper.op _ = Op.fieldAddr 43 (Operand.tmp 1) 2 from rfl) (by rfl) (by kernel_rfl) (by rfl)) (by rfl) (by rfl) ?_
    refine Ls.ev (some 4) (Ev.load 0 (show Oper.op _ = Op.load 4 (Operand.tmp 3) from rfl) (by rfl) (by rfl) (by kernel_rfl) (by rfl)) (by rfl) (by rfl) ?_
    refine Ls.ev (some 5) (Ev.move (show Oper.op _ = Op.move (Operand.tmp 4) from rfl) (by rfl)) (by rfl) (by rfl) ?_
    refine Ent.known 5 true (by rfl) (by exact (rfl)) ?_
    refine Ls.ev (some 6) (Ev.fieldAddr (k := 3) (show Oper.op _ = Op.fieldAddr 43 (Operand.tmp 1) 3 from rfl) (by rfl) (by kernel_rfl) (by rfl)) (by rfl) (by rfl) ?_
    refine Ls.ev (some 7) (Ev.load 0 (show Oper.op _ = Op.load 3 (Operand.tmp 6) from rfl) (by rfl) (by rfl) (by kernel_rfl) (by rfl)) (by rfl) (by rfl) ?_
    refine Ls.ev (some 8) (Ev.eql (show Oper.op _ = Op.binOp BinOp.eql 3 (Operand.tmp 7) (Operand.const (Value.int IntKind.i64 0)) 3 from rfl) (by rfl) (by rfl)) (by rfl) (by rfl) ?_
    refine Ls.ev (some 9) (Ev.pickT (show Oper.op _ = Op.pick (Operand.tmp 5) (Operand.tmp 8) (Operand.const (Value.bool false)) from rfl) (by rfl) (by rfl)) (by rfl) (by rfl) ?_
    refine Ls.ev (some 2) (Ev.assign (show Oper.op _ = Op.assign (Operand.tmp 9) from rfl) (by rfl)) (by rfl) (by rfl) ?_
    refine Ls.nil ?_
    skip
    refine Cd.ret ?_
    refine Ent.ret (()) (trivial) (Res.tmp (by rfl) (by rfl)) ?_ [] (by rfl) ?_
    · show Value.bool _ = Value.bool _
      congr 1
      exact decide_eq_decide.2 (by simp)
    · rfl
theorem dstep_sl (P : DrP) (hok : P.Ok) (hd : P.dead = false) (A : Option Addr) (c : Nat) : Fn Tryz.prog 69 #[.agg (P.val A c).toArray] [] Unit (fun _ => .agg (P.step.val A c).toArray) (fun _ => []) (fun _ => True) := by
  obtain ⟨fs, steps, left⟩ := P
  have hl := hok.left
  dsimp only at hl
  unfold DrP.dead at hd
  dsimp only at hd
  dsimp only [DrP.val, DrP.step]
  cases left with
  | none =>
    dsimp only [Option.isSome, Option.getD, Option.map]
    refine Fn.enter Tryz.func69 rfl Tryz.ntmps69 (by rfl) ?_
    intro w0
    refine Cd.seq ?_
    refine Cd.region ?_
    refine Ls.does (some 1) (Does.box (show Oper.op _ = Op.box 43 (Operand.tmp 0) from rfl) (by rfl)) (by rfl) (by rfl) ?_
    intro g1 _
    refine Ls.does (some 2) (Does.alloc (cs := [.slice none 0 0, .int .i64 0, .bool false, .int .i64 0]) (show Oper.op _ = Op.alloc 43 from rfl) (ZeroIs.mk (.agg #[.slice none 0 0, .int .i64 0, .bool false, .int .i64 0]) (by kernel_rfl) (by rfl))) (by rfl) (by rfl) ?_
    intro g2 _
    refine Ls.nil ?_
    refine Cd.seq ?_
    refine Cd.region ?_
    refine Ls.ev (some 3) (Ev.fieldAddr (k := 1) (show Oper.op _ = Op.fieldAddr 43 (Operand.tmp 1) 1 from rfl) (by rfl) (by kernel_rfl) (by rfl)) (by rfl) (by rfl) ?_
    refine Ls.ev (some 4) (Ev.load 1 (show Oper.op _ = Op.load 3 (Operand.tmp 3) from rfl) (by rfl) (by rfl) (by kernel_rfl) (by rfl)) (by rfl) (by rfl) ?_
    refine Ls.ev (some 5) (Ev.add (show Oper.op _ = Op.binOp BinOp.add 3 (Operand.tmp 4) (Operand.const (Value.int IntKind.i64 1)) 3 from rfl) (by rfl) (by rfl)) (by rfl) (by rfl) ?_
    refine Ls.ev (some 6) (Ev.fieldAddr (k := 1) (show Oper.op _ = Op.fieldAddr 43 (Operand.tmp 1) 1 from rfl) (by rfl) (by kernel_rfl) (by rfl)) (by rfl) (by rfl) ?_
    refine Ls.does none (Does.store 1 (show Oper.op _ = Op.store 3 (Operand.tmp 6) (Operand.tmp 5) from rfl) (by rfl) (by rfl) (by rfl) (by kernel_rfl) (by rfl) (by kernel_rfl) (by rfl)) (by rfl) (by rfl) ?_
    intro _ _
    refine Ls.nil ?_
    refine Cd.seq ?_
    refine Cd.seq ?_
    refine Cd.region ?_
    refine Ls.ev (some 7) (Ev.fieldAddr (k := 2) (show Oper.op _ = Op.fieldAddr 43 (Operand.tmp 1) 2 from rfl) (by rfl) (by kernel_rfl) (by rfl)) (by rfl) (by rfl) ?_
    refine Ls.ev (some 8) (Ev.load 1 (show Oper.op _ = Op.load 4 (Operand.tmp 7) from rfl) (by rfl) (by rfl) (by kernel_rfl) (by rfl)) (by rfl) (by rfl) ?_
    refine Ls.nil ?_
    refine Cd.cond_false (by rfl) (rfl) ?_
    refine Cd.skip ?_
    refine Cd.seq ?_
    refine Cd.region ?_
    refine Ls.ev (some 13) (Ev.loads 1 (show Oper.op _ = Op.load 43 (Operand.tmp 1) from rfl) (by rfl) (by rfl) (n := 4) (by kernel_rfl) (by rfl) (by rfl)) (by rfl) (by rfl) ?_
    refine Ls.does none (Does.store 0 (show Oper.op _ = Op.store 43 (Operand.tmp 2) (Operand.tmp 13) from rfl) (by rfl) (by rfl) (by rfl) (by kernel_rfl) (by rfl) (by kernel_rfl) (by rfl)) (by rfl) (by rfl) ?_
    intro _ _
    refine Ls.nil ?_
    refine Cd.ret ?_
    refine Ent.ret (()) (trivial) (Res.cell 0 (by rfl) (by rfl) (by rfl) (n := 4) (by kernel_rfl) (by rfl) (by rfl)) ?_ [] (by rfl) ?_
    · rfl
    · rfl
  | some n =>
    have hn := hl n rfl
    have hn0 : n ≠ 0 := fun e => by rw [e] at hd; simp at hd
    dsimp only [Option.isSome, Option.getD, Option.map]
    refine Fn.enter Tryz.func69 rfl Tryz.ntmps69 (by rfl) ?_
    intro w0
    refine Cd.seq ?_
    refine Cd.region ?_
    refine Ls.does (some 1) (Does.box (show Oper.op _ = Op.box 43 (Operand.tmp 0) from rfl) (by rfl)) (by rfl) (by rfl) ?_
    intro g1 _
    refine Ls.does (some 2) (Does.alloc (cs := [.slice none 0 0, .int .i64 0, .bool false, .int .i64 0]) (show Oper.op _ = Op.alloc 43 from rfl) (ZeroIs.mk (.agg #[.slice none 0 0, .int .i64 0, .bool false, .int .i64 0]) (by kernel_rfl) (by rfl))) (by rfl) (by rfl) ?_
    intro g2 _
    refine Ls.nil ?_
    refine Cd.seq ?_
    refine Cd.region ?_
    refine Ls.ev (some 3) (Ev.fieldAddr (k := 1) (show Oper.op _ = Op.fieldAddr 43 (Operand.tmp 1) 1 from rfl) (by rfl) (by kernel_rfl) (by rfl)) (by rfl) (by rfl) ?_
    refine Ls.ev (some 4) (Ev.load 1 (show Oper.op _ = Op.load 3 (Operand.tmp 3) from rfl) (by rfl) (by rfl) (by kernel_rfl) (by rfl)) (by rfl) (by rfl) ?_
    refine Ls.ev (some 5) (Ev.add (show Oper.op _ = Op.binOp BinOp.add 3 (Operand.tmp 4) (Operand.const (Value.int IntKind.i64 1)) 3 from rfl) (by rfl) (by rfl)) (by rfl) (by rfl) ?_
    refine Ls.ev (some 6) (Ev.fieldAddr (k := 1) (show Oper.op _ = Op.fieldAddr 43 (Operand.tmp 1) 1 from rfl) (by rfl) (by kernel_rfl) (by rfl)) (by rfl) (by rfl) ?_
    refine Ls.does none (Does.store 1 (show Oper.op _ = Op.store 3 (Operand.tmp 6) (Operand.tmp 5) from rfl) (by rfl) (by rfl) (by rfl) (by kernel_rfl) (by rfl) (by kernel_rfl) (by rfl)) (by rfl) (by rfl) ?_
    intro _ _
    refine Ls.nil ?_
    refine Cd.seq ?_
    refine Cd.seq ?_
    refine Cd.region ?_
    refine Ls.ev (some 7) (Ev.fieldAddr (k := 2) (show Oper.op _ = Op.fieldAddr 43 (Operand.tmp 1) 2 from rfl) (by rfl) (by kernel_rfl) (by rfl)) (by rfl) (by rfl) ?_
    refine Ls.ev (some 8) (Ev.load 1 (show Oper.op _ = Op.load 4 (Operand.tmp 7) from rfl) (by rfl) (by rfl) (by kernel_rfl) (by rfl)) (by rfl) (by rfl) ?_
    refine Ls.nil ?_
    refine Cd.cond_true (by rfl) (rfl) ?_
    skip
    refine Cd.region ?_
    refine Ls.ev (some 9) (Ev.fieldAddr (k := 3) (show Oper.op _ = Op.fieldAddr 43 (Operand.tmp 1) 3 from rfl) (by rfl) (by kernel_rfl) (by rfl)) (by rfl) (by rfl) ?_
    refine Ls.ev (some 10) (Ev.load 1 (show Oper.op _ = Op.load 3 (Operand.tmp 9) from rfl) (by rfl) (by rfl) (by kernel_rfl) (by rfl)) (by rfl) (by rfl) ?_
    refine Ls.ev (some 11) (Ev.subN (b := 1) (show Oper.op _ = Op.binOp BinOp.sub 3 (Operand.tmp 10) (Operand.const (Value.int IntKind.i64 1)) 3 from rfl) (by rfl) (by rfl) (by omega)) (by rfl) (by rfl) ?_
    refine Ls.ev (some 12) (Ev.fieldAddr (k := 3) (show Oper.op _ = Op.fieldAddr 43 (Operand.tmp 1) 3 from rfl) (by rfl) (by kernel_rfl) (by rfl)) (by rfl) (by rfl) ?_
    refine Ls.does none (Does.store 1 (show Oper.op _ = Op.store 3 (Operand.tmp 12) (Operand.tmp 11) from rfl) (by rfl) (by rfl) (by rfl) (by kernel_rfl) (by rfl) (by kernel_rfl) (by rfl)) (by rfl) (by rfl) ?_
    intro _ _
    refine Ls.nil ?_
    refine Cd.seq ?_
    refine Cd.region ?_
    refine Ls.ev (some 13) (Ev.loads 1 (show Oper.op _ = Op.load 43 (Operand.tmp 1) from rfl) (by rfl) (by rfl) (n := 4) (by kernel_rfl) (by rfl) (by rfl)) (by rfl) (by rfl) ?_
    refine Ls.does none (Does.store 0 (show Oper.op _ = Op.store 43 (Operand.tmp 2) (Operand.tmp 13) from rfl) (by rfl) (by rfl) (by rfl) (by kernel_rfl) (by rfl) (by kernel_rfl) (by rfl)) (by rfl) (by rfl) ?_
    intro _ _
    refine Ls.nil ?_
    refine Cd.ret ?_
    refine Ent.ret (()) (trivial) (Res.cell 0 (by rfl) (by rfl) (by rfl) (n := 4) (by kernel_rfl) (by rfl) (by rfl)) ?_ [] (by rfl) ?_
    · rfl
    · rfl
end Go.Proofs.YtceanciekadkeaaGreatDoor
/- the document's drives over pieces: a file put -/
namespace Go.Proofs.YtceanciekadkeaaGreatDoor
open Go.RowKit
theorem toList_txt (a : List UInt8) : (txt a).toList = a := by rw [ByteArray.toList_eq]; rfl
section
variable {Γ : Ctx} {N : Frm} {P : Program} {E : Env} {H : List Chunk} {o : Oper} {x y : Operand}
theorem Ev.leqT {t t' : TypeId} {a b : List UInt8} (ho : o.op = .binOp .leq t x y t') (hx : E.ev x = some (.string (txt a))) (hy : E.ev y = some (.string (txt b))) : Ev Γ N P E H o (.bool (decide (a ≤ b))) :=
  Ev.to (Ev.leqS ho hx hy) (by
    rw [toList_txt, toList_txt, Go.Proofs.bytesLess_eq]
    congr 1
    by_cases h : a ≤ b
    · rw [decide_eq_true h]
      rcases lt_tri a b with h1 | h1 | h1
      · rw [decide_eq_true h1]; rfl
      · rw [h1]; simp
      · exact absurd h1 h
    · rw [decide_eq_false h]
      have h1 : ¬ a < b := fun e => h (List.le_of_lt e)
      have h2 : a ≠ b := fun e => h (e ▸ List.le_refl _)
      rw [decide_eq_false h1]
      simp [h2])
end
theorem elem_fi : Elem Tryz.prog 41 88 3 40 := elem_of (by kernel_rfl)
theorem one_fi (l : List FiP) : ∀ u ∈ l.flatMap FiP.enc, u.oneCell' = true := fun u hu => by
  obtain ⟨f, _, hu⟩ := List.mem_flatMap.1 hu
  unfold FiP.enc at hu
  simp only [List.mem_cons, List.not_mem_nil, or_false] at hu
  rcases hu with rfl | rfl | rfl <;> rfl
abbrev rowF (A : Option Addr) (c : Nat) (l : List FiP) : Chunk := row A l.length c 88 3 (l.flatMap FiP.enc)
theorem rowF_snoc (A : Option Addr) (c : Nat) (l : List FiP) (f : FiP) : row A (l.length + 1) c 88 3 (l.flatMap FiP.enc ++ f.enc) = rowF A c (l ++ [f]) := by
  dsimp only [rowF]
  rw [List.length_append, List.flatMap_append, List.flatMap_singleton]
  rfl
theorem putG_from {α : Type} {nm : α → List UInt8} {f : α} : ∀ {a : List α} (b : List α), (∀ x ∈ a, nm x < nm f) → putG nm f (a ++ b) = a ++ putG nm f b
  | [], _, _ => rfl
  | y :: a, b, h => by
    rw [List.cons_append, putG, if_pos (h y List.mem_cons_self), putG_from b (fun x hx => h x (List.mem_cons_of_mem _ hx))]
    rfl
set_option maxHeartbeats 1000000 in
theorem dwith_sl (P : DrP) (hr : Rise FiP.nm P.fs) (hn : P.fs.length ≤ 1000000) (A : Option Addr) (c : Nat) (f : FiP) : Fn Tryz.prog 40 #[.agg (P.val A c).toArray, .agg f.enc.toArray] [rdF A P.fs] (Option Addr × Nat) (fun p => .agg ((P.put f).val p.1 p.2).toArray) (fun p => [rowF p.1 p.2 (P.put f).fs]) (fun _ => True) := by
  obtain ⟨fs, steps, left⟩ := P
  obtain ⟨nm, b, sy⟩ := f
  dsimp only [DrP.val, FiP.enc, DrP.put] at hr hn ⊢
  refine Fn.enter Tryz.func40 rfl Tryz.ntmps40 (by rfl) ?_
  intro w0
  refine Cd.seq ?_
  refine Cd.region ?_
  refine Ls.does (some 2) (Does.box (show Oper.op _ = Op.box 43 (Operand.tmp 0) from rfl) (by rfl)) (by rfl) (by rfl) ?_
  intro g1 _
  refine Ls.does (some 3) (Does.box (show Oper.op _ = Op.box 88 (Operand.tmp 1) from rfl) (by rfl)) (by rfl) (by rfl) ?_
  intro g2 _
  refine Ls.does (some 4) (Does.alloc (cs := [.slice none 0 0, .int .i64 0, .bool false, .int .i64 0]) (show Oper.op _ = Op.alloc 43 from rfl) (ZeroIs.mk (.agg #[.slice none 0 0, .int .i64 0, .bool false, .int .i64 0]) (by kernel_rfl) (by rfl))) (by rfl) (by rfl) ?_
  intro g3 _
  refine Ls.nil ?_
  refine Cd.seq ?_
  refine Cd.region ?_
  refine Ls.ev (some 5) (Ev.assign (show Oper.op _ = Op.assign (Operand.const (Value.slice none 0 0)) from rfl) (by rfl)) (by rfl) (by rfl) ?_
  refine Ls.nil ?_
  refine Cd.seq ?_
  refine Cd.region ?_
  refine Ls.ev (some 6) (Ev.assign (show Oper.op _ = Op.assign (Operand.const (Value.bool false)) from rfl) (by rfl)) (by rfl) (by rfl) ?_
  refine Ls.nil ?_
  refine Cd.seq ?_
  refine Cd.seq ?_
  refine Cd.region ?_
  refine Ls.ev (some 7) (Ev.assign (show Oper.op _ = Op.assign (Operand.const (Value.int IntKind.i64 0)) from rfl) (by rfl)) (by rfl) (by rfl) ?_
  refine Ls.nil ?_
  refine Cd.block ?_
  refine Ent.nil 88 3 ?_
  refine Ent.pick [0, 3, 2, 1, 4] (by rfl) ?_
  skip
  refine Cd.loop (ι := Nat × Bool × (Option Addr × Nat × List FiP)) (fun p => [(2, .pointer (some ⟨g1, 0, none⟩)), (3, .pointer (some ⟨g2, 0, none⟩)), (4, .pointer (some ⟨g3, 0, none⟩)), (5, .slice p.2.2.1 p.2.2.2.2.length p.2.2.2.1), (6, .bool p.2.1), (7, .int .i64 p.1)]) (fun p => [rowF p.2.2.1 p.2.2.2.1 p.2.2.2.2, blk g1 43 [.slice A fs.length c, .int .i64 steps, .bool left.isSome, .int .i64 ((left.getD 0 : Nat) : Int)], blk g2 88 [.string (txt nm), .string (txt b), .int .i64 sy], blk g3 43 [.slice none 0 0, .int .i64 0, .bool false, .int .i64 0], rdF A fs]) (fun p => p.1 ≤ fs.length ∧ p.2.2.2.2.length ≤ p.1 + 1 ∧ (p.2.1 = false → p.2.2.2.2 = fs.take p.1 ∧ ∀ x ∈ fs.take p.1, x.nm < nm) ∧ (p.2.1 = true → putG FiP.nm (⟨nm, b, sy⟩ : FiP) fs = p.2.2.2.2 ++ fs.drop p.1 ∧ ∀ x ∈ fs.drop p.1, nm < x.nm)) (fun p => fs.length - p.1) ((0, false, (none, 0, []))) (⟨Nat.zero_le _, Nat.zero_le _, fun _ => ⟨rfl, fun _ h => by simp at h⟩, fun h => by cases h⟩) ?_ rfl ?_
  · (repeat (first | exact trivial | refine ⟨by rfl, ?_⟩))
  rintro ⟨k, pt, wA, wc, l⟩ ⟨hk, hll, hF, hT⟩
  dsimp only at hk hll hF hT ⊢
  refine Cd.seq ?_
  refine Cd.seq ?_
  refine Cd.region ?_
  refine Ls.ev (some 8) (Ev.move (show Oper.op _ = Op.move (Operand.tmp 7) from rfl) (by rfl)) (by rfl) (by rfl) ?_
  refine Ls.ev (some 9) (Ev.fieldAddr (k := 0) (show Oper.op _ = Op.fieldAddr 43 (Operand.tmp 2) 0 from rfl) (by rfl) (by kernel_rfl) (by rfl)) (by rfl) (by rfl) ?_
  refine Ls.ev (some 10) (Ev.load 1 (show Oper.op _ = Op.load 41 (Operand.tmp 9) from rfl) (by rfl) (by rfl) (by kernel_rfl) (by rfl)) (by rfl) (by rfl) ?_
  refine Ls.ev (some 11) (Ev.len (show Oper.op _ = Op.call { callee := Callee.builtin Builtin.len, args := #[Operand.tmp 10], argTypes := #[41] } from rfl) (by rfl) Tryz.underlying41) (by rfl) (by rfl) ?_
  refine Ls.ev (some 12) (Ev.lss (show Oper.op _ = Op.binOp BinOp.lss 3 (Operand.tmp 8) (Operand.tmp 11) 3 from rfl) (by rfl) (by rfl)) (by rfl) (by rfl) ?_
  refine Ls.nil ?_
  refine Cd.cond _ (by rfl) (fun h => ?_) (fun h => ?_)
  · skip
    have hlt : k < fs.length := by have := of_decide_eq_true h; omega
    obtain ⟨x, hx⟩ := get_of_lt hlt
    have hdk : fs.drop k = x :: fs.drop (k + 1) := by
      rw [List.drop_eq_getElem_cons hlt]
      congr 1
      rw [List.getElem?_eq_getElem hlt] at hx
      exact Option.some.inj hx
    have htk : fs.take (k + 1) = fs.take k ++ [x] := by rw [List.take_add_one, hx]; rfl
    refine Ent.rdSome 4 (by rfl) (by omega) (fun ad had => ?_)
    subst had
    skip
    cases pt with
    | true =>
      obtain ⟨hT1, hT2⟩ := hT rfl
      rw [hdk] at hT1 hT2
      have hxn := hT2 x List.mem_cons_self
      skip
      refine Cd.skip ?_
      refine Cd.seq ?_
      refine Cd.block ?_
      refine Cd.seq ?_
      refine Cd.seq ?_
      refine Cd.draw [] (by kernel_rfl) ?_
      refine Rg.ev 0 (by rfl) (fun _ h => h) (Ev.move (show Oper.op _ = Op.move (Operand.tmp 6) from rfl) (by rfl)) (by rfl) (some 15) (by rfl) (by kernel_rfl) (by kernel_rfl) (by kernel_rfl) (by kernel_rfl) ?_
      refine Rg.ev 1 (by rfl) (fun _ h => h) (Ev.not (show Oper.op _ = Op.unOp UnOp.not 4 (Operand.tmp 15) from rfl) (by rfl)) (by rfl) (some 16) (by rfl) (by kernel_rfl) (by kernel_rfl) (by kernel_rfl) (by kernel_rfl) ?_
      refine Rg.ev 2 (by rfl) (fun _ h => h) (Ev.move (show Oper.op _ = Op.move (Operand.tmp 16) from rfl) (by rfl)) (by rfl) (some 17) (by rfl) (by kernel_rfl) (by kernel_rfl) (by kernel_rfl) (by kernel_rfl) ?_
      refine Ent.known 17 false (by rfl) (by exact (rfl)) ?_
      refine Rg.pass 3 (by rfl) (fun _ h => h) (by rfl) (some 18) (by rfl) (by kernel_rfl) (by kernel_rfl) (by kernel_rfl) (by kernel_rfl) ?_
      refine Rg.pass 4 (by rfl) (fun _ h => h) (by rfl) (some 19) (by rfl) (by kernel_rfl) (by kernel_rfl) (by kernel_rfl) (by kernel_rfl) ?_
      refine Rg.pass 5 (by rfl) (fun _ h => h) (by rfl) (some 20) (by rfl) (by kernel_rfl) (by kernel_rfl) (by kernel_rfl) (by kernel_rfl) ?_
      refine Rg.pass 6 (by rfl) (fun _ h => h) (by rfl) (some 21) (by rfl) (by kernel_rfl) (by kernel_rfl) (by kernel_rfl) (by kernel_rfl) ?_
      refine Rg.pass 7 (by rfl) (fun _ h => h) (by rfl) (some 22) (by rfl) (by kernel_rfl) (by kernel_rfl) (by kernel_rfl) (by kernel_rfl) ?_
      refine Rg.pass 8 (by rfl) (fun _ h => h) (by rfl) (some 23) (by rfl) (by kernel_rfl) (by kernel_rfl) (by kernel_rfl) (by kernel_rfl) ?_
      refine Rg.pass 9 (by rfl) (fun _ h => h) (by rfl) (some 24) (by rfl) (by kernel_rfl) (by kernel_rfl) (by kernel_rfl) (by kernel_rfl) ?_
      refine Rg.pass 10 (by rfl) (fun _ h => h) (by rfl) (some 25) (by rfl) (by kernel_rfl) (by kernel_rfl) (by kernel_rfl) (by kernel_rfl) ?_
      refine Rg.pass 11 (by rfl) (fun _ h => h) (by rfl) (some 26) (by rfl) (by kernel_rfl) (by kernel_rfl) (by kernel_rfl) (by kernel_rfl) ?_
      refine Rg.ev 12 (by rfl) (fun _ h => h) (Ev.pickF (show Oper.op _ = Op.pick (Operand.tmp 17) (Operand.tmp 26) (Operand.const (Value.bool false)) from rfl) (by rfl) (by rfl)) (by rfl) (some 27) (by rfl) (by kernel_rfl) (by kernel_rfl) (by kernel_rfl) (by kernel_rfl) ?_
      refine Rg.done (by kernel_rfl) ?_ _
      skip
      refine Cd.cond_false (by rfl) (rfl) ?_
      refine Cd.skip ?_
      refine Cd.seq ?_
      refine Cd.draw [] (by kernel_rfl) ?_
      refine Rg.ev 0 (by rfl) (fun _ h => h) (Ev.fieldAddr (k := 0) (show Oper.op _ = Op.fieldAddr 43 (Operand.tmp 2) 0 from rfl) (by rfl) (by kernel_rfl) (by rfl)) (by rfl) (some 32) (by rfl) (by kernel_rfl) (by kernel_rfl) (by kernel_rfl) (by kernel_rfl) ?_
      refine Rg.ev 1 (by rfl) (fun _ h => h) (Ev.load 1 (show Oper.op _ = Op.load 41 (Operand.tmp 32) from rfl) (by rfl) (by rfl) (by kernel_rfl) (by rfl)) (by rfl) (some 33) (by rfl) (by kernel_rfl) (by kernel_rfl) (by kernel_rfl) (by kernel_rfl) ?_
      refine Rg.ev 2 (by rfl) (fun _ h => h) (Ev.move (show Oper.op _ = Op.move (Operand.tmp 7) from rfl) (by rfl)) (by rfl) (some 34) (by rfl) (by kernel_rfl) (by kernel_rfl) (by kernel_rfl) (by kernel_rfl) ?_
      refine Rg.ev 3 (by rfl) (fun _ h => h) (Ev.indexAt (sz := 3) (show Oper.op _ = Op.indexAddr 41 (Operand.tmp 33) (Operand.tmp 34) from rfl) (by rfl) (by rfl) Tryz.underlying41 (by kernel_rfl) (by omega)) (by rfl) (some 35) (by rfl) (by kernel_rfl) (by kernel_rfl) (by kernel_rfl) (by kernel_rfl) ?_
      refine Rg.ev 4 (by rfl) (fun _ h => h) (Ev.fieldAddrE0 (k := 0) (show Oper.op _ = Op.fieldAddr 88 (Operand.tmp 35) 0 from rfl) (by rfl) (by kernel_rfl)) (by rfl) (some 36) (by rfl) (by kernel_rfl) (by kernel_rfl) (by kernel_rfl) (by kernel_rfl) ?_
      refine Rg.ev 5 (by rfl) (fun _ h => h) (Ev.loadElF (show Oper.op _ = Op.load 9 (Operand.tmp 36) from rfl) (by rfl) (ReadsIn.rd 4 (by rfl)) (by kernel_rfl) (by intro _; rfl) (by assumption) (by rfl)) (by rfl) (some 37) (by rfl) (by kernel_rfl) (by kernel_rfl) (by kernel_rfl) (by kernel_rfl) ?_
      refine Rg.ev 6 (by rfl) (fun _ h => h) (Ev.fieldAddr (k := 0) (show Oper.op _ = Op.fieldAddr 88 (Operand.tmp 3) 0 from rfl) (by rfl) (by kernel_rfl) (by rfl)) (by rfl) (some 38) (by rfl) (by kernel_rfl) (by kernel_rfl) (by kernel_rfl) (by kernel_rfl) ?_
      refine Rg.ev 7 (by rfl) (fun _ h => h) (Ev.load 2 (show Oper.op _ = Op.load 9 (Operand.tmp 38) from rfl) (by rfl) (by rfl) (by kernel_rfl) (by rfl)) (by rfl) (some 39) (by rfl) (by kernel_rfl) (by kernel_rfl) (by kernel_rfl) (by kernel_rfl) ?_
      refine Rg.ev 8 (by rfl) (fun _ h => h) (Ev.neqS (show Oper.op _ = Op.binOp BinOp.neq 9 (Operand.tmp 37) (Operand.tmp 39) 9 from rfl) (by rfl) (by rfl)) (by rfl) (some 40) (by rfl) (by kernel_rfl) (by kernel_rfl) (by kernel_rfl) (by kernel_rfl) ?_
      refine Rg.done (by kernel_rfl) ?_ _
      refine Cd.cond_true (by rfl) (decide_eq_true (show txt x.nm ≠ txt nm from fun e => lt_ne hxn (txt_eq_iff.1 e).symm)) ?_
      refine Cd.region ?_
      refine Ls.ev (some 41) (Ev.move (show Oper.op _ = Op.move (Operand.tmp 5) from rfl) (by rfl)) (by rfl) (by rfl) ?_
      refine Ls.ev (some 42) (Ev.fieldAddr (k := 0) (show Oper.op _ = Op.fieldAddr 43 (Operand.tmp 2) 0 from rfl) (by rfl) (by kernel_rfl) (by rfl)) (by rfl) (by rfl) ?_
      refine Ls.ev (some 43) (Ev.load 1 (show Oper.op _ = Op.load 41 (Operand.tmp 42) from rfl) (by rfl) (by rfl) (by kernel_rfl) (by rfl)) (by rfl) (by rfl) ?_
      refine Ls.ev (some 44) (Ev.move (show Oper.op _ = Op.move (Operand.tmp 7) from rfl) (by rfl)) (by rfl) (by rfl) ?_
      refine Ls.ev (some 45) (Ev.indexAt (sz := 3) (show Oper.op _ = Op.indexAddr 41 (Operand.tmp 43) (Operand.tmp 44) from rfl) (by rfl) (by rfl) Tryz.underlying41 (by kernel_rfl) (by omega)) (by rfl) (by rfl) ?_
      refine Ls.ev (some 46) (Ev.loadEl (enc := FiP.enc) (sz := 3) (show Oper.op _ = Op.load 88 (Operand.tmp 45) from rfl) (by rfl) (ReadsIn.rd 4 (by rfl)) (by kernel_rfl) (fun _ => rfl) hx) (by rfl) (by rfl) ?_
      refine Ls.does (some 47) (Does.lit (sz := 3) (show Oper.op _ = Op.buildSlice 41 1 #[(0, Operand.tmp 46)] from rfl) (by rfl) Tryz.underlying41 (by kernel_rfl) (by rfl) (by kernel_rfl)) (by rfl) (by rfl) ?_
      intro g4 _
      refine Ls.does (some 48) (Does.app (xs := l.flatMap FiP.enc) (news := x.enc) 1 (show Oper.op _ = Op.call { callee := Callee.builtin Builtin.append, args := #[Operand.tmp 41, Operand.tmp 47], argTypes := #[41, 41] } from rfl) (by rfl) (by rfl) (by rfl) (ReadsIn.row 0 (by rfl)) elem_fi (by simpa using one_fi [x]) (show (l.length + 1) * 40 ≤ 140737488355328 by omega)) (by rfl) (by rfl) ?_
      rintro q -
      rw [rowF_snoc q.1 q.2 l x]
      refine Ls.ev (some 5) (Ev.assign (show Oper.op _ = Op.assign (Operand.tmp 48) from rfl) (by rfl)) (by rfl) (by rfl) ?_
      refine Ls.nil ?_
      refine Cd.region ?_
      refine Ls.ev (some 13) (Ev.move (show Oper.op _ = Op.move (Operand.tmp 7) from rfl) (by rfl)) (by rfl) (by rfl) ?_
      refine Ls.ev (some 14) (Ev.addN (b := 1) (show Oper.op _ = Op.binOp BinOp.add 3 (Operand.tmp 13) (Operand.const (Value.int IntKind.i64 1)) 3 from rfl) (by rfl) (by rfl) (by omega)) (by rfl) (by rfl) ?_
      refine Ls.ev (some 7) (Ev.assign (show Oper.op _ = Op.assign (Operand.tmp 14) from rfl) (by rfl)) (by rfl) (by rfl) ?_
      refine Ls.nil ?_
      refine Ent.pick [1, 2, 3, 4, 5] (by rfl) ?_
      refine Ent.inv ((k + 1, true, q.1, q.2, l ++ [x])) ?_ ?_ ?_
      · (try dsimp only); exact ⟨⟨hlt, by rw [List.length_append, List.length_singleton]; omega, fun e => (by cases e), fun _ => ⟨by rw [hT1, List.append_assoc]; rfl, fun y hy => hT2 y (List.mem_cons_of_mem _ hy)⟩⟩, by omega⟩
      · (repeat (first | exact trivial | refine ⟨by rfl, ?_⟩ | refine ⟨by simp only [List.length_append, List.length_cons, List.length_nil]; rfl, ?_⟩ | refine ⟨by push_cast; rfl, ?_⟩ | refine ⟨by (show some (Value.slice _ _ _) = some (Value.slice _ _ _); rw [List.length_append]; rfl), ?_⟩))
      · rfl
    | false =>
      obtain ⟨rfl, hF2⟩ := hF rfl
      by_cases hxn : x.nm < nm
      · skip
        refine Cd.skip ?_
        refine Cd.seq ?_
        refine Cd.block ?_
        refine Cd.seq ?_
        refine Cd.seq ?_
        refine Cd.draw [] (by kernel_rfl) ?_
        refine Rg.ev 0 (by rfl) (fun _ h => h) (Ev.move (show Oper.op _ = Op.move (Operand.tmp 6) from rfl) (by rfl)) (by rfl) (some 15) (by rfl) (by kernel_rfl) (by kernel_rfl) (by kernel_rfl) (by kernel_rfl) ?_
        refine Rg.ev 1 (by rfl) (fun _ h => h) (Ev.not (show Oper.op _ = Op.unOp UnOp.not 4 (Operand.tmp 15) from rfl) (by rfl)) (by rfl) (some 16) (by rfl) (by kernel_rfl) (by kernel_rfl) (by kernel_rfl) (by kernel_rfl) ?_
        refine Rg.ev 2 (by rfl) (fun _ h => h) (Ev.move (show Oper.op _ = Op.move (Operand.tmp 16) from rfl) (by rfl)) (by rfl) (some 17) (by rfl) (by kernel_rfl) (by kernel_rfl) (by kernel_rfl) (by kernel_rfl) ?_
        refine Ent.known 17 true (by rfl) (by exact (rfl)) ?_
        refine Rg.ev 3 (by rfl) (fun _ h => h) (Ev.fieldAddr (k := 0) (show Oper.op _ = Op.fieldAddr 88 (Operand.tmp 3) 0 from rfl) (by rfl) (by kernel_rfl) (by rfl)) (by rfl) (some 18) (by rfl) (by kernel_rfl) (by kernel_rfl) (by kernel_rfl) (by kernel_rfl) ?_
        refine Rg.ev 4 (by rfl) (fun _ h => h) (Ev.load 2 (show Oper.op _ = Op.load 9 (Operand.tmp 18) from rfl) (by rfl) (by rfl) (by kernel_rfl) (by rfl)) (by rfl) (some 19) (by rfl) (by kernel_rfl) (by kernel_rfl) (by kernel_rfl) (by kernel_rfl) ?_
        refine Rg.ev 5 (by rfl) (fun _ h => h) (Ev.fieldAddr (k := 0) (show Oper.op _ = Op.fieldAddr 43 (Operand.tmp 2) 0 from rfl) (by rfl) (by kernel_rfl) (by rfl)) (by rfl) (some 20) (by rfl) (by kernel_rfl) (by kernel_rfl) (by kernel_rfl) (by kernel_rfl) ?_
        refine Rg.ev 6 (by rfl) (fun _ h => h) (Ev.load 1 (show Oper.op _ = Op.load 41 (Operand.tmp 20) from rfl) (by rfl) (by rfl) (by kernel_rfl) (by rfl)) (by rfl) (some 21) (by rfl) (by kernel_rfl) (by kernel_rfl) (by kernel_rfl) (by kernel_rfl) ?_
        refine Rg.ev 7 (by rfl) (fun _ h => h) (Ev.move (show Oper.op _ = Op.move (Operand.tmp 7) from rfl) (by rfl)) (by rfl) (some 22) (by rfl) (by kernel_rfl) (by kernel_rfl) (by kernel_rfl) (by kernel_rfl) ?_
        refine Rg.ev 8 (by rfl) (fun _ h => h) (Ev.indexAt (sz := 3) (show Oper.op _ = Op.indexAddr 41 (Operand.tmp 21) (Operand.tmp 22) from rfl) (by rfl) (by rfl) Tryz.underlying41 (by kernel_rfl) (by omega)) (by rfl) (some 23) (by rfl) (by kernel_rfl) (by kernel_rfl) (by kernel_rfl) (by kernel_rfl) ?_
        refine Rg.ev 9 (by rfl) (fun _ h => h) (Ev.fieldAddrE0 (k := 0) (show Oper.op _ = Op.fieldAddr 88 (Operand.tmp 23) 0 from rfl) (by rfl) (by kernel_rfl)) (by rfl) (some 24) (by rfl) (by kernel_rfl) (by kernel_rfl) (by kernel_rfl) (by kernel_rfl) ?_
        refine Rg.ev 10 (by rfl) (fun _ h => h) (Ev.loadElF (show Oper.op _ = Op.load 9 (Operand.tmp 24) from rfl) (by rfl) (ReadsIn.rd 4 (by rfl)) (by kernel_rfl) (by intro _; rfl) (by assumption) (by rfl)) (by rfl) (some 25) (by rfl) (by kernel_rfl) (by kernel_rfl) (by kernel_rfl) (by kernel_rfl) ?_
        refine Rg.ev 11 (by rfl) (fun _ h => h) (Ev.leqT (show Oper.op _ = Op.binOp BinOp.leq 9 (Operand.tmp 19) (Operand.tmp 25) 9 from rfl) (by rfl) (by rfl)) (by rfl) (some 26) (by rfl) (by kernel_rfl) (by kernel_rfl) (by kernel_rfl) (by kernel_rfl) ?_
        refine Rg.ev 12 (by rfl) (fun _ h => h) (Ev.pickT (show Oper.op _ = Op.pick (Operand.tmp 17) (Operand.tmp 26) (Operand.const (Value.bool false)) from rfl) (by rfl) (by rfl)) (by rfl) (some 27) (by rfl) (by kernel_rfl) (by kernel_rfl) (by kernel_rfl) (by kernel_rfl) ?_
        refine Rg.done (by kernel_rfl) ?_ _
        refine Cd.cond_false (by rfl) (decide_eq_false (show ¬ (nm ≤ x.nm) from fun h => h hxn)) ?_
        refine Cd.skip ?_
        refine Cd.seq ?_
        refine Cd.draw [] (by kernel_rfl) ?_
        refine Rg.ev 0 (by rfl) (fun _ h => h) (Ev.fieldAddr (k := 0) (show Oper.op _ = Op.fieldAddr 43 (Operand.tmp 2) 0 from rfl) (by rfl) (by kernel_rfl) (by rfl)) (by rfl) (some 32) (by rfl) (by kernel_rfl) (by kernel_rfl) (by kernel_rfl) (by kernel_rfl) ?_
        refine Rg.ev 1 (by rfl) (fun _ h => h) (Ev.load 1 (show Oper.op _ = Op.load 41 (Operand.tmp 32) from rfl) (by rfl) (by rfl) (by kernel_rfl) (by rfl)) (by rfl) (some 33) (by rfl) (by kernel_rfl) (by kernel_rfl) (by kernel_rfl) (by kernel_rfl) ?_
        refine Rg.ev 2 (by rfl) (fun _ h => h) (Ev.move (show Oper.op _ = Op.move (Operand.tmp 7) from rfl) (by rfl)) (by rfl) (some 34) (by rfl) (by kernel_rfl) (by kernel_rfl) (by kernel_rfl) (by kernel_rfl) ?_
        refine Rg.ev 3 (by rfl) (fun _ h => h) (Ev.indexAt (sz := 3) (show Oper.op _ = Op.indexAddr 41 (Operand.tmp 33) (Operand.tmp 34) from rfl) (by rfl) (by rfl) Tryz.underlying41 (by kernel_rfl) (by omega)) (by rfl) (some 35) (by rfl) (by kernel_rfl) (by kernel_rfl) (by kernel_rfl) (by kernel_rfl) ?_
        refine Rg.ev 4 (by rfl) (fun _ h => h) (Ev.fieldAddrE0 (k := 0) (show Oper.op _ = Op.fieldAddr 88 (Operand.tmp 35) 0 from rfl) (by rfl) (by kernel_rfl)) (by rfl) (some 36) (by rfl) (by kernel_rfl) (by kernel_rfl) (by kernel_rfl) (by kernel_rfl) ?_
        refine Rg.ev 5 (by rfl) (fun _ h => h) (Ev.loadElF (show Oper.op _ = Op.load 9 (Operand.tmp 36) from rfl) (by rfl) (ReadsIn.rd 4 (by rfl)) (by kernel_rfl) (by intro _; rfl) (by assumption) (by rfl)) (by rfl) (some 37) (by rfl) (by kernel_rfl) (by kernel_rfl) (by kernel_rfl) (by kernel_rfl) ?_
        refine Rg.ev 6 (by rfl) (fun _ h => h) (Ev.fieldAddr (k := 0) (show Oper.op _ = Op.fieldAddr 88 (Operand.tmp 3) 0 from rfl) (by rfl) (by kernel_rfl) (by rfl)) (by rfl) (some 38) (by rfl) (by kernel_rfl) (by kernel_rfl) (by kernel_rfl) (by kernel_rfl) ?_
        refine Rg.ev 7 (by rfl) (fun _ h => h) (Ev.load 2 (show Oper.op _ = Op.load 9 (Operand.tmp 38) from rfl) (by rfl) (by rfl) (by kernel_rfl) (by rfl)) (by rfl) (some 39) (by rfl) (by kernel_rfl) (by kernel_rfl) (by kernel_rfl) (by kernel_rfl) ?_
        refine Rg.ev 8 (by rfl) (fun _ h => h) (Ev.neqS (show Oper.op _ = Op.binOp BinOp.neq 9 (Operand.tmp 37) (Operand.tmp 39) 9 from rfl) (by rfl) (by rfl)) (by rfl) (some 40) (by rfl) (by kernel_rfl) (by kernel_rfl) (by kernel_rfl) (by kernel_rfl) ?_
        refine Rg.done (by kernel_rfl) ?_ _
        refine Cd.cond_true (by rfl) (decide_eq_true (show txt x.nm ≠ txt nm from fun e => lt_ne hxn (txt_eq_iff.1 e))) ?_
        refine Cd.region ?_
        refine Ls.ev (some 41) (Ev.move (show Oper.op _ = Op.move (Operand.tmp 5) from rfl) (by rfl)) (by rfl) (by rfl) ?_
        refine Ls.ev (some 42) (Ev.fieldAddr (k := 0) (show Oper.op _ = Op.fieldAddr 43 (Operand.tmp 2) 0 from rfl) (by rfl) (by kernel_rfl) (by rfl)) (by rfl) (by rfl) ?_
        refine Ls.ev (some 43) (Ev.load 1 (show Oper.op _ = Op.load 41 (Operand.tmp 42) from rfl) (by rfl) (by rfl) (by kernel_rfl) (by rfl)) (by rfl) (by rfl) ?_
        refine Ls.ev (some 44) (Ev.move (show Oper.op _ = Op.move (Operand.tmp 7) from rfl) (by rfl)) (by rfl) (by rfl) ?_
        refine Ls.ev (some 45) (Ev.indexAt (sz := 3) (show Oper.op _ = Op.indexAddr 41 (Operand.tmp 43) (Operand.tmp 44) from rfl) (by rfl) (by rfl) Tryz.underlying41 (by kernel_rfl) (by omega)) (by rfl) (by rfl) ?_
        refine Ls.ev (some 46) (Ev.loadEl (enc := FiP.enc) (sz := 3) (show Oper.op _ = Op.load 88 (Operand.tmp 45) from rfl) (by rfl) (ReadsIn.rd 4 (by rfl)) (by kernel_rfl) (fun _ => rfl) hx) (by rfl) (by rfl) ?_
        refine Ls.does (some 47) (Does.lit (sz := 3) (show Oper.op _ = Op.buildSlice 41 1 #[(0, Operand.tmp 46)] from rfl) (by rfl) Tryz.underlying41 (by kernel_rfl) (by rfl) (by kernel_rfl)) (by rfl) (by rfl) ?_
        intro g4 _
        refine Ls.does (some 48) (Does.app (xs := (fs.take k).flatMap FiP.enc) (news := x.enc) 1 (show Oper.op _ = Op.call { callee := Callee.builtin Builtin.append, args := #[Operand.tmp 41, Operand.tmp 47], argTypes := #[41, 41] } from rfl) (by rfl) (by rfl) (by rfl) (ReadsIn.row 0 (by rfl)) elem_fi (by simpa using one_fi [x]) (show ((fs.take k).length + 1) * 40 ≤ 140737488355328 by omega)) (by rfl) (by rfl) ?_
        rintro q -
        rw [rowF_snoc q.1 q.2 (fs.take k) x]
        refine Ls.ev (some 5) (Ev.assign (show Oper.op _ = Op.assign (Operand.tmp 48) from rfl) (by rfl)) (by rfl) (by rfl) ?_
        refine Ls.nil ?_
        refine Cd.region ?_
        refine Ls.ev (some 13) (Ev.move (show Oper.op _ = Op.move (Operand.tmp 7) from rfl) (by rfl)) (by rfl) (by rfl) ?_
        refine Ls.ev (some 14) (Ev.addN (b := 1) (show Oper.op _ = Op.binOp BinOp.add 3 (Operand.tmp 13) (Operand.const (Value.int IntKind.i64 1)) 3 from rfl) (by rfl) (by rfl) (by omega)) (by rfl) (by rfl) ?_
        refine Ls.ev (some 7) (Ev.assign (show Oper.op _ = Op.assign (Operand.tmp 14) from rfl) (by rfl)) (by rfl) (by rfl) ?_
        refine Ls.nil ?_
        refine Ent.pick [1, 2, 3, 4, 5] (by rfl) ?_
        refine Ent.inv ((k + 1, false, q.1, q.2, fs.take k ++ [x])) ?_ ?_ ?_
        · (try dsimp only); exact ⟨⟨hlt, by rw [List.length_append, List.length_singleton]; omega, fun _ => ⟨htk.symm, fun y hy => by rw [htk] at hy; rcases List.mem_append.1 hy with hy | hy; exact hF2 y hy; exact (List.mem_singleton.1 hy) ▸ hxn⟩, fun e => by cases e⟩, by omega⟩
        · (repeat (first | exact trivial | refine ⟨by rfl, ?_⟩ | refine ⟨by simp only [List.length_append, List.length_cons, List.length_nil]; rfl, ?_⟩ | refine ⟨by push_cast; rfl, ?_⟩ | refine ⟨by (show some (Value.slice _ _ _) = some (Value.slice _ _ _); rw [List.length_append]; rfl), ?_⟩))
        · rfl
      · have hput : putG FiP.nm (⟨nm, b, sy⟩ : FiP) fs = fs.take k ++ putG FiP.nm (⟨nm, b, sy⟩ : FiP) (x :: fs.drop (k + 1)) := by
          rw [← hdk, ← putG_from (nm := FiP.nm) (f := (⟨nm, b, sy⟩ : FiP)) (fs.drop k) hF2, List.take_append_drop]
        have hgt : ∀ y ∈ fs.drop (k + 1), x.nm < y.nm := fun y hy => by
          have h1 : Rise FiP.nm (fs.drop k) := List.Pairwise.sublist (List.drop_sublist _ _) hr
          rw [hdk] at h1
          exact h1.head y hy
        skip
        refine Cd.skip ?_
        refine Cd.seq ?_
        refine Cd.block ?_
        refine Cd.seq ?_
        refine Cd.seq ?_
        refine Cd.draw [] (by kernel_rfl) ?_
        refine Rg.ev 0 (by rfl) (fun _ h => h) (Ev.move (show Oper.op _ = Op.move (Operand.tmp 6) from rfl) (by rfl)) (by rfl) (some 15) (by rfl) (by kernel_rfl) (by kernel_rfl) (by kernel_rfl) (by kernel_rfl) ?_
        refine Rg.ev 1 (by rfl) (fun _ h => h) (Ev.not (show Oper.op _ = Op.unOp UnOp.not 4 (Operand.tmp 15) from rfl) (by rfl)) (by rfl) (some 16) (by rfl) (by kernel_rfl) (by kernel_rfl) (by kernel_rfl) (by kernel_rfl) ?_
        refine Rg.ev 2 (by rfl) (fun _ h => h) (Ev.move (show Oper.op _ = Op.move (Operand.tmp 16) from rfl) (by rfl)) (by rfl) (some 17) (by rfl) (by kernel_rfl) (by kernel_rfl) (by kernel_rfl) (by kernel_rfl) ?_
        refine Ent.known 17 true (by rfl) (by exact (rfl)) ?_
        refine Rg.ev 3 (by rfl) (fun _ h => h) (Ev.fieldAddr (k := 0) (show Oper.op _ = Op.fieldAddr 88 (Operand.tmp 3) 0 from rfl) (by rfl) (by kernel_rfl) (by rfl)) (by rfl) (some 18) (by rfl) (by kernel_rfl) (by kernel_rfl) (by kernel_rfl) (by kernel_rfl) ?_
        refine Rg.ev 4 (by rfl) (fun _ h => h) (Ev.load 2 (show Oper.op _ = Op.load 9 (Operand.tmp 18) from rfl) (by rfl) (by rfl) (by kernel_rfl) (by rfl)) (by rfl) (some 19) (by rfl) (by kernel_rfl) (by kernel_rfl) (by kernel_rfl) (by kernel_rfl) ?_
        refine Rg.ev 5 (by rfl) (fun _ h => h) (Ev.fieldAddr (k := 0) (show Oper.op _ = Op.fieldAddr 43 (Operand.tmp 2) 0 from rfl) (by rfl) (by kernel_rfl) (by rfl)) (by rfl) (some 20) (by rfl) (by kernel_rfl) (by kernel_rfl) (by kernel_rfl) (by kernel_rfl) ?_
        refine Rg.ev 6 (by rfl) (fun _ h => h) (Ev.load 1 (show Oper.op _ = Op.load 41 (Operand.tmp 20) from rfl) (by rfl) (by rfl) (by kernel_rfl) (by rfl)) (by rfl) (some 21) (by rfl) (by kernel_rfl) (by kernel_rfl) (by kernel_rfl) (by kernel_rfl) ?_
        refine Rg.ev 7 (by rfl) (fun _ h => h) (Ev.move (show Oper.op _ = Op.move (Operand.tmp 7) from rfl) (by rfl)) (by rfl) (some 22) (by rfl) (by kernel_rfl) (by kernel_rfl) (by kernel_rfl) (by kernel_rfl) ?_
        refine Rg.ev 8 (by rfl) (fun _ h => h) (Ev.indexAt (sz := 3) (show Oper.op _ = Op.indexAddr 41 (Operand.tmp 21) (Operand.tmp 22) from rfl) (by rfl) (by rfl) Tryz.underlying41 (by kernel_rfl) (by omega)) (by rfl) (some 23) (by rfl) (by kernel_rfl) (by kernel_rfl) (by kernel_rfl) (by kernel_rfl) ?_
        refine Rg.ev 9 (by rfl) (fun _ h => h) (Ev.fieldAddrE0 (k := 0) (show Oper.op _ = Op.fieldAddr 88 (Operand.tmp 23) 0 from rfl) (by rfl) (by kernel_rfl)) (by rfl) (some 24) (by rfl) (by kernel_rfl) (by kernel_rfl) (by kernel_rfl) (by kernel_rfl) ?_
        refine Rg.ev 10 (by rfl) (fun _ h => h) (Ev.loadElF (show Oper.op _ = Op.load 9 (Operand.tmp 24) from rfl) (by rfl) (ReadsIn.rd 4 (by rfl)) (by kernel_rfl) (by intro _; rfl) (by assumption) (by rfl)) (by rfl) (some 25) (by rfl) (by kernel_rfl) (by kernel_rfl) (by kernel_rfl) (by kernel_rfl) ?_
        refine Rg.ev 11 (by rfl) (fun _ h => h) (Ev.leqT (show Oper.op _ = Op.binOp BinOp.leq 9 (Operand.tmp 19) (Operand.tmp 25) 9 from rfl) (by rfl) (by rfl)) (by rfl) (some 26) (by rfl) (by kernel_rfl) (by kernel_rfl) (by kernel_rfl) (by kernel_rfl) ?_
        refine Rg.ev 12 (by rfl) (fun _ h => h) (Ev.pickT (show Oper.op _ = Op.pick (Operand.tmp 17) (Operand.tmp 26) (Operand.const (Value.bool false)) from rfl) (by rfl) (by rfl)) (by rfl) (some 27) (by rfl) (by kernel_rfl) (by kernel_rfl) (by kernel_rfl) (by kernel_rfl) ?_
        refine Rg.done (by kernel_rfl) ?_ _
        refine Cd.cond_true (by rfl) (decide_eq_true (show nm ≤ x.nm from hxn)) ?_
        refine Cd.seq ?_
        refine Cd.region ?_
        refine Ls.ev (some 28) (Ev.move (show Oper.op _ = Op.move (Operand.tmp 5) from rfl) (by rfl)) (by rfl) (by rfl) ?_
        refine Ls.ev (some 29) (Ev.loads 2 (show Oper.op _ = Op.load 88 (Operand.tmp 3) from rfl) (by rfl) (by rfl) (n := 3) (by kernel_rfl) (by rfl) (by rfl)) (by rfl) (by rfl) ?_
        refine Ls.does (some 30) (Does.lit (sz := 3) (show Oper.op _ = Op.buildSlice 41 1 #[(0, Operand.tmp 29)] from rfl) (by rfl) Tryz.underlying41 (by kernel_rfl) (by rfl) (by kernel_rfl)) (by rfl) (by rfl) ?_
        intro g4 _
        refine Ls.does (some 31) (Does.app (xs := (fs.take k).flatMap FiP.enc) (news := (⟨nm, b, sy⟩ : FiP).enc) 1 (show Oper.op _ = Op.call { callee := Callee.builtin Builtin.append, args := #[Operand.tmp 28, Operand.tmp 30], argTypes := #[41, 41] } from rfl) (by rfl) (by rfl) (by rfl) (ReadsIn.row 0 (by rfl)) elem_fi (one_fi [(⟨nm, b, sy⟩ : FiP)]) (show ((fs.take k).length + 1) * 40 ≤ 140737488355328 by rw [List.length_take]; omega)) (by rfl) (by rfl) ?_
        rintro p -
        rw [rowF_snoc p.1 p.2 (fs.take k) (⟨nm, b, sy⟩ : FiP)]
        refine Ls.ev (some 5) (Ev.assign (show Oper.op _ = Op.assign (Operand.tmp 31) from rfl) (by rfl)) (by rfl) (by rfl) ?_
        refine Ls.nil ?_
        refine Cd.region ?_
        refine Ls.ev (some 6) (Ev.assign (show Oper.op _ = Op.assign (Operand.const (Value.bool true)) from rfl) (by rfl)) (by rfl) (by rfl) ?_
        refine Ls.nil ?_
        refine Cd.seq ?_
        refine Cd.draw [] (by kernel_rfl) ?_
        refine Rg.ev 0 (by rfl) (fun _ h => h) (Ev.fieldAddr (k := 0) (show Oper.op _ = Op.fieldAddr 43 (Operand.tmp 2) 0 from rfl) (by rfl) (by kernel_rfl) (by rfl)) (by rfl) (some 32) (by rfl) (by kernel_rfl) (by kernel_rfl) (by kernel_rfl) (by kernel_rfl) ?_
        refine Rg.ev 1 (by rfl) (fun _ h => h) (Ev.load 2 (show Oper.op _ = Op.load 41 (Operand.tmp 32) from rfl) (by rfl) (by rfl) (by kernel_rfl) (by rfl)) (by rfl) (some 33) (by rfl) (by kernel_rfl) (by kernel_rfl) (by kernel_rfl) (by kernel_rfl) ?_
        refine Rg.ev 2 (by rfl) (fun _ h => h) (Ev.move (show Oper.op _ = Op.move (Operand.tmp 7) from rfl) (by rfl)) (by rfl) (some 34) (by rfl) (by kernel_rfl) (by kernel_rfl) (by kernel_rfl) (by kernel_rfl) ?_
        refine Rg.ev 3 (by rfl) (fun _ h => h) (Ev.indexAt (sz := 3) (show Oper.op _ = Op.indexAddr 41 (Operand.tmp 33) (Operand.tmp 34) from rfl) (by rfl) (by rfl) Tryz.underlying41 (by kernel_rfl) (by omega)) (by rfl) (some 35) (by rfl) (by kernel_rfl) (by kernel_rfl) (by kernel_rfl) (by kernel_rfl) ?_
        refine Rg.ev 4 (by rfl) (fun _ h => h) (Ev.fieldAddrE0 (k := 0) (show Oper.op _ = Op.fieldAddr 88 (Operand.tmp 35) 0 from rfl) (by rfl) (by kernel_rfl)) (by rfl) (some 36) (by rfl) (by kernel_rfl) (by kernel_rfl) (by kernel_rfl) (by kernel_rfl) ?_
        refine Rg.ev 5 (by rfl) (fun _ h => h) (Ev.loadElF (show Oper.op _ = Op.load 9 (Operand.tmp 36) from rfl) (by rfl) (ReadsIn.rd 5 (by rfl)) (by kernel_rfl) (by intro _; rfl) (by assumption) (by rfl)) (by rfl) (some 37) (by rfl) (by kernel_rfl) (by kernel_rfl) (by kernel_rfl) (by kernel_rfl) ?_
        refine Rg.ev 6 (by rfl) (fun _ h => h) (Ev.fieldAddr (k := 0) (show Oper.op _ = Op.fieldAddr 88 (Operand.tmp 3) 0 from rfl) (by rfl) (by kernel_rfl) (by rfl)) (by rfl) (some 38) (by rfl) (by kernel_rfl) (by kernel_rfl) (by kernel_rfl) (by kernel_rfl) ?_
        refine Rg.ev 7 (by rfl) (fun _ h => h) (Ev.load 3 (show Oper.op _ = Op.load 9 (Operand.tmp 38) from rfl) (by rfl) (by rfl) (by kernel_rfl) (by rfl)) (by rfl) (some 39) (by rfl) (by kernel_rfl) (by kernel_rfl) (by kernel_rfl) (by kernel_rfl) ?_
        refine Rg.ev 8 (by rfl) (fun _ h => h) (Ev.neqS (show Oper.op _ = Op.binOp BinOp.neq 9 (Operand.tmp 37) (Operand.tmp 39) 9 from rfl) (by rfl) (by rfl)) (by rfl) (some 40) (by rfl) (by kernel_rfl) (by kernel_rfl) (by kernel_rfl) (by kernel_rfl) ?_
        refine Rg.done (by kernel_rfl) ?_ _
        by_cases hxe : x.nm = nm
        · skip
          rw [putG, if_neg hxn, if_pos hxe] at hput
          refine Cd.cond_false (by rfl) (decide_eq_false (show ¬ (txt x.nm ≠ txt nm) from fun h => h (txt_eq_iff.2 hxe))) ?_
          refine Cd.skip ?_
          refine Cd.region ?_
          refine Ls.ev (some 13) (Ev.move (show Oper.op _ = Op.move (Operand.tmp 7) from rfl) (by rfl)) (by rfl) (by rfl) ?_
          refine Ls.ev (some 14) (Ev.addN (b := 1) (show Oper.op _ = Op.binOp BinOp.add 3 (Operand.tmp 13) (Operand.const (Value.int IntKind.i64 1)) 3 from rfl) (by rfl) (by rfl) (by omega)) (by rfl) (by rfl) ?_
          refine Ls.ev (some 7) (Ev.assign (show Oper.op _ = Op.assign (Operand.tmp 14) from rfl) (by rfl)) (by rfl) (by rfl) ?_
          refine Ls.nil ?_
          refine Ent.pick [1, 2, 3, 4, 5] (by rfl) ?_
          refine Ent.inv ((k + 1, true, p.1, p.2, fs.take k ++ [(⟨nm, b, sy⟩ : FiP)])) ?_ ?_ ?_
          · (try dsimp only); exact ⟨⟨hlt, by rw [List.length_append, List.length_singleton, List.length_take]; omega, fun e => (by cases e), fun _ => ⟨by rw [hput, List.append_assoc]; rfl, fun y hy => hxe ▸ hgt y hy⟩⟩, by omega⟩
          · (repeat (first | exact trivial | refine ⟨by rfl, ?_⟩ | refine ⟨by simp only [List.length_append, List.length_cons, List.length_nil]; rfl, ?_⟩ | refine ⟨by push_cast; rfl, ?_⟩ | refine ⟨by (show some (Value.slice _ _ _) = some (Value.slice _ _ _); rw [List.length_append]; rfl), ?_⟩))
          · rfl
        · skip
          rw [putG, if_neg hxn, if_neg hxe] at hput
          have hfl : (fs.take k ++ [(⟨nm, b, sy⟩ : FiP)]).length ≤ k + 1 := by rw [List.length_append, List.length_singleton, List.length_take]; omega
          have hlx : nm < x.nm := ((lt_tri x.nm nm).resolve_left hxn).resolve_left hxe
          refine Cd.cond_true (by rfl) (decide_eq_true (show txt x.nm ≠ txt nm from fun e => hxe (txt_eq_iff.1 e))) ?_
          refine Ent.pick [1, 2, 3, 4, 5] (by rfl) ?_
          refine Ent.norm ([(2, .pointer (some ⟨g1, 0, none⟩)), (3, .pointer (some ⟨g2, 0, none⟩)), (4, .pointer (some ⟨g3, 0, none⟩)), (5, .slice p.1 (fs.take k ++ [(⟨nm, b, sy⟩ : FiP)]).length p.2), (6, .bool true), (7, .int .i64 k)]) ([rowF p.1 p.2 (fs.take k ++ [(⟨nm, b, sy⟩ : FiP)]), blk g1 43 [.slice (some ad) fs.length c, .int .i64 steps, .bool left.isSome, .int .i64 ((left.getD 0 : Nat) : Int)], blk g2 88 [.string (txt nm), .string (txt b), .int .i64 sy], blk g3 43 [.slice none 0 0, .int .i64 0, .bool false, .int .i64 0], rdF (some ad) fs]) (by repeat (first | refine ⟨by (show some (Value.slice _ _ _) = some (Value.slice _ _ _); rw [List.length_append]; rfl), ?_⟩ | exact trivial | refine ⟨by rfl, ?_⟩ | refine ⟨by simp only [List.length_append, List.length_cons, List.length_nil]; rfl, ?_⟩ | refine ⟨by push_cast; rfl, ?_⟩)) (by rfl) ?_
          refine Cd.region ?_
          refine Ls.ev (some 41) (Ev.move (show Oper.op _ = Op.move (Operand.tmp 5) from rfl) (by rfl)) (by rfl) (by rfl) ?_
          refine Ls.ev (some 42) (Ev.fieldAddr (k := 0) (show Oper.op _ = Op.fieldAddr 43 (Operand.tmp 2) 0 from rfl) (by rfl) (by kernel_rfl) (by rfl)) (by rfl) (by rfl) ?_
          refine Ls.ev (some 43) (Ev.load 1 (show Oper.op _ = Op.load 41 (Operand.tmp 42) from rfl) (by rfl) (by rfl) (by kernel_rfl) (by rfl)) (by rfl) (by rfl) ?_
          refine Ls.ev (some 44) (Ev.move (show Oper.op _ = Op.move (Operand.tmp 7) from rfl) (by rfl)) (by rfl) (by rfl) ?_
          refine Ls.ev (some 45) (Ev.indexAt (sz := 3) (show Oper.op _ = Op.indexAddr 41 (Operand.tmp 43) (Operand.tmp 44) from rfl) (by rfl) (by rfl) Tryz.underlying41 (by kernel_rfl) (by omega)) (by rfl) (by rfl) ?_
          refine Ls.ev (some 46) (Ev.loadEl (enc := FiP.enc) (sz := 3) (show Oper.op _ = Op.load 88 (Operand.tmp 45) from rfl) (by rfl) (ReadsIn.rd 4 (by rfl)) (by kernel_rfl) (fun _ => rfl) hx) (by rfl) (by rfl) ?_
          refine Ls.does (some 47) (Does.lit (sz := 3) (show Oper.op _ = Op.buildSlice 41 1 #[(0, Operand.tmp 46)] from rfl) (by rfl) Tryz.underlying41 (by kernel_rfl) (by rfl) (by kernel_rfl)) (by rfl) (by rfl) ?_
          intro g5 _
          refine Ls.does (some 48) (Does.app (xs := (fs.take k ++ [(⟨nm, b, sy⟩ : FiP)]).flatMap FiP.enc) (news := x.enc) 1 (show Oper.op _ = Op.call { callee := Callee.builtin Builtin.append, args := #[Operand.tmp 41, Operand.tmp 47], argTypes := #[41, 41] } from rfl) (by rfl) (by rfl) (by rfl) (ReadsIn.row 0 (by rfl)) elem_fi (by simpa using one_fi [x]) (show ((fs.take k ++ [(⟨nm, b, sy⟩ : FiP)]).length + 1) * 40 ≤ 140737488355328 by omega)) (by rfl) (by rfl) ?_
          rintro q -
          rw [rowF_snoc q.1 q.2 (fs.take k ++ [(⟨nm, b, sy⟩ : FiP)]) x]
          refine Ls.ev (some 5) (Ev.assign (show Oper.op _ = Op.assign (Operand.tmp 48) from rfl) (by rfl)) (by rfl) (by rfl) ?_
          refine Ls.nil ?_
          refine Cd.region ?_
          refine Ls.ev (some 13) (Ev.move (show Oper.op _ = Op.move (Operand.tmp 7) from rfl) (by rfl)) (by rfl) (by rfl) ?_
          refine Ls.ev (some 14) (Ev.addN (b := 1) (show Oper.op _ = Op.binOp BinOp.add 3 (Operand.tmp 13) (Operand.const (Value.int IntKind.i64 1)) 3 from rfl) (by rfl) (by rfl) (by omega)) (by rfl) (by rfl) ?_
          refine Ls.ev (some 7) (Ev.assign (show Oper.op _ = Op.assign (Operand.tmp 14) from rfl) (by rfl)) (by rfl) (by rfl) ?_
          refine Ls.nil ?_
          refine Ent.pick [1, 2, 3, 4, 5] (by rfl) ?_
          refine Ent.inv ((k + 1, true, q.1, q.2, fs.take k ++ [(⟨nm, b, sy⟩ : FiP)] ++ [x])) ?_ ?_ ?_
          · (try dsimp only); exact ⟨⟨hlt, by rw [List.length_append, List.length_append, List.length_singleton, List.length_singleton, List.length_take]; omega, fun e => (by cases e), fun _ => ⟨by rw [hput, List.append_assoc, List.append_assoc]; rfl, fun y hy => List.lt_trans hlx (hgt y hy)⟩⟩, by omega⟩
          · (repeat (first | exact trivial | refine ⟨by rfl, ?_⟩ | refine ⟨by simp only [List.length_append, List.length_cons, List.length_nil]; rfl, ?_⟩ | refine ⟨by push_cast; rfl, ?_⟩ | refine ⟨by (show some (Value.slice _ _ _) = some (Value.slice _ _ _); rw [List.length_append]; rfl), ?_⟩))
          · rfl
  · skip
    have hge : fs.length ≤ k := by have := of_decide_eq_false h; omega
    refine Cd.exit ?_
    refine Cd.seq ?_
    refine Cd.seq ?_
    refine Cd.region ?_
    refine Ls.ev (some 49) (Ev.move (show Oper.op _ = Op.move (Operand.tmp 6) from rfl) (by rfl)) (by rfl) (by rfl) ?_
    refine Ls.ev (some 50) (Ev.not (show Oper.op _ = Op.unOp UnOp.not 4 (Operand.tmp 49) from rfl) (by rfl)) (by rfl) (by rfl) ?_
    refine Ls.nil ?_
    cases pt with
    | true =>
      obtain ⟨hT1, -⟩ := hT rfl
      rw [List.drop_of_length_le hge, List.append_nil] at hT1
      skip
      refine Cd.cond_false (by rfl) (rfl) ?_
      refine Cd.skip ?_
      refine Cd.seq ?_
      refine Cd.region ?_
      refine Ls.ev (some 55) (Ev.move (show Oper.op _ = Op.move (Operand.tmp 5) from rfl) (by rfl)) (by rfl) (by rfl) ?_
      refine Ls.ev (some 56) (Ev.fieldAddr (k := 0) (show Oper.op _ = Op.fieldAddr 43 (Operand.tmp 2) 0 from rfl) (by rfl) (by kernel_rfl) (by rfl)) (by rfl) (by rfl) ?_
      refine Ls.does none (Does.store 1 (show Oper.op _ = Op.store 41 (Operand.tmp 56) (Operand.tmp 55) from rfl) (by rfl) (by rfl) (by rfl) (by kernel_rfl) (by rfl) (by kernel_rfl) (by rfl)) (by rfl) (by rfl) ?_
      intro _ _
      refine Ls.nil ?_
      refine Cd.seq ?_
      refine Cd.region ?_
      refine Ls.ev (some 57) (Ev.loads 1 (show Oper.op _ = Op.load 43 (Operand.tmp 2) from rfl) (by rfl) (by rfl) (n := 4) (by kernel_rfl) (by rfl) (by rfl)) (by rfl) (by rfl) ?_
      refine Ls.does none (Does.store 3 (show Oper.op _ = Op.store 43 (Operand.tmp 4) (Operand.tmp 57) from rfl) (by rfl) (by rfl) (by rfl) (by kernel_rfl) (by rfl) (by kernel_rfl) (by rfl)) (by rfl) (by rfl) ?_
      intro _ _
      refine Ls.nil ?_
      rw [← hT1]
      refine Cd.ret ?_
      refine Ent.ret ((wA, wc)) (trivial) (Res.cell 3 (by rfl) (by rfl) (by rfl) (n := 4) (by kernel_rfl) (by rfl) (by rfl)) ?_ [0] (by rfl) ?_
      · rfl
      · rfl
    | false =>
      obtain ⟨rfl, hF2⟩ := hF rfl
      rw [List.take_of_length_le hge] at hF2 ⊢
      have hput : putG FiP.nm (⟨nm, b, sy⟩ : FiP) fs = fs ++ [(⟨nm, b, sy⟩ : FiP)] := by
        have := putG_from (nm := FiP.nm) (f := (⟨nm, b, sy⟩ : FiP)) [] hF2
        rw [List.append_nil] at this
        exact this
      skip
      refine Cd.cond_true (by rfl) (rfl) ?_
      refine Cd.region ?_
      refine Ls.ev (some 51) (Ev.move (show Oper.op _ = Op.move (Operand.tmp 5) from rfl) (by rfl)) (by rfl) (by rfl) ?_
      refine Ls.ev (some 52) (Ev.loads 2 (show Oper.op _ = Op.load 88 (Operand.tmp 3) from rfl) (by rfl) (by rfl) (n := 3) (by kernel_rfl) (by rfl) (by rfl)) (by rfl) (by rfl) ?_
      refine Ls.does (some 53) (Does.lit (sz := 3) (show Oper.op _ = Op.buildSlice 41 1 #[(0, Operand.tmp 52)] from rfl) (by rfl) Tryz.underlying41 (by kernel_rfl) (by rfl) (by kernel_rfl)) (by rfl) (by rfl) ?_
      intro g4 _
      refine Ls.does (some 54) (Does.app (xs := fs.flatMap FiP.enc) (news := (⟨nm, b, sy⟩ : FiP).enc) 1 (show Oper.op _ = Op.call { callee := Callee.builtin Builtin.append, args := #[Operand.tmp 51, Operand.tmp 53], argTypes := #[41, 41] } from rfl) (by rfl) (by rfl) (by rfl) (ReadsIn.row 0 (by rfl)) elem_fi (one_fi [(⟨nm, b, sy⟩ : FiP)]) (show (fs.length + 1) * 40 ≤ 140737488355328 by omega)) (by rfl) (by rfl) ?_
      rintro p -
      rw [rowF_snoc p.1 p.2 fs (⟨nm, b, sy⟩ : FiP)]
      refine Ls.ev (some 5) (Ev.assign (show Oper.op _ = Op.assign (Operand.tmp 54) from rfl) (by rfl)) (by rfl) (by rfl) ?_
      refine Ls.nil ?_
      refine Cd.seq ?_
      refine Cd.region ?_
      refine Ls.ev (some 55) (Ev.move (show Oper.op _ = Op.move (Operand.tmp 5) from rfl) (by rfl)) (by rfl) (by rfl) ?_
      refine Ls.ev (some 56) (Ev.fieldAddr (k := 0) (show Oper.op _ = Op.fieldAddr 43 (Operand.tmp 2) 0 from rfl) (by rfl) (by kernel_rfl) (by rfl)) (by rfl) (by rfl) ?_
      refine Ls.does none (Does.store 2 (show Oper.op _ = Op.store 41 (Operand.tmp 56) (Operand.tmp 55) from rfl) (by rfl) (by rfl) (by rfl) (by kernel_rfl) (by rfl) (by kernel_rfl) (by rfl)) (by rfl) (by rfl) ?_
      intro _ _
      refine Ls.nil ?_
      refine Cd.seq ?_
      refine Cd.region ?_
      refine Ls.ev (some 57) (Ev.loads 2 (show Oper.op _ = Op.load 43 (Operand.tmp 2) from rfl) (by rfl) (by rfl) (n := 4) (by kernel_rfl) (by rfl) (by rfl)) (by rfl) (by rfl) ?_
      refine Ls.does none (Does.store 4 (show Oper.op _ = Op.store 43 (Operand.tmp 4) (Operand.tmp 57) from rfl) (by rfl) (by rfl) (by rfl) (by kernel_rfl) (by rfl) (by kernel_rfl) (by rfl)) (by rfl) (by rfl) ?_
      intro _ _
      refine Ls.nil ?_
      rw [hput]
      refine Cd.ret ?_
      refine Ent.ret (p) (trivial) (Res.cell 4 (by rfl) (by rfl) (by rfl) (n := 4) (by kernel_rfl) (by rfl) (by rfl)) ?_ [1] (by rfl) ?_
      · rw [List.length_append]
        rfl
      · rfl
end Go.Proofs.YtceanciekadkeaaGreatDoor
/- drives: names told -/
namespace Go.Proofs.YtceanciekadkeaaGreatDoor
open Go.RowKit
abbrev txts (l : List (List UInt8)) : List Value := strs (l.map txt)
theorem sat_one {w w' : World} {H : List Chunk} {C : Chunk} (hb : Below w.heap.size w w') (h : C.holds w') (hf : ∀ k, C.foot k → w.heap.size ≤ k) : Sat ⟨w, H⟩ [C] w' :=
  ⟨Upd.of_below hb, ⟨fun D hD => by
    obtain rfl : D = C := by simpa using hD
    exact h, List.pairwise_singleton _ _⟩, fun D hD => by
    obtain rfl : D = C := by simpa using hD
    intro k hk hlt
    have := hf k hk
    dsimp only at hlt
    omega⟩
theorem keys_sl (m : Nat) : Fn Tryz.prog 65 #[.map (some m)] [] Nat (fun g => .func (.func 85) #[] #[.pointer (some ⟨g, 0, none⟩)]) (fun g => [blk g 65 [.map (some m)]]) (fun _ => True) := fun w _ => by
  refine (Tryz.maps_Keys (some m) w).mono ?_
  rintro e w' ⟨rfl, rfl⟩
  exact ⟨w.heap.size, trivial, rfl, sat_one (Below.alloc (Below.refl _ _) (Nat.le_refl _) _) (Blk.new w _ _) (fun k hk => Nat.le_of_eq hk.symm)⟩
theorem sorted_sl {D : DrS} {P : DrP} (h : Drv D P) (g : Nat) : Fn Tryz.prog 64 #[.func (.func 85) #[] #[.pointer (some ⟨g, 0, none⟩)]] [rblk g 65 [.map (some D.m)], D.rM] (Option Addr × Nat) (fun p => .slice p.1 P.fs.length p.2) (fun p => [row p.1 P.fs.length p.2 9 1 (txts (P.fs.map FiP.nm))]) (fun _ => True) := fun w hs => by
  have hb : Blk w g 65 #[.map (some D.m)] := hs.1 _ List.mem_cons_self
  obtain ⟨D0, hown, hnd, hh, _⟩ := (hs.1 _ (List.mem_cons_of_mem _ List.mem_cons_self) : MapT w Tryz.prog 9 D.m (.pointer none) (D.fs.map FiS.nm) (ptrF D.fs))
  obtain ⟨hp, hsz⟩ := perm_of hown Tryz.underlying9 hnd hh
  have hn := h.ok.len
  rw [List.length_map, h.len] at hsz
  refine (Tryz.slices_Sorted_keys g D.m _ D0 asIs w hb.lt (by simpa using hb.cell 0) hown (by unfold maxLen; omega) (by omega)).mono ?_
  rintro e w' ⟨v, ss, rfl, hS, hrow, _, hbl⟩
  have h1 : ss.mergeSort (fun x y => decide (x ≤ y)) = P.fs.map FiP.nm := by
    rw [mergeSort_of_perm (hS.trans hp.symm), h.names]
    exact rise_sorted (List.pairwise_map.2 h.ok.rise)
  have h2 : ss.length = P.fs.length := by rw [(hS.trans hp.symm).length_eq, List.length_map, h.len]
  rw [h1, h2] at hrow
  have h3 : (P.fs.map FiP.nm).map encStr = txts (P.fs.map FiP.nm) := by
    unfold txts strs
    rw [List.map_map, List.map_map, List.map_map]
    rfl
  rw [h3] at hrow
  obtain ⟨A, c, rfl⟩ : ∃ A c, v = .slice A P.fs.length c := by
    rcases hrow.2 with ⟨rfl, h0⟩ | ⟨g', cap, cur, rfl, _⟩
    · exact ⟨none, 0, by rw [h0]⟩
    · exact ⟨_, _, rfl⟩
  exact ⟨(A, c), trivial, rfl, sat_row hrow hbl⟩
theorem names_sl {D : DrS} {P : DrP} (h : Drv D P) : Fn Tryz.prog 44 #[D.ptr] [D.rB, D.rM] (Option Addr × Nat) (fun p => .slice p.1 P.fs.length p.2) (fun p => [row p.1 P.fs.length p.2 9 1 (txts (P.fs.map FiP.nm))]) (fun _ => True) := by
  refine Fn.enter Tryz.func44 rfl Tryz.ntmps44 (by rfl) ?_
  intro w0
  skip
  refine Cd.seq ?_
  refine Cd.region ?_
  refine Ls.ev (some 2) (Ev.assign (show Oper.op _ = Op.assign (Operand.const (Value.slice none 0 0)) from rfl) (by rfl)) (by rfl) (by rfl) ?_
  refine Ls.nil ?_
  refine Cd.seq ?_
  refine Cd.region ?_
  refine Ls.ev (some 3) (Ev.move (show Oper.op _ = Op.move (Operand.tmp 0) from rfl) (by rfl)) (by rfl) (by rfl) ?_
  refine Ls.ev (some 4) (Ev.nilCheck (show Oper.op _ = Op.nilCheck (Operand.tmp 3) from rfl) (by rfl)) (by rfl) (by rfl) ?_
  refine Ls.ev (some 5) (Ev.fieldAddr (k := 0) (show Oper.op _ = Op.fieldAddr 67 (Operand.tmp 4) 0 from rfl) (by rfl) (by kernel_rfl) (by rfl)) (by rfl) (by rfl) ?_
  refine Ls.ev (some 6) (Ev.loadB 0 (show Oper.op _ = Op.load 65 (Operand.tmp 5) from rfl) (by rfl) (by rfl) (by kernel_rfl) (by rfl)) (by rfl) (by rfl) ?_
  refine Ls.does (some 7) (Does.call [0, 1] (show Oper.op _ = Op.call { callee := Callee.value (Operand.func 65), args := #[Operand.tmp 6], argTypes := #[65] } from rfl) Tryz.func65 (by kernel_rfl) (by kernel_rfl) (keys_sl D.m) (by rfl) (by rfl) (by rfl)) (by rfl) (by rfl) ?_
  rintro g -
  refine Ent.seeBlk 0 (by rfl) ?_
  skip
  refine Ls.does (some 8) (Does.call [0, 2] (show Oper.op _ = Op.call { callee := Callee.value (Operand.func 64), args := #[Operand.tmp 7], argTypes := #[114] } from rfl) Tryz.func64 (by kernel_rfl) (by kernel_rfl) (sorted_sl h g) (by rfl) (by rfl) (by rfl)) (by rfl) (by rfl) ?_
  rintro p -
  refine Ls.ev (some 2) (Ev.assign (show Oper.op _ = Op.assign (Operand.tmp 8) from rfl) (by rfl)) (by rfl) (by rfl) ?_
  refine Ls.nil ?_
  refine Cd.ret ?_
  refine Ent.ret (p) (trivial) (Res.tmp (by rfl) (by rfl)) ?_ [0] (by rfl) ?_
  · rfl
  · rfl
end Go.Proofs.YtceanciekadkeaaGreatDoor
/- the document over pieces: numbers in digits -/
namespace Go.Proofs.YtceanciekadkeaaGreatDoor
open Go.RowKit
abbrev in64 (n : Int) : Prop := -9223372036854775808 ≤ n ∧ n ≤ 9223372036854775807
theorem wrapI {n : Int} (h : in64 n) : IntKind.i64.wrap n = n := by
  rw [IntKind.wrap_i64]
  omega
theorem txt_app (a b : List UInt8) : txt a ++ txt b = txt (a ++ b) := by
  apply ByteArray.ext
  rw [ByteArray.data_append]
  exact List.append_toArray _ _
theorem txt_size (l : List UInt8) : (txt l).size = l.length := rfl
def digZ (m : Nat) : List UInt8 := if m = 0 then [] else Lib.decDigits m
theorem digZ_step {m : Nat} (h : m ≠ 0) : digZ m = digZ (m / 10) ++ [UInt8.ofNat (48 + m % 10)] := by
  unfold digZ
  rw [if_neg h, Lib.decDigits]
  split
  · rename_i h10
    rw [if_pos (by omega), List.nil_append, Nat.mod_eq_of_lt h10]
  · rw [if_neg (by omega)]
theorem digZ_len (m : Nat) (h : m < 18446744073709551616) : (digZ m).length ≤ 20 := by
  unfold digZ
  split
  · simp
  · rw [Lib.decDigits_length]
    exact Lib.nDigits_le20 m h
theorem u8nat {m : Nat} (h : m < 256) : (UInt8.ofNat m).toNat = m := by simp; omega
theorem dig_wrap (k : Nat) : IntKind.u8.wrap (48 + ((k % 10 : Nat) : Int)) = ((UInt8.ofNat (48 + k % 10)).toNat : Int) := by
  rw [u8nat (by omega)]
  have : (48 + ((k % 10 : Nat) : Int)) = ((48 + k % 10 : Nat) : Int) := by omega
  rw [this]
  generalize hm : 48 + k % 10 = m
  have h : m < 256 := by omega
  clear hm this
  unfold IntKind.wrap
  simp [IntKind.bits, IntKind.signed]
  omega
theorem digits_sl (n : Int) (hn : in64 n) : Fn Tryz.prog 35 #[.int .i64 n] [] Unit (fun _ => .string (txt (Lib.itoa n))) (fun _ => []) (fun _ => True) := by
  refine Fn.enter Tryz.func35 rfl Tryz.ntmps35 (by rfl) ?_
  intro w0
  refine Cd.seq ?_
  refine Cd.region ?_
  refine Ls.ev (some 2) (Ev.assign (show Oper.op _ = Op.assign (Operand.const (Value.string { data := #[] })) from rfl) (by rfl)) (by rfl) (by rfl) ?_
  refine Ls.nil ?_
  refine Cd.seq ?_
  refine Cd.seq ?_
  refine Cd.region ?_
  refine Ls.ev (some 6) (Ev.move (show Oper.op _ = Op.move (Operand.tmp 0) from rfl) (by rfl)) (by rfl) (by rfl) ?_
  refine Ls.ev (some 7) (Ev.eql (show Oper.op _ = Op.binOp BinOp.eql 3 (Operand.tmp 6) (Operand.const (Value.int IntKind.i64 0)) 3 from rfl) (by rfl) (by rfl)) (by rfl) (by rfl) ?_
  refine Ls.nil ?_
  refine Cd.cond _ (by rfl) (fun h2 => ?_) (fun h2 => ?_)
  · skip
    have h2 : n = 0 := of_decide_eq_true h2
    subst h2
    refine Cd.seq ?_
    refine Cd.region ?_
    refine Ls.ev (some 2) (Ev.assign (show Oper.op _ = Op.assign (Operand.const (Value.string { data := #[48] })) from rfl) (by rfl)) (by rfl) (by rfl) ?_
    refine Ls.nil ?_
    refine Cd.ret ?_
    refine Ent.ret (()) (trivial) (Res.tmp (by rfl) (by rfl)) ?_ [] (by rfl) ?_
    · exact congrArg (fun l => Value.string (txt l)) (show [48] = Lib.itoa 0 by kernel_rfl)
    · rfl
  skip
  have h2 : n ≠ 0 := of_decide_eq_false h2
  have hdl := digZ_len n.natAbs (by omega)
  refine Cd.skip ?_
  refine Cd.seq ?_
  refine Cd.region ?_
  refine Ls.ev (some 3) (Ev.assign (show Oper.op _ = Op.assign (Operand.const (Value.string { data := #[] })) from rfl) (by rfl)) (by rfl) (by rfl) ?_
  refine Ls.nil ?_
  refine Cd.seq ?_
  refine Cd.seq ?_
  refine Cd.region ?_
  refine Ls.ev (some 8) (Ev.move (show Oper.op _ = Op.move (Operand.tmp 0) from rfl) (by rfl)) (by rfl) (by rfl) ?_
  refine Ls.ev (some 4) (Ev.assign (show Oper.op _ = Op.assign (Operand.tmp 8) from rfl) (by rfl)) (by rfl) (by rfl) ?_
  refine Ls.nil ?_
  refine Cd.block ?_
  refine Cd.loop (ι := Int × List UInt8) (fun j => [(0, .int .i64 n), (3, .string (txt j.2)), (4, .int .i64 j.1)]) (fun _ => []) (fun j => in64 j.1 ∧ digZ n.natAbs = digZ j.1.natAbs ++ j.2) (fun j => j.1.natAbs) ((n, [])) (⟨hn, by simp⟩) ?_ rfl ?_
  · (repeat (first | exact trivial | refine ⟨by rfl, ?_⟩))
  rintro ⟨k, a⟩ ⟨hk, hdg⟩
  dsimp only at hk hdg ⊢
  have hal : a.length ≤ 20 := by
    have := congrArg List.length hdg
    rw [List.length_append] at this
    omega
  refine Cd.seq ?_
  refine Cd.seq ?_
  refine Cd.region ?_
  refine Ls.ev (some 9) (Ev.move (show Oper.op _ = Op.move (Operand.tmp 4) from rfl) (by rfl)) (by rfl) (by rfl) ?_
  refine Ls.ev (some 10) (Ev.neq (show Oper.op _ = Op.binOp BinOp.neq 3 (Operand.tmp 9) (Operand.const (Value.int IntKind.i64 0)) 3 from rfl) (by rfl) (by rfl)) (by rfl) (by rfl) ?_
  refine Ls.nil ?_
  refine Cd.cond _ (by rfl) (fun h3 => ?_) (fun h3 => ?_)
  · skip
    have h3 : k ≠ 0 := of_decide_eq_true h3
    have hm : (k.tmod 10).natAbs = k.natAbs % 10 := Int.natAbs_tmod k 10
    have hq : (k.tdiv 10).natAbs = k.natAbs / 10 := Int.natAbs_tdiv k 10
    refine Cd.skip ?_
    refine Cd.seq ?_
    refine Cd.block ?_
    refine Cd.seq ?_
    refine Cd.region ?_
    refine Ls.ev (some 13) (Ev.move (show Oper.op _ = Op.move (Operand.tmp 4) from rfl) (by rfl)) (by rfl) (by rfl) ?_
    refine Ls.ev (some 14) (Ev.rem (show Oper.op _ = Op.binOp BinOp.rem 3 (Operand.tmp 13) (Operand.const (Value.int IntKind.i64 10)) 3 from rfl) (by rfl) (by rfl) (by decide)) (by rfl) (by rfl) ?_
    refine Ls.ev (some 5) (Ev.assign (show Oper.op _ = Op.assign (Operand.tmp 14) from rfl) (by rfl)) (by rfl) (by rfl) ?_
    refine Ls.nil ?_
    refine Cd.seq ?_
    refine Cd.seq ?_
    refine Cd.region ?_
    refine Ls.ev (some 15) (Ev.move (show Oper.op _ = Op.move (Operand.tmp 5) from rfl) (by rfl)) (by rfl) (by rfl) ?_
    refine Ls.ev (some 16) (Ev.lss (show Oper.op _ = Op.binOp BinOp.lss 3 (Operand.tmp 15) (Operand.const (Value.int IntKind.i64 0)) 3 from rfl) (by rfl) (by rfl)) (by rfl) (by rfl) ?_
    refine Ls.nil ?_
    refine Cd.cut (ι := Unit) (fun _ => [(0, .int .i64 n), (3, .string (txt a)), (4, .int .i64 k), (5, .int .i64 ((k.natAbs % 10 : Nat) : Int))]) (fun _ => []) (fun _ => True) ?_ ?_
    · skip
      refine Cd.cond _ (by rfl) (fun h4 => ?_) (fun h4 => ?_)
      · skip
        have h4 := of_decide_eq_true h4
        refine Cd.region ?_
        refine Ls.ev (some 17) (Ev.move (show Oper.op _ = Op.move (Operand.tmp 5) from rfl) (by rfl)) (by rfl) (by rfl) ?_
        refine Ls.ev (some 18) (Ev.to (Ev.neg (show Oper.op _ = Op.unOp UnOp.neg 3 (Operand.tmp 17) from rfl) (by rfl)) (show Value.int .i64 (IntKind.i64.wrap (-(k.tmod 10))) = Value.int .i64 ((k.natAbs % 10 : Nat) : Int) by rw [wrapI (by omega)]; congr 1; omega)) (by rfl) (by rfl) ?_
        refine Ls.ev (some 5) (Ev.assign (show Oper.op _ = Op.assign (Operand.tmp 18) from rfl) (by rfl)) (by rfl) (by rfl) ?_
        refine Ls.nil ?_
        refine Ent.inv (()) ?_ ?_ ?_
        · (try dsimp only); skip
        · (repeat (first | exact trivial | refine ⟨by rfl, ?_⟩ | refine ⟨by simp only [List.length_append, List.length_cons, List.length_nil]; rfl, ?_⟩ | refine ⟨by push_cast; rfl, ?_⟩))
        · rfl
      · skip
        have h4 := of_decide_eq_false h4
        refine Cd.skip ?_
        refine Ent.inv (()) ?_ ?_ ?_
        · (try dsimp only); skip
        · (repeat (first | exact trivial | refine ⟨by rfl, ?_⟩ | refine ⟨by simp only [List.length_append, List.length_cons, List.length_nil]; rfl, ?_⟩ | refine ⟨by push_cast; rfl, ?_⟩ | refine ⟨by (show some (Value.int .i64 (k.tmod 10)) = some (Value.int .i64 ((k.natAbs % 10 : Nat) : Int)); congr 2; omega), ?_⟩))
        · rfl
    skip
    rintro _ -
    skip
    refine Cd.region ?_
    refine Ls.ev (some 19) (Ev.move (show Oper.op _ = Op.move (Operand.tmp 5) from rfl) (by rfl)) (by rfl) (by rfl) ?_
    refine Ls.ev (some 20) (Ev.addI (show Oper.op _ = Op.binOp BinOp.add 3 (Operand.const (Value.int IntKind.i64 48)) (Operand.tmp 19) 3 from rfl) (by rfl) (by rfl) (by omega)) (by rfl) (by rfl) ?_
    refine Ls.ev (some 21) (Ev.convW (m := ((UInt8.ofNat (48 + k.natAbs % 10)).toNat : Int)) (show Oper.op _ = Op.convert 3 5 (Operand.tmp 20) from rfl) (by rfl) (by kernel_rfl) Tryz.underlying5 (dig_wrap k.natAbs)) (by rfl) (by rfl) ?_
    refine Ls.does (some 22) (Does.lit (sz := 1) (show Oper.op _ = Op.buildSlice 30 1 #[(0, Operand.tmp 21)] from rfl) (by rfl) Tryz.underlying30 (by kernel_rfl) (by rfl) (by kernel_rfl)) (by rfl) (by rfl) ?_
    intro g1 _
    refine Ls.ev (some 23) (Ev.textOf (l := [UInt8.ofNat (48 + k.natAbs % 10)]) (show Oper.op _ = Op.convert 30 9 (Operand.tmp 22) from rfl) (by rfl) (ReadsIn.row 0 (by rfl)) Tryz.underlying30 Tryz.underlying5 Tryz.underlying9) (by rfl) (by rfl) ?_
    refine Ls.ev (some 24) (Ev.move (show Oper.op _ = Op.move (Operand.tmp 3) from rfl) (by rfl)) (by rfl) (by rfl) ?_
    refine Ls.ev (some 25) (Ev.to (Ev.addS (show Oper.op _ = Op.binOp BinOp.add 9 (Operand.tmp 23) (Operand.tmp 24) 9 from rfl) (by rfl) (by rfl) (by rw [txt_size, txt_size]; simp only [List.length_cons, List.length_nil]; omega)) (congrArg Value.string (txt_app _ _))) (by rfl) (by rfl) ?_
    refine Ls.ev (some 3) (Ev.assign (show Oper.op _ = Op.assign (Operand.tmp 25) from rfl) (by rfl)) (by rfl) (by rfl) ?_
    refine Ls.nil ?_
    refine Cd.region ?_
    refine Ls.ev (some 11) (Ev.move (show Oper.op _ = Op.move (Operand.tmp 4) from rfl) (by rfl)) (by rfl) (by rfl) ?_
    refine Ls.ev (some 12) (Ev.to (Ev.quo (show Oper.op _ = Op.binOp BinOp.quo 3 (Operand.tmp 11) (Operand.const (Value.int IntKind.i64 10)) 3 from rfl) (by rfl) (by rfl) (by decide)) (show Value.int .i64 (IntKind.i64.wrap (k.tdiv 10)) = Value.int .i64 (k.tdiv 10) by rw [wrapI (by omega)])) (by rfl) (by rfl) ?_
    refine Ls.ev (some 4) (Ev.assign (show Oper.op _ = Op.assign (Operand.tmp 12) from rfl) (by rfl)) (by rfl) (by rfl) ?_
    refine Ls.nil ?_
    refine Ent.pick [] (by rfl) ?_
    refine Ent.inv ((k.tdiv 10, UInt8.ofNat (48 + k.natAbs % 10) :: a)) ?_ ?_ ?_
    · (try dsimp only); exact ⟨⟨by omega, by rw [hdg, digZ_step (m := k.natAbs) (by omega), hq, List.append_assoc]; rfl⟩, by rw [hq]; exact Nat.div_lt_self (by omega) (by decide)⟩
    · (repeat (first | exact trivial | refine ⟨by rfl, ?_⟩ | refine ⟨by simp only [List.length_append, List.length_cons, List.length_nil]; rfl, ?_⟩ | refine ⟨by push_cast; rfl, ?_⟩))
    · rfl
  · skip
    have h3 : k = 0 := by have := of_decide_eq_false h3; omega
    subst h3
    have hda : Lib.decDigits n.natAbs = a := by
      unfold digZ at hdg
      rw [if_neg (by omega)] at hdg
      simpa using hdg
    refine Cd.exit ?_
    refine Cd.seq ?_
    refine Cd.seq ?_
    refine Cd.region ?_
    refine Ls.ev (some 26) (Ev.move (show Oper.op _ = Op.move (Operand.tmp 0) from rfl) (by rfl)) (by rfl) (by rfl) ?_
    refine Ls.ev (some 27) (Ev.lss (show Oper.op _ = Op.binOp BinOp.lss 3 (Operand.tmp 26) (Operand.const (Value.int IntKind.i64 0)) 3 from rfl) (by rfl) (by rfl)) (by rfl) (by rfl) ?_
    refine Ls.nil ?_
    refine Cd.cond _ (by rfl) (fun h4 => ?_) (fun h4 => ?_)
    · skip
      have h4 := of_decide_eq_true h4
      refine Cd.seq ?_
      refine Cd.region ?_
      refine Ls.ev (some 28) (Ev.move (show Oper.op _ = Op.move (Operand.tmp 3) from rfl) (by rfl)) (by rfl) (by rfl) ?_
      refine Ls.ev (some 29) (Ev.to (Ev.addS (show Oper.op _ = Op.binOp BinOp.add 9 (Operand.const (Value.string { data := #[45] })) (Operand.tmp 28) 9 from rfl) (by rfl) (by rfl) (by rw [txt_size]; show 1 + a.length ≤ _; omega)) (congrArg Value.string (txt_app [45] a))) (by rfl) (by rfl) ?_
      refine Ls.ev (some 2) (Ev.assign (show Oper.op _ = Op.assign (Operand.tmp 29) from rfl) (by rfl)) (by rfl) (by rfl) ?_
      refine Ls.nil ?_
      refine Cd.ret ?_
      refine Ent.ret (()) (trivial) (Res.tmp (by rfl) (by rfl)) ?_ [] (by rfl) ?_
      · unfold Lib.itoa
        rw [if_pos h4, hda]
        rfl
      · rfl
    · skip
      have h4 := of_decide_eq_false h4
      refine Cd.skip ?_
      refine Cd.seq ?_
      refine Cd.region ?_
      refine Ls.ev (some 30) (Ev.move (show Oper.op _ = Op.move (Operand.tmp 3) from rfl) (by rfl)) (by rfl) (by rfl) ?_
      refine Ls.ev (some 2) (Ev.assign (show Oper.op _ = Op.assign (Operand.tmp 30) from rfl) (by rfl)) (by rfl) (by rfl) ?_
      refine Ls.nil ?_
      refine Cd.ret ?_
      refine Ent.ret (()) (trivial) (Res.tmp (by rfl) (by rfl)) ?_ [] (by rfl) ?_
      · unfold Lib.itoa
        rw [if_neg h4, show n.toNat = n.natAbs by omega, hda]
      · rfl
end Go.Proofs.YtceanciekadkeaaGreatDoor
/- walks: segments' names and numbers -/
namespace Go.Proofs.YtceanciekadkeaaGreatDoor
open Go.RowKit
/-- What the library's variables hold. -/
def laidH (w : World) : Prop := Lib.TabIs Tryz.prog w "internal/strconv.uint64pow10" .u64 Lib.pow10Tab ∧ (∃ tp p, w.var? Tryz.prog "strconv.ErrSyntax" = some #[.iface tp p]) ∧ ∃ tp p, w.var? Tryz.prog "strconv.ErrRange" = some #[.iface tp p]
theorem cell_lt {w : World} {g k : Nat} {v : Value} (h : w.cell? ⟨g, k, none⟩ = some v) : g < w.heap.size := by
  rcases Nat.lt_or_ge g w.heap.size with h1 | h1
  · exact h1
  · simp [World.cell?, Array.getElem?_eq_none h1] at h
theorem var_heap {P : Program} {w w' : World} {n : String} {g : Nat} (hg : P.globalNamed n = some g) (h : w'.heap[g]? = w.heap[g]?) : w'.var? P n = w.var? P n := by
  simp only [World.var?, hg, Option.bind_some, h]
theorem var_lt {P : Program} {w : World} {n : String} {g : Nat} {cs : Array Value} {v : Value} (hg : P.globalNamed n = some g) (h : w.var? P n = some cs) (h0 : cs[0]? = some v) : g < w.heap.size := cell_lt ((World.var?_cell hg h 0).trans h0)
theorem gT : Tryz.prog.globalNamed "internal/strconv.uint64pow10" = some 2 := by kernel_rfl
theorem gS : Tryz.prog.globalNamed "strconv.ErrSyntax" = some 0 := by kernel_rfl
theorem gR : Tryz.prog.globalNamed "strconv.ErrRange" = some 1 := by kernel_rfl
def laidC : Chunk where
  holds := laidH
  foot k := k = 2 ∨ k = 0 ∨ k = 1
  excl := false
  lt := by
    rintro w k ⟨h2, ⟨tp, p, h3⟩, ⟨tp', p', h4⟩⟩ (rfl | rfl | rfl)
    · exact var_lt gT h2 (v := .int .u64 1) rfl
    · exact var_lt gS h3 rfl
    · exact var_lt gR h4 rfl
  loc := by
    rintro w w' _ he ⟨h2, h3, h4⟩
    refine ⟨?_, ?_, ?_⟩
    · exact (var_heap gT (he _ (.inl rfl))).trans h2
    · rw [var_heap gS (he _ (.inr (.inl rfl)))]
      exact h3
    · rw [var_heap gR (he _ (.inr (.inr rfl)))]
      exact h4
theorem sat_laid {w : World} {H : List Chunk} (i : Nat) (hi : H[i]? = some laidC) (h : Sat0 H w) : laidH w := h.1 _ (List.mem_of_getElem? hi)
theorem laidIn {Γ : Ctx} {H : List Chunk} (i : Nat) (hi : H[i]? = some laidC) : ∀ w, Sat Γ H w → laidC.holds w := fun _ hs => hs.mem hi
theorem below_gd (w : World) (k : Nat) (os : Array Obj) : Below w.heap.size w (Go.Sort.grow (w.drewN k) os) :=
  ⟨rfl, rfl, rfl, by show w.heap.size ≤ (w.heap ++ os).size; rw [Array.size_append]; omega, fun j hj => by
    show (w.heap ++ os)[j]? = _
    rw [Array.getElem?_append_left hj]⟩
theorem itoa_sl (n : Int) (h : in64 n) : Fn Tryz.prog 57 #[.int .i64 n] [laidC] Unit (fun _ => .string (txt (Lib.itoa n))) (fun _ => []) (fun _ => True) :=
  Fn.of_below fun w hs => (Tryz.strconv_Itoa n h.1 h.2 w (sat_laid 0 rfl hs).1).mono fun _ _ ⟨he, k, os, hw⟩ => ⟨he, hw ▸ below_gd w k os⟩
/-- How Atoi ends. -/
def atoiR (t : List UInt8) (p : Int × Value) : Prop := match Lib.atoiAll t with
  | .ok v => p.1 = v ∧ p.2 = .nilIface
  | _ => ∃ te pe, p.2 = .iface te pe
theorem atoi_sl (t : List UInt8) (ht : t.length ≤ 1048576) : Fn Tryz.prog 72 #[.string (txt t)] [laidC] (Int × Value) (fun p => .tuple #[.int .i64 p.1, p.2]) (fun _ => []) (atoiR t) := fun w hs => by
  obtain ⟨_, ⟨tp, p, h3⟩, ⟨tp', p', h4⟩⟩ := sat_laid 0 rfl hs
  have hz : (txt t).size = t.length := rfl
  have hd : (txt t).data.toList = t := rfl
  unfold atoiR
  cases he : Lib.atoiAll t with
  | ok v =>
    refine (Tryz.strconv_Atoi_ok (txt t) (by omega) v (by rw [hd, he]) w).mono ?_
    rintro e w' ⟨rfl, hw⟩
    refine ⟨(v, .nilIface), ⟨rfl, rfl⟩, rfl, sat_nil ?_⟩
    rcases hw with rfl | ⟨s', rfl⟩
    · exact Below.refl _ _
    · exact Lib.bytesWorld_below w _ s'
  | range =>
    refine (Tryz.strconv_Atoi_range_var (txt t) (by omega) (by rw [hd, he]) tp' p' w h4).mono ?_
    rintro e w' ⟨N, rfl, _, _, hb⟩
    exact ⟨(Lib.atoiSat (txt t).data.toList, _), ⟨_, _, rfl⟩, rfl, sat_nil hb⟩
  | _ =>
    refine (Tryz.strconv_Atoi_syntax_var (txt t) (by omega) (fun v h => by rw [hd, he] at h; cases h) (fun h => by rw [hd, he] at h; cases h) tp p w h3).mono ?_
    rintro e w' ⟨N, rfl, _, _, hb⟩
    exact ⟨(0, _), ⟨_, _, rfl⟩, rfl, sat_nil hb⟩
theorem repL (c : UInt8) : ∀ k, Lib.repeatL [c] k = List.replicate k c
  | 0 => by simp [Lib.repeatL]
  | k + 1 => by
    have := repL c k
    simp only [Lib.repeatL] at this ⊢
    simp_all [List.replicate_succ]
theorem repeat_sl (k : Nat) (hk : k ≤ 6) : Fn Tryz.prog 58 #[.string (txt [48]), .int .i64 k] [] Unit (fun _ => .string (txt (List.replicate k 48))) (fun _ => []) (fun _ => True) :=
  Fn.of_below fun w _ => (Tryz.strings_Repeat (txt [48]) k w (by omega) (by show 1 * k ≤ _; omega)).mono fun _ _ ⟨he, hw⟩ => ⟨he.trans (by
    show Ending.returned (.string ⟨(Lib.repeatL [48] k).toArray⟩) = _
    rw [repL]
    rfl), hw⟩
theorem name_sl (n : Nat) (hn : n ≤ 999999) : Fn Tryz.prog 28 #[.int .i64 n] [laidC] Unit (fun _ => .string (txt (nameP n))) (fun _ => []) (fun _ => True) := by
  obtain ⟨h1, h2⟩ := pad6 (n := n) (by omega)
  have hs : (txt (Lib.itoa n)).size = (Lib.itoa n).length := rfl
  refine Fn.enter Tryz.func28 rfl Tryz.ntmps28 (by rfl) ?_
  intro w0
  refine Cd.seq ?_
  refine Cd.region ?_
  refine Ls.ev (some 2) (Ev.assign (show Oper.op _ = Op.assign (Operand.const (Value.string { data := #[] })) from rfl) (by rfl)) (by rfl) (by rfl) ?_
  refine Ls.nil ?_
  refine Cd.seq ?_
  refine Cd.region ?_
  refine Ls.ev (some 4) (Ev.move (show Oper.op _ = Op.move (Operand.tmp 0) from rfl) (by rfl)) (by rfl) (by rfl) ?_
  refine Ls.does (some 5) (Does.read (show Oper.op _ = Op.call { callee := Callee.value (Operand.func 57), args := #[Operand.tmp 4], argTypes := #[3] } from rfl) Tryz.func57 (by kernel_rfl) (by kernel_rfl) (itoa_sl n (by constructor <;> omega)) (by rfl) (by rfl) ⟨laidIn 0 (by rfl), trivial⟩) (by rfl) (by rfl) ?_
  rintro _ -
  skip
  refine Ls.ev (some 3) (Ev.assign (show Oper.op _ = Op.assign (Operand.tmp 5) from rfl) (by rfl)) (by rfl) (by rfl) ?_
  refine Ls.nil ?_
  refine Cd.seq ?_
  refine Cd.region ?_
  refine Ls.ev (some 6) (Ev.move (show Oper.op _ = Op.move (Operand.tmp 3) from rfl) (by rfl)) (by rfl) (by rfl) ?_
  refine Ls.ev (some 7) (Ev.lenS (show Oper.op _ = Op.call { callee := Callee.builtin Builtin.len, args := #[Operand.tmp 6], argTypes := #[9] } from rfl) (by rfl) Tryz.underlying9) (by rfl) (by rfl) ?_
  refine Ls.ev (some 8) (Ev.subN (a := 6) (show Oper.op _ = Op.binOp BinOp.sub 3 (Operand.const (Value.int IntKind.i64 6)) (Operand.tmp 7) 3 from rfl) (by rfl) (by rfl) (by omega)) (by rfl) (by rfl) ?_
  refine Ls.does (some 9) (Does.read (show Oper.op _ = Op.call { callee := Callee.value (Operand.func 58), args := #[Operand.const (Value.string { data := #[48] }), Operand.tmp 8], argTypes := #[9, 3] } from rfl) Tryz.func58 (by kernel_rfl) (by kernel_rfl) (repeat_sl (6 - (Lib.itoa n).length) (by omega)) (by rfl) (by rfl) trivial) (by rfl) (by rfl) ?_
  rintro _ -
  refine Ls.ev (some 10) (Ev.addS (show Oper.op _ = Op.binOp BinOp.add 9 (Operand.const (Value.string { data := #[119, 97, 108, 45] })) (Operand.tmp 9) 9 from rfl) (by rfl) (by rfl) (by show (4 : Nat) + (List.replicate (6 - (Lib.itoa n).length) 48).length ≤ _; rw [List.length_replicate]; omega)) (by rfl) (by rfl) ?_
  refine Ls.ev (some 11) (Ev.move (show Oper.op _ = Op.move (Operand.tmp 3) from rfl) (by rfl)) (by rfl) (by rfl) ?_
  refine Ls.ev (some 12) (Ev.addS (show Oper.op _ = Op.binOp BinOp.add 9 (Operand.tmp 10) (Operand.tmp 11) 9 from rfl) (by rfl) (by rfl) (by
    have h3 : (⟨#[119, 97, 108, 45]⟩ ++ txt (List.replicate (6 - (Lib.itoa n).length) 48)).size = 4 + (6 - (Lib.itoa n).length) := by
      rw [ByteArray.size_append]
      show 4 + (List.replicate (6 - (Lib.itoa n).length) 48).length = _
      rw [List.length_replicate]
    rw [h3]
    omega)) (by rfl) (by rfl) ?_
  refine Ls.ev (some 2) (Ev.assign (show Oper.op _ = Op.assign (Operand.tmp 12) from rfl) (by rfl)) (by rfl) (by rfl) ?_
  refine Ls.nil ?_
  refine Cd.ret ?_
  refine Ent.ret (()) (trivial) (Res.tmp (by rfl) (by rfl)) ?_ [] (by rfl) ?_
  · rw [nameP, ← h1]
    rfl
  · rfl
theorem cut_sl (s p : List UInt8) : Fn Tryz.prog 71 #[.string (txt s), .string (txt p)] [] Unit (fun _ => .tuple #[.string (txt (Lib.trimPrefix s p)), .bool (Lib.hasPrefix s p)]) (fun _ => []) (fun _ => True) :=
  Fn.of_same fun w _ => (Tryz.strings_CutPrefix (txt s) (txt p) w).mono fun _ _ ⟨he, hw⟩ => ⟨he, hw.symm⟩
/-- How a segment's name begins. -/
abbrev wal4 : List UInt8 := [119, 97, 108, 45]
theorem num_of_atoi {q : List UInt8} {v : Int} (_ : wal4 <+: q) (hv : Lib.atoiAll (q.drop 4) = .ok v) (h1 : 1 ≤ v) (h2 : v ≤ 999999) : numP q = if nameP v.toNat = q then v.toNat else 0 := by
  split
  · rename_i he
    exact numP_eq (by omega) (by omega) he
  · rename_i he
    refine Decidable.byContradiction fun hn => ?_
    obtain ⟨a, b, c⟩ := numP_pos hn
    refine he ?_
    rw [← c] at hv
    have : Lib.atoiAll ((nameP (numP q)).drop 4) = .ok ((numP q : Nat) : Int) := dgs_atoi (by omega)
    rw [this] at hv
    injection hv with hv
    rw [← hv]
    exact c
theorem num_none {q : List UInt8} (h : ¬ (wal4 <+: q ∧ ∃ v, Lib.atoiAll (q.drop 4) = .ok v ∧ 1 ≤ v ∧ v ≤ 999999)) : numP q = 0 := by
  refine Decidable.byContradiction fun hn => ?_
  obtain ⟨a, b, c⟩ := numP_pos hn
  refine h ⟨⟨_, c⟩, numP q, ?_, by omega, by omega⟩
  have : Lib.atoiAll ((nameP (numP q)).drop 4) = .ok ((numP q : Nat) : Int) := dgs_atoi (by omega)
  rwa [c] at this
theorem number_sl (q : List UInt8) (hq : q.length ≤ 32) : Fn Tryz.prog 55 #[.string (txt q)] [laidC] Unit (fun _ => .int .i64 (numP q)) (fun _ => []) (fun _ => True) := by
  have hc := cut_sl q wal4
  by_cases hp : wal4 <+: q
  · have hh : Lib.hasPrefix q wal4 = true := List.isPrefixOf_iff_prefix.2 hp
    rw [Lib.trimPrefix, hh, if_pos rfl] at hc
    refine Fn.enter Tryz.func55 rfl Tryz.ntmps55 (by rfl) ?_
    intro w0
    refine Cd.seq ?_
    refine Cd.region ?_
    refine Ls.ev (some 2) (Ev.assign (show Oper.op _ = Op.assign (Operand.const (Value.int IntKind.i64 0)) from rfl) (by rfl)) (by rfl) (by rfl) ?_
    refine Ls.nil ?_
    refine Cd.seq ?_
    refine Cd.region ?_
    refine Ls.ev (some 8) (Ev.move (show Oper.op _ = Op.move (Operand.tmp 0) from rfl) (by rfl)) (by rfl) (by rfl) ?_
    refine Ls.does (some 9) (Does.read (show Oper.op _ = Op.call { callee := Callee.value (Operand.func 71), args := #[Operand.tmp 8, Operand.const (Value.string { data := #[119, 97, 108, 45] })], argTypes := #[9, 9] } from rfl) Tryz.func71 (by kernel_rfl) (by kernel_rfl) (hc) (by rfl) (by rfl) trivial) (by rfl) (by rfl) ?_
    rintro _ -
    refine Ls.ev (some 7) (Ev.move (show Oper.op _ = Op.move (Operand.tmp 9) from rfl) (by rfl)) (by rfl) (by rfl) ?_
    refine Ls.ev (some 10) (Ev.extract (show Oper.op _ = Op.extract (Operand.tmp 7) 0 from rfl) (by rfl) (by rfl)) (by rfl) (by rfl) ?_
    refine Ls.ev (some 11) (Ev.extract (show Oper.op _ = Op.extract (Operand.tmp 7) 1 from rfl) (by rfl) (by rfl)) (by rfl) (by rfl) ?_
    refine Ls.ev (some 3) (Ev.assign (show Oper.op _ = Op.assign (Operand.tmp 10) from rfl) (by rfl)) (by rfl) (by rfl) ?_
    refine Ls.ev (some 4) (Ev.assign (show Oper.op _ = Op.assign (Operand.tmp 11) from rfl) (by rfl)) (by rfl) (by rfl) ?_
    refine Ls.nil ?_
    refine Cd.seq ?_
    refine Cd.region ?_
    refine Ls.ev (some 13) (Ev.move (show Oper.op _ = Op.move (Operand.tmp 3) from rfl) (by rfl)) (by rfl) (by rfl) ?_
    refine Ls.does (some 14) (Does.read (show Oper.op _ = Op.call { callee := Callee.value (Operand.func 72), args := #[Operand.tmp 13], argTypes := #[9] } from rfl) Tryz.func72 (by kernel_rfl) (by kernel_rfl) (atoi_sl (q.drop 4) (by rw [List.length_drop]; omega)) (by rfl) (by rfl) ⟨laidIn 0 (by rfl), trivial⟩) (by rfl) (by rfl) ?_
    rintro ⟨v, e⟩ he
    refine Ls.ev (some 12) (Ev.move (show Oper.op _ = Op.move (Operand.tmp 14) from rfl) (by rfl)) (by rfl) (by rfl) ?_
    refine Ls.ev (some 15) (Ev.extract (show Oper.op _ = Op.extract (Operand.tmp 12) 0 from rfl) (by rfl) (by rfl)) (by rfl) (by rfl) ?_
    refine Ls.ev (some 16) (Ev.extract (show Oper.op _ = Op.extract (Operand.tmp 12) 1 from rfl) (by rfl) (by rfl)) (by rfl) (by rfl) ?_
    refine Ls.ev (some 5) (Ev.assign (show Oper.op _ = Op.assign (Operand.tmp 15) from rfl) (by rfl)) (by rfl) (by rfl) ?_
    refine Ls.ev (some 6) (Ev.assign (show Oper.op _ = Op.assign (Operand.tmp 16) from rfl) (by rfl)) (by rfl) (by rfl) ?_
    refine Ls.nil ?_
    refine Cd.seq ?_
    refine Cd.seq ?_
    refine Cd.region ?_
    refine Ls.ev (some 17) (Ev.move (show Oper.op _ = Op.move (Operand.tmp 4) from rfl) (by rfl)) (by rfl) (by rfl) ?_
    refine Ls.ev (some 18) (Ev.not (show Oper.op _ = Op.unOp UnOp.not 4 (Operand.tmp 17) from rfl) (by rfl)) (by rfl) (by rfl) ?_
    refine Ls.ev (some 19) (Ev.move (show Oper.op _ = Op.move (Operand.tmp 18) from rfl) (by rfl)) (by rfl) (by rfl) ?_
    by_cases hok : ∃ v, Lib.atoiAll (q.drop 4) = .ok v
    · obtain ⟨v', hv⟩ := hok
      unfold atoiR at he
      rw [hv] at he
      obtain ⟨rfl, rfl⟩ := he
      skip
      refine Ent.known 19 false (by rfl) (by exact (rfl)) ?_
      refine Ls.ev (some 20) (Ev.move (show Oper.op _ = Op.move (Operand.tmp 6) from rfl) (by rfl)) (by rfl) (by rfl) ?_
      refine Ls.ev (some 21) (Ev.nilNilN (show Oper.op _ = Op.binOp BinOp.neq 121 (Operand.tmp 20) (Operand.const Value.nilIface) 121 from rfl) (by rfl) (by kernel_rfl)) (by rfl) (by rfl) ?_
      refine Ls.ev (some 22) (Ev.pickF (show Oper.op _ = Op.pick (Operand.tmp 19) (Operand.const (Value.bool true)) (Operand.tmp 21) from rfl) (by rfl) (by rfl)) (by rfl) (by rfl) ?_
      refine Ls.ev (some 23) (Ev.move (show Oper.op _ = Op.move (Operand.tmp 22) from rfl) (by rfl)) (by rfl) (by rfl) ?_
      refine Ent.known 23 false (by rfl) (by exact (rfl)) ?_
      refine Ls.ev (some 24) (Ev.move (show Oper.op _ = Op.move (Operand.tmp 5) from rfl) (by rfl)) (by rfl) (by rfl) ?_
      refine Ls.ev (some 25) (Ev.lss (show Oper.op _ = Op.binOp BinOp.lss 3 (Operand.tmp 24) (Operand.const (Value.int IntKind.i64 1)) 3 from rfl) (by rfl) (by rfl)) (by rfl) (by rfl) ?_
      refine Ls.ev (some 26) (Ev.pickF (show Oper.op _ = Op.pick (Operand.tmp 23) (Operand.const (Value.bool true)) (Operand.tmp 25) from rfl) (by rfl) (by rfl)) (by rfl) (by rfl) ?_
      refine Ls.ev (some 27) (Ev.move (show Oper.op _ = Op.move (Operand.tmp 26) from rfl) (by rfl)) (by rfl) (by rfl) ?_
      skip
      by_cases h1 : v < 1
      · skip
        rw [num_none (fun ⟨_, v2, hv2, h3, h4⟩ => by rw [hv] at hv2; injection hv2 with e; omega)]
        refine Ent.known 27 true (by rfl) (by exact (decide_eq_true h1)) ?_
        refine Ls.pass (some 28) (by rfl) (by rfl) ?_
        refine Ls.pass (some 29) (by rfl) (by rfl) ?_
        refine Ls.ev (some 30) (Ev.pickT (show Oper.op _ = Op.pick (Operand.tmp 27) (Operand.const (Value.bool true)) (Operand.tmp 29) from rfl) (by rfl) (by rfl)) (by rfl) (by rfl) ?_
        refine Ls.ev (some 31) (Ev.move (show Oper.op _ = Op.move (Operand.tmp 30) from rfl) (by rfl)) (by rfl) (by rfl) ?_
        refine Ls.pass (some 32) (by rfl) (by rfl) ?_
        refine Ls.pass (some 33) (by rfl) (by rfl) ?_
        refine Ls.pass (some 34) (by rfl) (by rfl) ?_
        refine Ls.pass (some 35) (by rfl) (by rfl) ?_
        refine Ls.ev (some 36) (Ev.pickT (show Oper.op _ = Op.pick (Operand.tmp 31) (Operand.const (Value.bool true)) (Operand.tmp 35) from rfl) (by rfl) (by rfl)) (by rfl) (by rfl) ?_
        refine Ls.nil ?_
        refine Cd.cond_true (by rfl) (rfl) ?_
        refine Cd.seq ?_
        refine Cd.region ?_
        refine Ls.ev (some 2) (Ev.assign (show Oper.op _ = Op.assign (Operand.const (Value.int IntKind.i64 0)) from rfl) (by rfl)) (by rfl) (by rfl) ?_
        refine Ls.nil ?_
        refine Cd.ret ?_
        refine Ent.ret (()) (trivial) (Res.tmp (by rfl) (by rfl)) ?_ [] (by rfl) ?_
        · rfl
        · rfl
      · skip
        refine Ent.known 27 false (by rfl) (by exact (decide_eq_false h1)) ?_
        refine Ls.ev (some 28) (Ev.move (show Oper.op _ = Op.move (Operand.tmp 5) from rfl) (by rfl)) (by rfl) (by rfl) ?_
        refine Ls.ev (some 29) (Ev.gtr (show Oper.op _ = Op.binOp BinOp.gtr 3 (Operand.tmp 28) (Operand.const (Value.int IntKind.i64 999999)) 3 from rfl) (by rfl) (by rfl)) (by rfl) (by rfl) ?_
        refine Ls.ev (some 30) (Ev.pickF (show Oper.op _ = Op.pick (Operand.tmp 27) (Operand.const (Value.bool true)) (Operand.tmp 29) from rfl) (by rfl) (by rfl)) (by rfl) (by rfl) ?_
        refine Ls.ev (some 31) (Ev.move (show Oper.op _ = Op.move (Operand.tmp 30) from rfl) (by rfl)) (by rfl) (by rfl) ?_
        skip
        by_cases h2 : 999999 < v
        · skip
          rw [num_none (fun ⟨_, v2, hv2, h3, h4⟩ => by rw [hv] at hv2; injection hv2 with e; omega)]
          refine Ent.known 31 true (by rfl) (by exact (decide_eq_true h2)) ?_
          refine Ls.pass (some 32) (by rfl) (by rfl) ?_
          refine Ls.pass (some 33) (by rfl) (by rfl) ?_
          refine Ls.pass (some 34) (by rfl) (by rfl) ?_
          refine Ls.pass (some 35) (by rfl) (by rfl) ?_
          refine Ls.ev (some 36) (Ev.pickT (show Oper.op _ = Op.pick (Operand.tmp 31) (Operand.const (Value.bool true)) (Operand.tmp 35) from rfl) (by rfl) (by rfl)) (by rfl) (by rfl) ?_
          refine Ls.nil ?_
          refine Cd.cond_true (by rfl) (rfl) ?_
          refine Cd.seq ?_
          refine Cd.region ?_
          refine Ls.ev (some 2) (Ev.assign (show Oper.op _ = Op.assign (Operand.const (Value.int IntKind.i64 0)) from rfl) (by rfl)) (by rfl) (by rfl) ?_
          refine Ls.nil ?_
          refine Cd.ret ?_
          refine Ent.ret (()) (trivial) (Res.tmp (by rfl) (by rfl)) ?_ [] (by rfl) ?_
          · rfl
          · rfl
        · skip
          obtain ⟨n, rfl⟩ : ∃ n : Nat, v = n := ⟨v.toNat, by omega⟩
          have hn := num_of_atoi hp hv (by omega) (by omega)
          rw [show ((n : Int).toNat) = n from rfl] at hn
          refine Ent.known 31 false (by rfl) (by exact (decide_eq_false h2)) ?_
          refine Ls.ev (some 32) (Ev.move (show Oper.op _ = Op.move (Operand.tmp 5) from rfl) (by rfl)) (by rfl) (by rfl) ?_
          skip
          refine Ls.does (some 33) (Does.read (show Oper.op _ = Op.call { callee := Callee.value (Operand.func 28), args := #[Operand.tmp 32], argTypes := #[3] } from rfl) Tryz.func28 (by kernel_rfl) (by kernel_rfl) (name_sl n (by omega)) (by rfl) (by rfl) ⟨laidIn 0 (by rfl), trivial⟩) (by rfl) (by rfl) ?_
          rintro _ -
          refine Ls.ev (some 34) (Ev.move (show Oper.op _ = Op.move (Operand.tmp 0) from rfl) (by rfl)) (by rfl) (by rfl) ?_
          refine Ls.ev (some 35) (Ev.neqS (show Oper.op _ = Op.binOp BinOp.neq 9 (Operand.tmp 33) (Operand.tmp 34) 9 from rfl) (by rfl) (by rfl)) (by rfl) (by rfl) ?_
          refine Ls.ev (some 36) (Ev.pickF (show Oper.op _ = Op.pick (Operand.tmp 31) (Operand.const (Value.bool true)) (Operand.tmp 35) from rfl) (by rfl) (by rfl)) (by rfl) (by rfl) ?_
          refine Ls.nil ?_
          by_cases hx : nameP n = q
          · skip
            rw [if_pos hx] at hn
            rw [hn]
            refine Cd.cond_false (by rfl) (decide_eq_false (show ¬ (txt (nameP n) ≠ txt q) from fun h => h (txt_eq_iff.2 hx))) ?_
            refine Cd.skip ?_
            refine Cd.seq ?_
            refine Cd.region ?_
            refine Ls.ev (some 37) (Ev.move (show Oper.op _ = Op.move (Operand.tmp 5) from rfl) (by rfl)) (by rfl) (by rfl) ?_
            refine Ls.ev (some 2) (Ev.assign (show Oper.op _ = Op.assign (Operand.tmp 37) from rfl) (by rfl)) (by rfl) (by rfl) ?_
            refine Ls.nil ?_
            refine Cd.ret ?_
            refine Ent.ret (()) (trivial) (Res.tmp (by rfl) (by rfl)) ?_ [] (by rfl) ?_
            · rfl
            · rfl
          · skip
            rw [if_neg hx] at hn
            rw [hn]
            refine Cd.cond_true (by rfl) (decide_eq_true (show txt (nameP n) ≠ txt q from fun h => hx (txt_eq_iff.1 h))) ?_
            refine Cd.seq ?_
            refine Cd.region ?_
            refine Ls.ev (some 2) (Ev.assign (show Oper.op _ = Op.assign (Operand.const (Value.int IntKind.i64 0)) from rfl) (by rfl)) (by rfl) (by rfl) ?_
            refine Ls.nil ?_
            refine Cd.ret ?_
            refine Ent.ret (()) (trivial) (Res.tmp (by rfl) (by rfl)) ?_ [] (by rfl) ?_
            · rfl
            · rfl
    · have he2 : ∃ te pe, e = .iface te pe := by
        unfold atoiR at he
        split at he
        · rename_i v2 hv2
          exact absurd ⟨v2, hv2⟩ hok
        · exact he
      obtain ⟨te, pe, rfl⟩ := he2
      rw [num_none (fun ⟨_, v2, hv2, _⟩ => hok ⟨v2, hv2⟩)]
      skip
      refine Ent.known 19 false (by rfl) (by exact (rfl)) ?_
      refine Ls.ev (some 20) (Ev.move (show Oper.op _ = Op.move (Operand.tmp 6) from rfl) (by rfl)) (by rfl) (by rfl) ?_
      refine Ls.ev (some 21) (Ev.ifaceNilN (show Oper.op _ = Op.binOp BinOp.neq 121 (Operand.tmp 20) (Operand.const Value.nilIface) 121 from rfl) (by rfl) (by rfl) (by kernel_rfl)) (by rfl) (by rfl) ?_
      refine Ls.ev (some 22) (Ev.pickF (show Oper.op _ = Op.pick (Operand.tmp 19) (Operand.const (Value.bool true)) (Operand.tmp 21) from rfl) (by rfl) (by rfl)) (by rfl) (by rfl) ?_
      refine Ls.ev (some 23) (Ev.move (show Oper.op _ = Op.move (Operand.tmp 22) from rfl) (by rfl)) (by rfl) (by rfl) ?_
      refine Ls.pass (some 24) (by rfl) (by rfl) ?_
      refine Ls.pass (some 25) (by rfl) (by rfl) ?_
      refine Ls.ev (some 26) (Ev.pickT (show Oper.op _ = Op.pick (Operand.tmp 23) (Operand.const (Value.bool true)) (Operand.tmp 25) from rfl) (by rfl) (by rfl)) (by rfl) (by rfl) ?_
      refine Ls.ev (some 27) (Ev.move (show Oper.op _ = Op.move (Operand.tmp 26) from rfl) (by rfl)) (by rfl) (by rfl) ?_
      refine Ls.pass (some 28) (by rfl) (by rfl) ?_
      refine Ls.pass (some 29) (by rfl) (by rfl) ?_
      refine Ls.ev (some 30) (Ev.pickT (show Oper.op _ = Op.pick (Operand.tmp 27) (Operand.const (Value.bool true)) (Operand.tmp 29) from rfl) (by rfl) (by rfl)) (by rfl) (by rfl) ?_
      refine Ls.ev (some 31) (Ev.move (show Oper.op _ = Op.move (Operand.tmp 30) from rfl) (by rfl)) (by rfl) (by rfl) ?_
      refine Ls.pass (some 32) (by rfl) (by rfl) ?_
      refine Ls.pass (some 33) (by rfl) (by rfl) ?_
      refine Ls.pass (some 34) (by rfl) (by rfl) ?_
      refine Ls.pass (some 35) (by rfl) (by rfl) ?_
      refine Ls.ev (some 36) (Ev.pickT (show Oper.op _ = Op.pick (Operand.tmp 31) (Operand.const (Value.bool true)) (Operand.tmp 35) from rfl) (by rfl) (by rfl)) (by rfl) (by rfl) ?_
      refine Ls.nil ?_
      refine Cd.cond_true (by rfl) (rfl) ?_
      refine Cd.seq ?_
      refine Cd.region ?_
      refine Ls.ev (some 2) (Ev.assign (show Oper.op _ = Op.assign (Operand.const (Value.int IntKind.i64 0)) from rfl) (by rfl)) (by rfl) (by rfl) ?_
      refine Ls.nil ?_
      refine Cd.ret ?_
      refine Ent.ret (()) (trivial) (Res.tmp (by rfl) (by rfl)) ?_ [] (by rfl) ?_
      · rfl
      · rfl
  · have hh : Lib.hasPrefix q wal4 = false := Bool.eq_false_iff.2 fun h => hp (List.isPrefixOf_iff_prefix.1 h)
    rw [Lib.trimPrefix, hh, if_neg (by decide)] at hc
    rw [num_none (fun h => hp h.1)]
    refine Fn.enter Tryz.func55 rfl Tryz.ntmps55 (by rfl) ?_
    intro w0
    refine Cd.seq ?_
    refine Cd.region ?_
    refine Ls.ev (some 2) (Ev.assign (show Oper.op _ = Op.assign (Operand.const (Value.int IntKind.i64 0)) from rfl) (by rfl)) (by rfl) (by rfl) ?_
    refine Ls.nil ?_
    refine Cd.seq ?_
    refine Cd.region ?_
    refine Ls.ev (some 8) (Ev.move (show Oper.op _ = Op.move (Operand.tmp 0) from rfl) (by rfl)) (by rfl) (by rfl) ?_
    refine Ls.does (some 9) (Does.read (show Oper.op _ = Op.call { callee := Callee.value (Operand.func 71), args := #[Operand.tmp 8, Operand.const (Value.string { data := #[119, 97, 108, 45] })], argTypes := #[9, 9] } from rfl) Tryz.func71 (by kernel_rfl) (by kernel_rfl) (hc) (by rfl) (by rfl) trivial) (by rfl) (by rfl) ?_
    rintro _ -
    refine Ls.ev (some 7) (Ev.move (show Oper.op _ = Op.move (Operand.tmp 9) from rfl) (by rfl)) (by rfl) (by rfl) ?_
    refine Ls.ev (some 10) (Ev.extract (show Oper.op _ = Op.extract (Operand.tmp 7) 0 from rfl) (by rfl) (by rfl)) (by rfl) (by rfl) ?_
    refine Ls.ev (some 11) (Ev.extract (show Oper.op _ = Op.extract (Operand.tmp 7) 1 from rfl) (by rfl) (by rfl)) (by rfl) (by rfl) ?_
    refine Ls.ev (some 3) (Ev.assign (show Oper.op _ = Op.assign (Operand.tmp 10) from rfl) (by rfl)) (by rfl) (by rfl) ?_
    refine Ls.ev (some 4) (Ev.assign (show Oper.op _ = Op.assign (Operand.tmp 11) from rfl) (by rfl)) (by rfl) (by rfl) ?_
    refine Ls.nil ?_
    refine Cd.seq ?_
    refine Cd.region ?_
    refine Ls.ev (some 13) (Ev.move (show Oper.op _ = Op.move (Operand.tmp 3) from rfl) (by rfl)) (by rfl) (by rfl) ?_
    refine Ls.does (some 14) (Does.read (show Oper.op _ = Op.call { callee := Callee.value (Operand.func 72), args := #[Operand.tmp 13], argTypes := #[9] } from rfl) Tryz.func72 (by kernel_rfl) (by kernel_rfl) (atoi_sl q (by omega)) (by rfl) (by rfl) ⟨laidIn 0 (by rfl), trivial⟩) (by rfl) (by rfl) ?_
    rintro ⟨v, e⟩ he
    refine Ls.ev (some 12) (Ev.move (show Oper.op _ = Op.move (Operand.tmp 14) from rfl) (by rfl)) (by rfl) (by rfl) ?_
    refine Ls.ev (some 15) (Ev.extract (show Oper.op _ = Op.extract (Operand.tmp 12) 0 from rfl) (by rfl) (by rfl)) (by rfl) (by rfl) ?_
    refine Ls.ev (some 16) (Ev.extract (show Oper.op _ = Op.extract (Operand.tmp 12) 1 from rfl) (by rfl) (by rfl)) (by rfl) (by rfl) ?_
    refine Ls.ev (some 5) (Ev.assign (show Oper.op _ = Op.assign (Operand.tmp 15) from rfl) (by rfl)) (by rfl) (by rfl) ?_
    refine Ls.ev (some 6) (Ev.assign (show Oper.op _ = Op.assign (Operand.tmp 16) from rfl) (by rfl)) (by rfl) (by rfl) ?_
    refine Ls.nil ?_
    refine Cd.seq ?_
    refine Cd.seq ?_
    refine Cd.region ?_
    refine Ls.ev (some 17) (Ev.move (show Oper.op _ = Op.move (Operand.tmp 4) from rfl) (by rfl)) (by rfl) (by rfl) ?_
    refine Ls.ev (some 18) (Ev.not (show Oper.op _ = Op.unOp UnOp.not 4 (Operand.tmp 17) from rfl) (by rfl)) (by rfl) (by rfl) ?_
    refine Ls.ev (some 19) (Ev.move (show Oper.op _ = Op.move (Operand.tmp 18) from rfl) (by rfl)) (by rfl) (by rfl) ?_
    refine Ls.pass (some 20) (by rfl) (by rfl) ?_
    refine Ls.pass (some 21) (by rfl) (by rfl) ?_
    refine Ls.ev (some 22) (Ev.pickT (show Oper.op _ = Op.pick (Operand.tmp 19) (Operand.const (Value.bool true)) (Operand.tmp 21) from rfl) (by rfl) (by rfl)) (by rfl) (by rfl) ?_
    refine Ls.ev (some 23) (Ev.move (show Oper.op _ = Op.move (Operand.tmp 22) from rfl) (by rfl)) (by rfl) (by rfl) ?_
    refine Ls.pass (some 24) (by rfl) (by rfl) ?_
    refine Ls.pass (some 25) (by rfl) (by rfl) ?_
    refine Ls.ev (some 26) (Ev.pickT (show Oper.op _ = Op.pick (Operand.tmp 23) (Operand.const (Value.bool true)) (Operand.tmp 25) from rfl) (by rfl) (by rfl)) (by rfl) (by rfl) ?_
    refine Ls.ev (some 27) (Ev.move (show Oper.op _ = Op.move (Operand.tmp 26) from rfl) (by rfl)) (by rfl) (by rfl) ?_
    refine Ls.pass (some 28) (by rfl) (by rfl) ?_
    refine Ls.pass (some 29) (by rfl) (by rfl) ?_
    refine Ls.ev (some 30) (Ev.pickT (show Oper.op _ = Op.pick (Operand.tmp 27) (Operand.const (Value.bool true)) (Operand.tmp 29) from rfl) (by rfl) (by rfl)) (by rfl) (by rfl) ?_
    refine Ls.ev (some 31) (Ev.move (show Oper.op _ = Op.move (Operand.tmp 30) from rfl) (by rfl)) (by rfl) (by rfl) ?_
    refine Ls.pass (some 32) (by rfl) (by rfl) ?_
    refine Ls.pass (some 33) (by rfl) (by rfl) ?_
    refine Ls.pass (some 34) (by rfl) (by rfl) ?_
    refine Ls.pass (some 35) (by rfl) (by rfl) ?_
    refine Ls.ev (some 36) (Ev.pickT (show Oper.op _ = Op.pick (Operand.tmp 31) (Operand.const (Value.bool true)) (Operand.tmp 35) from rfl) (by rfl) (by rfl)) (by rfl) (by rfl) ?_
    refine Ls.nil ?_
    refine Cd.cond_true (by rfl) (rfl) ?_
    refine Cd.seq ?_
    refine Cd.region ?_
    refine Ls.ev (some 2) (Ev.assign (show Oper.op _ = Op.assign (Operand.const (Value.int IntKind.i64 0)) from rfl) (by rfl)) (by rfl) (by rfl) ?_
    refine Ls.nil ?_
    refine Cd.ret ?_
    refine Ent.ret (()) (trivial) (Res.tmp (by rfl) (by rfl)) ?_ [] (by rfl) ?_
    · rfl
    · rfl
end Go.Proofs.YtceanciekadkeaaGreatDoor
/- walks: the segments that are there -/
namespace Go.Proofs.YtceanciekadkeaaGreatDoor
open Go.RowKit
def nats (l : List Nat) : List Value := l.map fun n : Nat => Value.int .i64 (n : Int)
theorem nats_append (a b : List Nat) : nats (a ++ b) = nats a ++ nats b := by simp [nats]
theorem one_nats (l : List Nat) : ∀ u ∈ nats l, u.oneCell' = true := fun u hu => by
  obtain ⟨x, _, rfl⟩ := List.mem_map.1 hu
  rfl
theorem elem_int : Elem Tryz.prog 35 3 1 8 := elem_of (by kernel_rfl)
theorem Ev.loadNat {Γ : Ctx} {N : Frm} {P : Program} {E : Env} {H : List Chunk} {o : Oper} {x : Operand} {t n k : Nat} {ad : Addr} {xs : List Nat} {u : Nat} (ho : o.op = .load t x) (hx : E.ev x = some (.pointer (some (ad.add (k * 1))))) (hi : ReadsIn Γ H 1 (some ad) n (nats xs)) (ht : one P t = true) (hu : xs[k]? = some u) : Ev Γ N P E H o (.int .i64 (u : Int)) :=
  Ev.loadInt (xs := xs.map fun n : Nat => (n : Int)) ho hx (by
    have : nats xs = ints (xs.map fun n : Nat => (n : Int)) := by simp [nats, ints]
    rw [← this]
    exact hi) ht (by rw [List.getElem?_map, hu]; rfl)
theorem segs_sl {D : DrS} {P : DrP} (h : Drv D P) : Fn Tryz.prog 26 #[D.ptr] [D.rB, D.rM, laidC] (Option Addr × Nat) (fun p => .slice p.1 (segsP P).length p.2) (fun p => [row p.1 (segsP P).length p.2 3 1 (nats (segsP P))]) (fun _ => True) := by
  have hln := h.ok.len
  obtain ⟨ns, hns⟩ : ∃ ns, ns = P.fs.map FiP.nm := ⟨_, rfl⟩
  have hnl : P.fs.length = ns.length := by rw [hns, List.length_map]
  have hsz : ∀ q ∈ ns, q.length ≤ 32 := fun q hq => by
    rw [hns] at hq
    obtain ⟨f, hf, rfl⟩ := List.mem_map.1 hq
    exact (h.ok.good f hf).len
  have hc := names_sl h
  have hseg : segsP P = segsN ns := by rw [hns]; rfl
  rw [hnl, ← hns] at hc
  rw [hnl] at hln
  rw [hseg]
  refine Fn.enter Tryz.func26 rfl Tryz.ntmps26 (by rfl) ?_
  intro w0
  refine Cd.seq ?_
  refine Cd.region ?_
  refine Ls.ev (some 2) (Ev.assign (show Oper.op _ = Op.assign (Operand.const (Value.slice none 0 0)) from rfl) (by rfl)) (by rfl) (by rfl) ?_
  refine Ls.nil ?_
  refine Cd.seq ?_
  refine Cd.region ?_
  refine Ls.ev (some 3) (Ev.assign (show Oper.op _ = Op.assign (Operand.const (Value.slice none 0 0)) from rfl) (by rfl)) (by rfl) (by rfl) ?_
  refine Ls.nil ?_
  refine Cd.seq ?_
  refine Cd.seq ?_
  refine Cd.region ?_
  refine Ls.ev (some 7) (Ev.move (show Oper.op _ = Op.move (Operand.tmp 0) from rfl) (by rfl)) (by rfl) (by rfl) ?_
  refine Ls.does (some 8) (Does.readN (show Oper.op _ = Op.call { callee := Callee.value (Operand.func 44), args := #[Operand.tmp 7], argTypes := #[23] } from rfl) Tryz.func44 (by kernel_rfl) (by kernel_rfl) (hc) (by rfl) (by rfl) ⟨rblkIn 0 (by rfl), rmapIn_ 1 (by rfl), trivial⟩ (fun _ => by rfl)) (by rfl) (by rfl) ?_
  rintro ⟨nA, nc⟩ -
  refine Ent.see 0 (by rfl) ?_
  refine Ent.nil 3 1 ?_
  refine Ent.pick [0, 1, 4] (by rfl) ?_
  skip
  refine Ls.ev (some 9) (Ev.len (show Oper.op _ = Op.call { callee := Callee.builtin Builtin.len, args := #[Operand.tmp 8], argTypes := #[36] } from rfl) (by rfl) Tryz.underlying36) (by rfl) (by rfl) ?_
  refine Ls.ev (some 10) (Ev.move (show Oper.op _ = Op.move (Operand.const (Value.int IntKind.i64 0)) from rfl) (by rfl)) (by rfl) (by rfl) ?_
  refine Ls.nil ?_
  refine Cd.block ?_
  refine Cd.loop (ι := Nat × (Option Addr × Nat) × List Nat) (fun p => [(8, .slice nA ns.length nc), (9, .int .i64 ns.length), (10, .int .i64 p.1), (3, .slice p.2.1.1 p.2.2.length p.2.1.2)]) (fun p => [row p.2.1.1 p.2.2.length p.2.1.2 3 1 (nats p.2.2), rd nA ns.length 1 (txts ns), laidC]) (fun p => p.1 ≤ ns.length ∧ p.2.2 = segsN (ns.take p.1)) (fun p => ns.length - p.1) ((0, (none, 0), [])) (⟨Nat.zero_le _, rfl⟩) ?_ rfl ?_
  · (repeat (first | exact trivial | refine ⟨by rfl, ?_⟩))
  rintro ⟨k, ⟨A, c⟩, o⟩ ⟨hk, ho⟩
  dsimp only at hk ho ⊢
  have hol : o.length ≤ k := by
    rw [ho]
    exact Nat.le_trans (segsN_len _) (by rw [List.length_take]; omega)
  refine Cd.seq ?_
  refine Cd.region ?_
  refine Ls.ev (some 11) (Ev.lss (show Oper.op _ = Op.binOp BinOp.lss 3 (Operand.tmp 10) (Operand.tmp 9) 3 from rfl) (by rfl) (by rfl)) (by rfl) (by rfl) ?_
  refine Ls.nil ?_
  refine Cd.seq ?_
  refine Cd.cond _ (by rfl) (fun h2 => ?_) (fun h2 => ?_)
  · skip
    have hlt : k < ns.length := by have := of_decide_eq_true h2; omega
    obtain ⟨q, hq⟩ := get_of_lt hlt
    have hqt : (ns.map txt)[k]? = some (txt q) := by rw [List.getElem?_map, hq]; rfl
    have hst : segsN (ns.take (k + 1)) = if numP q = 0 then o else o ++ [numP q] := by
      rw [List.take_add_one, hq, ho]
      exact segsN_snoc q _
    refine Ent.rdSome 1 (by rfl) (by omega) (fun ad had => ?_)
    subst had
    refine Cd.skip ?_
    refine Cd.seq ?_
    refine Cd.block ?_
    refine Cd.seq ?_
    refine Cd.region ?_
    refine Ls.ev (some 12) (Ev.indexAt (sz := 1) (show Oper.op _ = Op.indexAddr 36 (Operand.tmp 8) (Operand.tmp 10) from rfl) (by rfl) (by rfl) Tryz.underlying36 (by kernel_rfl) (by omega)) (by rfl) (by rfl) ?_
    refine Ls.ev (some 13) (Ev.loadStr (show Oper.op _ = Op.load 9 (Operand.tmp 12) from rfl) (by rfl) (ReadsIn.rd 1 (by rfl)) (by kernel_rfl) (by assumption)) (by rfl) (by rfl) ?_
    refine Ls.ev (some 5) (Ev.assign (show Oper.op _ = Op.assign (Operand.tmp 13) from rfl) (by rfl)) (by rfl) (by rfl) ?_
    refine Ls.nil ?_
    refine Cd.seq ?_
    refine Cd.region ?_
    refine Ls.ev (some 14) (Ev.move (show Oper.op _ = Op.move (Operand.tmp 5) from rfl) (by rfl)) (by rfl) (by rfl) ?_
    refine Ls.does (some 15) (Does.read (show Oper.op _ = Op.call { callee := Callee.value (Operand.func 55), args := #[Operand.tmp 14], argTypes := #[9] } from rfl) Tryz.func55 (by kernel_rfl) (by kernel_rfl) (number_sl q (hsz q (List.mem_of_getElem? hq))) (by rfl) (by rfl) ⟨laidIn 2 (by rfl), trivial⟩) (by rfl) (by rfl) ?_
    rintro _ -
    refine Ls.ev (some 6) (Ev.assign (show Oper.op _ = Op.assign (Operand.tmp 15) from rfl) (by rfl)) (by rfl) (by rfl) ?_
    refine Ls.nil ?_
    refine Cd.seq ?_
    refine Cd.region ?_
    refine Ls.ev (some 16) (Ev.move (show Oper.op _ = Op.move (Operand.tmp 6) from rfl) (by rfl)) (by rfl) (by rfl) ?_
    refine Ls.ev (some 17) (Ev.gtr (show Oper.op _ = Op.binOp BinOp.gtr 3 (Operand.tmp 16) (Operand.const (Value.int IntKind.i64 0)) 3 from rfl) (by rfl) (by rfl)) (by rfl) (by rfl) ?_
    refine Ls.nil ?_
    by_cases hz : numP q = 0
    · skip
      rw [if_pos hz] at hst
      refine Cd.cond_false (by rfl) (decide_eq_false (by omega)) ?_
      refine Cd.skip ?_
      refine Cd.region ?_
      refine Ls.ev (some 22) (Ev.addN (b := 1) (show Oper.op _ = Op.binOp BinOp.add 3 (Operand.tmp 10) (Operand.const (Value.int IntKind.i64 1)) 3 from rfl) (by rfl) (by rfl) (by omega)) (by rfl) (by rfl) ?_
      refine Ls.ev (some 10) (Ev.move (show Oper.op _ = Op.move (Operand.tmp 22) from rfl) (by rfl)) (by rfl) (by rfl) ?_
      refine Ls.nil ?_
      refine Ent.inv ((k + 1, (A, c), o)) ?_ ?_ ?_
      · (try dsimp only); exact ⟨⟨hlt, hst.symm⟩, by omega⟩
      · (repeat (first | exact trivial | refine ⟨by rfl, ?_⟩ | refine ⟨by simp only [List.length_append, List.length_cons, List.length_nil]; rfl, ?_⟩ | refine ⟨by push_cast; rfl, ?_⟩))
      · rfl
    · skip
      rw [if_neg hz] at hst
      refine Cd.cond_true (by rfl) (decide_eq_true (by omega)) ?_
      refine Cd.region ?_
      refine Ls.ev (some 18) (Ev.move (show Oper.op _ = Op.move (Operand.tmp 3) from rfl) (by rfl)) (by rfl) (by rfl) ?_
      refine Ls.ev (some 19) (Ev.move (show Oper.op _ = Op.move (Operand.tmp 6) from rfl) (by rfl)) (by rfl) (by rfl) ?_
      refine Ls.does (some 20) (Does.lit (sz := 1) (show Oper.op _ = Op.buildSlice 35 1 #[(0, Operand.tmp 19)] from rfl) (by rfl) Tryz.underlying35 (by kernel_rfl) (by rfl) (by kernel_rfl)) (by rfl) (by rfl) ?_
      intro g1 _
      refine Ls.does (some 21) (Does.app (xs := nats o) (news := nats [numP q]) 1 (show Oper.op _ = Op.call { callee := Callee.builtin Builtin.append, args := #[Operand.tmp 18, Operand.tmp 20], argTypes := #[35, 35] } from rfl) (by rfl) (by rfl) (by rfl) (ReadsIn.row 0 (by rfl)) elem_int (one_nats _) (show (o.length + 1) * 8 ≤ 140737488355328 by omega)) (by rfl) (by rfl) ?_
      rintro r -
      refine Ls.ev (some 3) (Ev.assign (show Oper.op _ = Op.assign (Operand.tmp 21) from rfl) (by rfl)) (by rfl) (by rfl) ?_
      refine Ls.nil ?_
      refine Cd.region ?_
      refine Ls.ev (some 22) (Ev.addN (b := 1) (show Oper.op _ = Op.binOp BinOp.add 3 (Operand.tmp 10) (Operand.const (Value.int IntKind.i64 1)) 3 from rfl) (by rfl) (by rfl) (by omega)) (by rfl) (by rfl) ?_
      refine Ls.ev (some 10) (Ev.move (show Oper.op _ = Op.move (Operand.tmp 22) from rfl) (by rfl)) (by rfl) (by rfl) ?_
      refine Ls.nil ?_
      refine Ent.pick [1, 2, 3] (by rfl) ?_
      refine Ent.inv ((k + 1, (r.1, r.2), o ++ [numP q])) ?_ ?_ ?_
      · (try dsimp only); exact ⟨⟨hlt, hst.symm⟩, by omega⟩
      · (repeat (first | exact trivial | refine ⟨by rfl, ?_⟩ | refine ⟨by simp only [List.length_append, List.length_cons, List.length_nil]; rfl, ?_⟩ | refine ⟨by push_cast; rfl, ?_⟩ | refine ⟨by (show some (Value.slice _ _ _) = some (Value.slice _ _ _); rw [List.length_append]; rfl), ?_⟩))
      · (show [_, _, _] = [_, _, _]; dsimp only; rw [List.length_append, nats_append]; rfl)
  · skip
    have hge : ns.length ≤ k := by have := of_decide_eq_false h2; omega
    rw [List.take_of_length_le hge] at ho
    subst ho
    refine Cd.exit ?_
    refine Cd.seq ?_
    refine Cd.region ?_
    refine Ls.ev (some 23) (Ev.move (show Oper.op _ = Op.move (Operand.tmp 3) from rfl) (by rfl)) (by rfl) (by rfl) ?_
    refine Ls.ev (some 2) (Ev.assign (show Oper.op _ = Op.assign (Operand.tmp 23) from rfl) (by rfl)) (by rfl) (by rfl) ?_
    refine Ls.nil ?_
    refine Cd.ret ?_
    refine Ent.ret ((A, c)) (trivial) (Res.tmp (by rfl) (by rfl)) ?_ [0] (by rfl) ?_
    · rfl
    · rfl
end Go.Proofs.YtceanciekadkeaaGreatDoor
/- the document's log over pieces: names and numbers of segments -/
namespace Go.Proofs.YtceanciekadkeaaGreatDoor
open Go.RowKit
/-- The document's name of a segment. -/
def nmR (n : Nat) : List UInt8 := wal4 ++ (List.replicate (6 - (Lib.itoa n).length) 48 ++ Lib.itoa n)
theorem nmR_name {n : Nat} (h : n ≤ 999999) : nmR n = nameP n := by
  unfold nmR nameP
  rw [(pad6 (by omega)).1]
theorem itoa_len7 {n : Nat} (h : n ≤ 1000000) : (Lib.itoa (n : Int)).length ≤ 7 := by
  rcases Nat.lt_or_ge n 1000000 with h1 | h1
  · have := (pad6 h1).2
    omega
  · obtain rfl : n = 1000000 := by omega
    exact Nat.le_of_eq (by kernel_rfl)
theorem rname_sl (n : Nat) (hn : n ≤ 1000000) : Fn Tryz.prog 13 #[.int .i64 n] [] Unit (fun _ => .string (txt (nmR n))) (fun _ => []) (fun _ => True) := by
  have hl := itoa_len7 hn
  have hnr : nmR n = wal4 ++ (List.replicate (6 - (Lib.itoa n).length) 48 ++ Lib.itoa n) := rfl
  refine Fn.enter Tryz.func13 rfl Tryz.ntmps13 (by rfl) ?_
  intro w0
  refine Cd.seq ?_
  refine Cd.region ?_
  refine Ls.ev (some 2) (Ev.assign (show Oper.op _ = Op.assign (Operand.const (Value.string { data := #[] })) from rfl) (by rfl)) (by rfl) (by rfl) ?_
  refine Ls.nil ?_
  refine Cd.seq ?_
  refine Cd.region ?_
  refine Ls.ev (some 4) (Ev.move (show Oper.op _ = Op.move (Operand.tmp 0) from rfl) (by rfl)) (by rfl) (by rfl) ?_
  refine Ls.does (some 5) (Does.read (show Oper.op _ = Op.call { callee := Callee.value (Operand.func 35), args := #[Operand.tmp 4], argTypes := #[3] } from rfl) Tryz.func35 (by kernel_rfl) (by kernel_rfl) (digits_sl n (by unfold in64; omega)) (by rfl) (by rfl) trivial) (by rfl) (by rfl) ?_
  rintro _ -
  generalize Lib.itoa (n : Int) = ds at hl hnr ⊢
  refine Ls.ev (some 3) (Ev.assign (show Oper.op _ = Op.assign (Operand.tmp 5) from rfl) (by rfl)) (by rfl) (by rfl) ?_
  refine Ls.nil ?_
  refine Cd.seq ?_
  refine Cd.block ?_
  refine Cd.loop (ι := Nat) (fun j => [(3, .string (txt (List.replicate j 48 ++ ds)))]) (fun _ => []) (fun j => j ≤ 6 - ds.length) (fun j => 6 - j) (0) (Nat.zero_le _) ?_ rfl ?_
  · (repeat (first | exact trivial | refine ⟨by rfl, ?_⟩))
  rintro j hj
  have hs : (txt (List.replicate j 48 ++ ds)).size = j + ds.length := by
    rw [txt_size, List.length_append, List.length_replicate]
  refine Cd.seq ?_
  refine Cd.seq ?_
  refine Cd.region ?_
  refine Ls.ev (some 6) (Ev.move (show Oper.op _ = Op.move (Operand.tmp 3) from rfl) (by rfl)) (by rfl) (by rfl) ?_
  refine Ls.ev (some 7) (Ev.lenS (show Oper.op _ = Op.call { callee := Callee.builtin Builtin.len, args := #[Operand.tmp 6], argTypes := #[9] } from rfl) (by rfl) Tryz.underlying9) (by rfl) (by rfl) ?_
  refine Ls.ev (some 8) (Ev.lss (show Oper.op _ = Op.binOp BinOp.lss 3 (Operand.tmp 7) (Operand.const (Value.int IntKind.i64 6)) 3 from rfl) (by rfl) (by rfl)) (by rfl) (by rfl) ?_
  refine Ls.nil ?_
  refine Cd.cond _ (by rfl) (fun h2 => ?_) (fun h2 => ?_)
  · skip
    have h2 := of_decide_eq_true h2
    refine Cd.skip ?_
    refine Cd.block ?_
    refine Cd.region ?_
    refine Ls.ev (some 9) (Ev.move (show Oper.op _ = Op.move (Operand.tmp 3) from rfl) (by rfl)) (by rfl) (by rfl) ?_
    refine Ls.ev (some 10) (Ev.to (Ev.addS (show Oper.op _ = Op.binOp BinOp.add 9 (Operand.const (Value.string { data := #[48] })) (Operand.tmp 9) 9 from rfl) (by rfl) (by rfl) (by rw [hs, txt_size]; simp only [List.length_cons, List.length_nil]; omega)) (congrArg Value.string (txt_app [48] _))) (by rfl) (by rfl) ?_
    refine Ls.ev (some 3) (Ev.assign (show Oper.op _ = Op.assign (Operand.tmp 10) from rfl) (by rfl)) (by rfl) (by rfl) ?_
    refine Ls.nil ?_
    refine Ent.inv (j + 1) ?_ ?_ ?_
    · (try dsimp only); exact ⟨by omega, by omega⟩
    · (repeat (first | exact trivial | refine ⟨by rfl, ?_⟩ | refine ⟨by simp only [List.length_append, List.length_cons, List.length_nil]; rfl, ?_⟩ | refine ⟨by push_cast; rfl, ?_⟩))
    · rfl
  · skip
    have h2 := of_decide_eq_false h2
    obtain rfl : j = 6 - ds.length := by omega
    refine Cd.exit ?_
    refine Cd.seq ?_
    refine Cd.region ?_
    refine Ls.ev (some 11) (Ev.move (show Oper.op _ = Op.move (Operand.tmp 3) from rfl) (by rfl)) (by rfl) (by rfl) ?_
    refine Ls.ev (some 12) (Ev.to (Ev.addS (show Oper.op _ = Op.binOp BinOp.add 9 (Operand.const (Value.string { data := #[119, 97, 108, 45] })) (Operand.tmp 11) 9 from rfl) (by rfl) (by rfl) (by rw [hs, txt_size]; simp only [List.length_cons, List.length_nil]; omega)) (congrArg Value.string (txt_app wal4 _))) (by rfl) (by rfl) ?_
    refine Ls.ev (some 2) (Ev.assign (show Oper.op _ = Op.assign (Operand.tmp 12) from rfl) (by rfl)) (by rfl) (by rfl) ?_
    refine Ls.nil ?_
    refine Cd.ret ?_
    refine Ent.ret (()) (trivial) (Res.tmp (by rfl) (by rfl)) ?_ [] (by rfl) ?_
    · rw [hnr]
    · rfl
def digI (n : Int) (c : UInt8) : Int := 10 * n + (c.toNat : Int) - 48
def intF (l : List UInt8) (n : Int) : Int := l.foldl digI n
theorem intF_snoc (l : List UInt8) (n : Int) (c : UInt8) : intF (l ++ [c]) n = 10 * intF l n + (c.toNat : Int) - 48 := by
  unfold intF
  rw [List.foldl_append]
  rfl
theorem intF_nat : ∀ (l : List UInt8) (n : Nat), (∀ c ∈ l, 48 ≤ c.toNat) → intF l n = ((l.foldl (fun n c => 10 * n + (c.toNat - 48)) n : Nat) : Int)
  | [], _, _ => rfl
  | c :: l, n, h => by
    have h1 := h c List.mem_cons_self
    have := intF_nat l (10 * n + (c.toNat - 48)) (fun x hx => h x (List.mem_cons_of_mem _ hx))
    rw [List.foldl_cons, ← this]
    unfold intF
    rw [List.foldl_cons]
    congr 1
    unfold digI
    omega
theorem intF_le : ∀ (l : List UInt8) (n b : Int), -b ≤ n → n ≤ b → -((b + 40) * 10 ^ l.length) ≤ intF l n ∧ intF l n ≤ (b + 40) * 10 ^ l.length
  | [], n, b, h1, h2 => by
    show -((b + 40) * 1) ≤ n ∧ n ≤ (b + 40) * 1
    omega
  | c :: l, n, b, h1, h2 => by
    have hc := c.toNat_lt
    have := intF_le l (digI n c) (10 * b + 207) (by unfold digI; omega) (by unfold digI; omega)
    have e : (10 * b + 207 + 40) ≤ (b + 40) * 10 := by omega
    have hp : (0 : Int) ≤ 10 ^ l.length := Int.pow_nonneg (by decide)
    have hm := Int.mul_le_mul_of_nonneg_right e hp
    rw [List.length_cons, Int.pow_succ, Int.mul_comm (10 ^ l.length) 10, ← Int.mul_assoc]
    show _ ≤ intF l (digI n c) ∧ intF l (digI n c) ≤ _
    omega
theorem intF_small {l : List UInt8} (h : l.length ≤ 6) : -40000000 ≤ intF l 0 ∧ intF l 0 ≤ 40000000 := by
  obtain ⟨h1, h2⟩ := intF_le l 0 0 (by omega) (by omega)
  have : ∀ k, k ≤ 6 → ((0 : Int) + 40) * 10 ^ k ≤ 40000000 := fun k hk => by
    match k, hk with
    | 0, _ => exact (by decide)
    | 1, _ => exact (by decide)
    | 2, _ => exact (by decide)
    | 3, _ => exact (by decide)
    | 4, _ => exact (by decide)
    | 5, _ => exact (by decide)
    | 6, _ => exact (by decide)
  have := this _ h
  omega
theorem intF_num {q : List UInt8} {n : Nat} (h1 : 1 ≤ n) (h2 : n ≤ 999999) (h : nameP n = q) : intF (q.drop 4) 0 = n := by
  subst h
  have hd : (nameP n).drop 4 = dgs 6 n := rfl
  rw [hd, show (0 : Int) = ((0 : Nat) : Int) from rfl, intF_nat _ _ (fun c hc => (dgs_digit 6 n c hc).1), fold_dgs 6 n 0 (by omega)]
  simp
theorem numP_int {q : List UInt8} (hz : numP q ≠ 0) : intF (q.drop 4) 0 = numP q := by
  obtain ⟨h1, h2, h3⟩ := numP_pos hz
  exact intF_num h1 h2 h3
end Go.Proofs.YtceanciekadkeaaGreatDoor
