/-
  Texts joined: DvD, DvN, WlR, WlS, WlT, WlU, WlV, SlU, WlW, SlV, DvU.
-/
import Derived.Test.YtceanciekadkeaaGreatDoorMWlL3c
import Derived.Test.YtceanciekadkeaaGreatDoorMWlL3d
import Derived.Test.YtceanciekadkeaaGreatDoorMWlL3f
import Derived.Test.YtceanciekadkeaaGreatDoorMWlL3h
import Derived.Test.YtceanciekadkeaaGreatDoorMWlL3i
import Derived.Test.YtceanciekadkeaaGreatDoorMWlL3j
/- drives: what turns them, in one word each -/
namespace Go.Proofs.YtceanciekadkeaaGreatDoor
open Go.RowKit
section
variable {P : Program} {f : FuncId} {args : Array Value} {H Hr : List Chunk} {ι ι' : Type} {res : ι → Value} {φ : ι → Prop}
/-- What only reads leaves all that there is. -/
theorem Fn.keep (h : Fn P f args Hr ι res (fun _ => []) φ) (hx : ∀ D ∈ Hr, D.excl = false) (hh : ∀ w, Sat0 H w → Sat0 Hr w) : Fn P f args H ι res (fun _ => H) φ := fun w hs =>
  (h w (hh w hs)).mono fun e w' ⟨i, h1, h2, h3⟩ => ⟨i, h1, h2, by
    have hn : ∀ k, ¬ Ctx.S ⟨w, Hr⟩ k := fun k ⟨D, hD, he, _⟩ => by rw [hx D hD] at he; cases he
    have hb : ∀ k, k < w.heap.size → w'.heap[k]? = w.heap[k]? := fun k hk => h3.upd.block k hk (hn k)
    exact ⟨⟨h3.upd.os, h3.upd.tape, h3.upd.output, h3.upd.size, fun k hk _ => hb k hk⟩, ⟨fun C hC => C.loc w w' h3.upd.size (fun k hk => hb k (C.lt w k (hs.1 C hC) hk)) (hs.1 C hC), hs.2⟩, fun C hC _ hk _ => ⟨⟨C, hC, hk⟩, fun he => ⟨C, hC, he, hk⟩⟩⟩⟩
end
theorem sat0_see {H : List Chunk} {w : World} (h : Sat0 H w) {i : Nat} {C C' : Chunk} (hi : H[i]? = some C) (hx : C.excl = true) (hh : ∀ w, C.holds w → C'.holds w) (hf : ∀ k, C'.foot k → C.foot k) : Sat0 (H.set i C') w := ((Sat.start h).see hi hx hh hf).sat
theorem Sat0.mem {H : List Chunk} {w : World} (h : Sat0 H w) {C : Chunk} (hC : C ∈ H) : C.holds w := h.1 C hC
/-- A drive of one's own, read alone. -/
theorem drv_see {D : DrS} {H : List Chunk} {w : World} (h : Sat0 (D.B :: D.M :: D.F :: H) w) : D.rB.holds w ∧ D.rM.holds w ∧ D.rF.holds w := by
  have hs := Sat.start h
  exact ⟨(hs.mem (C := D.B) (i := 0) rfl : D.B.holds w), mapIn 1 rfl w hs, filIn 2 rfl w hs⟩
theorem sat0_ro3 {A B C : Chunk} {w : World} (hx : A.excl = false) (hy : B.excl = false) (hz : C.excl = false) (h : A.holds w ∧ B.holds w ∧ C.holds w) : Sat0 [A, B, C] w := by
  refine ⟨fun D hD => ?_, ?_⟩
  · simp only [List.mem_cons, List.not_mem_nil, or_false] at hD
    rcases hD with rfl | rfl | rfl
    · exact h.1
    · exact h.2.1
    · exact h.2.2
  · refine List.pairwise_iff_getElem.2 fun i j hi hj _ he => ?_
    have hall : ∀ D ∈ [A, B, C], D.excl = false := fun D hD => by
      simp only [List.mem_cons, List.not_mem_nil, or_false] at hD
      rcases hD with rfl | rfl | rfl <;> assumption
    rw [hall _ (List.getElem_mem hi), hall _ (List.getElem_mem hj)] at he
    rcases he with he | he <;> cases he
section
variable {D : DrS} {P : DrP}
theorem Fn.dkeep {f : FuncId} {args : Array Value} {H : List Chunk} {v : Value} (h : Fn Tryz.prog f args [D.rB, D.rM, D.rF] Unit (fun _ => v) (fun _ => []) (fun _ => True)) {Q : DrP} (hD : Drv D Q) :
    Fn Tryz.prog f args (D.B :: D.M :: D.F :: H) DrS (fun _ => v) (fun D' => [D'.B, D'.M, D'.F]) (fun D' => Drv D' Q ∧ D'.d = D.d ∧ D'.m = D.m) :=
  ((h.keep (H := D.B :: D.M :: D.F :: H) (fun C hC => by
    simp only [List.mem_cons, List.not_mem_nil, or_false] at hC
    rcases hC with rfl | rfl | rfl <;> rfl) (fun w hs => sat0_ro3 rfl rfl rfl (drv_see hs)))).turn fun _ _ => ⟨D, ⟨hD, rfl, rfl⟩, rfl, fun Γ w hs => by
    have : (D.B :: D.M :: D.F :: H) = [D.B, D.M, D.F] ++ H := rfl
    rw [this] at hs
    obtain ⟨h1, h2, h3⟩ := hs
    obtain ⟨s1, _, _⟩ := sat0_append.1 h2
    exact ⟨h1, s1, fun C hC => h3 C (List.mem_append_left _ hC)⟩⟩
theorem append_sl (h : Drv D P) (q : List UInt8) (hq : Good q) (A : Option Addr) (c : Nat) (l : List UInt8) (hl : l.length ≤ 1099511627776) :
    Fn Tryz.prog 34 #[D.ptr, .string (txt q), .slice A l.length c] [D.B, D.M, D.F, rdB A l] DrS (fun _ => .int .i64 (P.append q l).2) (fun D' => [D'.B, D'.M, D'.F]) (fun D' => Drv D' (P.append q l).1 ∧ D'.d = D.d ∧ D'.m = D.m) := by
  have hok := h.ok.append q l
  unfold DrP.append at hok ⊢
  rw [if_neg (fun hn => hn hq)] at hok ⊢
  by_cases hx : (P.find q = none ∧ 256 ≤ P.fs.length) ∨ 262144 < (P.bytes q).length + l.length
  · rw [if_pos hx]
    exact (append_full h q hq A c l hl hx).dkeep h
  · rw [if_neg hx] at hok ⊢
    by_cases hd : P.dead = true
    · rw [if_pos hd]
      exact (append_dead h q hq A c l hx hd).dkeep h
    · have hd : P.dead = false := by simpa using hd
      rw [hd] at hok ⊢
      rw [if_neg (by decide)] at hok ⊢
      have h2 : ¬ 262144 < (P.bytes q).length + l.length := fun e => hx (.inr e)
      cases hf : P.find q with
      | some f0 =>
        obtain ⟨f, hf2, rfl⟩ := h.hit hf
        have hb : P.bytes q = f.b := by unfold DrP.bytes; rw [hf]
        rw [hb] at h2
        rw [hf] at hok
        refine (append_hit h q hq f hf2 A c l (by omega) hd).turn fun p _ => ⟨{ D.stepD with fs := putG FiS.nm ⟨{ f.p with b := f.b ++ l }, f.g, p.1, p.2⟩ D.fs }, ⟨(h.step hd).put hok, rfl, rfl⟩, rfl, fun Γ w hs => hs⟩
      | none =>
        have hb : P.bytes q = [] := by unfold DrP.bytes; rw [hf]
        rw [hb] at h2
        rw [hf] at hok
        have hf2 := h.miss hf
        have hn : D.fs.length < 256 := by
          rw [h.len]
          have : ¬ 256 ≤ P.fs.length := fun e => hx (.inl ⟨hf, e⟩)
          omega
        refine (append_new h q hf2 hq A c l hn (by simpa using h2) hd).turn fun p _ => ⟨{ D.stepD with fs := putG FiS.nm ⟨⟨q, l, 0⟩, p.1, p.2.1, p.2.2⟩ D.fs }, ⟨(h.step hd).put hok, rfl, rfl⟩, rfl, fun Γ w hs => hs⟩
theorem sync_sl (h : Drv D P) (q : List UInt8) (hq : Good q) : Fn Tryz.prog 70 #[D.ptr, .string (txt q)] [D.B, D.M, D.F] DrS (fun _ => .int .i64 (P.sync q).2) (fun D' => [D'.B, D'.M, D'.F]) (fun D' => Drv D' (P.sync q).1 ∧ D'.d = D.d ∧ D'.m = D.m) := by
  have hok := h.ok.sync_ q
  unfold DrP.sync at hok ⊢
  cases hf : P.find q with
  | none =>
    have hf2 := h.miss hf
    dsimp only
    rw [if_pos hq]
    refine Fn.enter Tryz.func70 rfl Tryz.ntmps70 (by rfl) ?_
    intro w0
    refine Cd.seq ?_
    refine Cd.region ?_
    refine Ls.ev (some 4) (Ev.assign (show Oper.op _ = Op.assign (Operand.const (Value.int IntKind.i64 0)) from rfl) (by rfl)) (by rfl) (by rfl) ?_
    refine Ls.nil ?_
    refine Cd.seq ?_
    refine Cd.region ?_
    refine Ls.ev (some 8) (Ev.move (show Oper.op _ = Op.move (Operand.tmp 0) from rfl) (by rfl)) (by rfl) (by rfl) ?_
    refine Ls.ev (some 9) (Ev.move (show Oper.op _ = Op.move (Operand.tmp 1) from rfl) (by rfl)) (by rfl) (by rfl) ?_
    refine Ls.does (some 10) (Does.read (show Oper.op _ = Op.call { callee := Callee.value (Operand.func 56), args := #[Operand.tmp 8, Operand.tmp 9], argTypes := #[23, 9] } from rfl) Tryz.func56 (by kernel_rfl) (by kernel_rfl) (find_miss D q hq hf2) (by rfl) (by rfl) ⟨blkIn 0 (by rfl), mapIn 1 (by rfl), trivial⟩) (by rfl) (by rfl) ?_
    rintro _ -
    refine Ls.ev (some 7) (Ev.move (show Oper.op _ = Op.move (Operand.tmp 10) from rfl) (by rfl)) (by rfl) (by rfl) ?_
    refine Ls.ev (some 11) (Ev.extract (show Oper.op _ = Op.extract (Operand.tmp 7) 0 from rfl) (by rfl) (by rfl)) (by rfl) (by rfl) ?_
    refine Ls.ev (some 12) (Ev.extract (show Oper.op _ = Op.extract (Operand.tmp 7) 1 from rfl) (by rfl) (by rfl)) (by rfl) (by rfl) ?_
    refine Ls.ev (some 5) (Ev.assign (show Oper.op _ = Op.assign (Operand.tmp 11) from rfl) (by rfl)) (by rfl) (by rfl) ?_
    refine Ls.ev (some 6) (Ev.assign (show Oper.op _ = Op.assign (Operand.tmp 12) from rfl) (by rfl)) (by rfl) (by rfl) ?_
    refine Ls.nil ?_
    refine Cd.seq ?_
    refine Cd.seq ?_
    refine Cd.region ?_
    refine Ls.ev (some 13) (Ev.move (show Oper.op _ = Op.move (Operand.tmp 6) from rfl) (by rfl)) (by rfl) (by rfl) ?_
    refine Ls.ev (some 14) (Ev.eql (show Oper.op _ = Op.binOp BinOp.eql 27 (Operand.tmp 13) (Operand.const (Value.int IntKind.i64 0)) 27 from rfl) (by rfl) (by rfl)) (by rfl) (by rfl) ?_
    refine Ls.nil ?_
    refine Cd.cond_false (by rfl) (decide_eq_false (show ¬ ((4 : Int) = 0) by decide)) ?_
    refine Cd.skip ?_
    refine Cd.seq ?_
    refine Cd.seq ?_
    refine Cd.region ?_
    refine Ls.ev (some 17) (Ev.move (show Oper.op _ = Op.move (Operand.tmp 6) from rfl) (by rfl)) (by rfl) (by rfl) ?_
    refine Ls.ev (some 18) (Ev.eql (show Oper.op _ = Op.binOp BinOp.eql 27 (Operand.tmp 17) (Operand.const (Value.int IntKind.i64 0)) 27 from rfl) (by rfl) (by rfl)) (by rfl) (by rfl) ?_
    refine Ls.nil ?_
    refine Cd.cond_false (by rfl) (decide_eq_false (show ¬ ((4 : Int) = 0) by decide)) ?_
    refine Cd.skip ?_
    refine Cd.seq ?_
    refine Cd.region ?_
    refine Ls.ev (some 27) (Ev.move (show Oper.op _ = Op.move (Operand.tmp 6) from rfl) (by rfl)) (by rfl) (by rfl) ?_
    refine Ls.ev (some 4) (Ev.assign (show Oper.op _ = Op.assign (Operand.tmp 27) from rfl) (by rfl)) (by rfl) (by rfl) ?_
    refine Ls.nil ?_
    refine Cd.ret ?_
    refine Ent.ret (D) (⟨h, rfl, rfl⟩) (Res.tmp (by rfl) (by rfl)) ?_ [0, 1, 2] (by rfl) ?_
    · rfl
    · rfl
  | some f0 =>
    obtain ⟨f, hf2, rfl⟩ := h.hit hf
    rw [hf] at hok
    by_cases hd : P.dead = true
    · dsimp only
      rw [if_pos hd]
      refine Fn.enter Tryz.func70 rfl Tryz.ntmps70 (by rfl) ?_
      intro w0
      refine Cd.seq ?_
      refine Cd.region ?_
      refine Ls.ev (some 4) (Ev.assign (show Oper.op _ = Op.assign (Operand.const (Value.int IntKind.i64 0)) from rfl) (by rfl)) (by rfl) (by rfl) ?_
      refine Ls.nil ?_
      refine Cd.seq ?_
      refine Cd.region ?_
      refine Ls.ev (some 8) (Ev.move (show Oper.op _ = Op.move (Operand.tmp 0) from rfl) (by rfl)) (by rfl) (by rfl) ?_
      refine Ls.ev (some 9) (Ev.move (show Oper.op _ = Op.move (Operand.tmp 1) from rfl) (by rfl)) (by rfl) (by rfl) ?_
      refine Ls.does (some 10) (Does.read (show Oper.op _ = Op.call { callee := Callee.value (Operand.func 56), args := #[Operand.tmp 8, Operand.tmp 9], argTypes := #[23, 9] } from rfl) Tryz.func56 (by kernel_rfl) (by kernel_rfl) (find_hit D q hq f hf2) (by rfl) (by rfl) ⟨blkIn 0 (by rfl), mapIn 1 (by rfl), trivial⟩) (by rfl) (by rfl) ?_
      rintro _ -
      refine Ls.ev (some 7) (Ev.move (show Oper.op _ = Op.move (Operand.tmp 10) from rfl) (by rfl)) (by rfl) (by rfl) ?_
      refine Ls.ev (some 11) (Ev.extract (show Oper.op _ = Op.extract (Operand.tmp 7) 0 from rfl) (by rfl) (by rfl)) (by rfl) (by rfl) ?_
      refine Ls.ev (some 12) (Ev.extract (show Oper.op _ = Op.extract (Operand.tmp 7) 1 from rfl) (by rfl) (by rfl)) (by rfl) (by rfl) ?_
      refine Ls.ev (some 5) (Ev.assign (show Oper.op _ = Op.assign (Operand.tmp 11) from rfl) (by rfl)) (by rfl) (by rfl) ?_
      refine Ls.ev (some 6) (Ev.assign (show Oper.op _ = Op.assign (Operand.tmp 12) from rfl) (by rfl)) (by rfl) (by rfl) ?_
      refine Ls.nil ?_
      refine Cd.seq ?_
      refine Cd.seq ?_
      refine Cd.region ?_
      refine Ls.ev (some 13) (Ev.move (show Oper.op _ = Op.move (Operand.tmp 6) from rfl) (by rfl)) (by rfl) (by rfl) ?_
      refine Ls.ev (some 14) (Ev.eql (show Oper.op _ = Op.binOp BinOp.eql 27 (Operand.tmp 13) (Operand.const (Value.int IntKind.i64 0)) 27 from rfl) (by rfl) (by rfl)) (by rfl) (by rfl) ?_
      refine Ls.nil ?_
      refine Cd.cond_true (by rfl) (decide_eq_true rfl) ?_
      refine Cd.region ?_
      refine Ls.ev (some 15) (Ev.move (show Oper.op _ = Op.move (Operand.tmp 0) from rfl) (by rfl)) (by rfl) (by rfl) ?_
      refine Ls.does (some 16) (Does.read (show Oper.op _ = Op.call { callee := Callee.value (Operand.func 62), args := #[Operand.tmp 15], argTypes := #[23] } from rfl) Tryz.func62 (by kernel_rfl) (by kernel_rfl) (step_dead h hd) (by rfl) (by rfl) ⟨blkIn 0 (by rfl), trivial⟩) (by rfl) (by rfl) ?_
      rintro _ -
      refine Ls.ev (some 6) (Ev.assign (show Oper.op _ = Op.assign (Operand.tmp 16) from rfl) (by rfl)) (by rfl) (by rfl) ?_
      refine Ls.nil ?_
      refine Cd.seq ?_
      refine Cd.seq ?_
      refine Cd.region ?_
      refine Ls.ev (some 17) (Ev.move (show Oper.op _ = Op.move (Operand.tmp 6) from rfl) (by rfl)) (by rfl) (by rfl) ?_
      refine Ls.ev (some 18) (Ev.eql (show Oper.op _ = Op.binOp BinOp.eql 27 (Operand.tmp 17) (Operand.const (Value.int IntKind.i64 0)) 27 from rfl) (by rfl) (by rfl)) (by rfl) (by rfl) ?_
      refine Ls.nil ?_
      refine Cd.cond_false (by rfl) (decide_eq_false (show ¬ ((6 : Int) = 0) by decide)) ?_
      refine Cd.skip ?_
      refine Cd.seq ?_
      refine Cd.region ?_
      refine Ls.ev (some 27) (Ev.move (show Oper.op _ = Op.move (Operand.tmp 6) from rfl) (by rfl)) (by rfl) (by rfl) ?_
      refine Ls.ev (some 4) (Ev.assign (show Oper.op _ = Op.assign (Operand.tmp 27) from rfl) (by rfl)) (by rfl) (by rfl) ?_
      refine Ls.nil ?_
      refine Cd.ret ?_
      refine Ent.ret (D) (⟨h, rfl, rfl⟩) (Res.tmp (by rfl) (by rfl)) ?_ [0, 1, 2] (by rfl) ?_
      · rfl
      · rfl
    · have hd : P.dead = false := by simpa using hd
      rw [hd] at hok ⊢
      dsimp only at hok ⊢
      rw [if_neg (by decide)] at hok ⊢
      refine Fn.enter Tryz.func70 rfl Tryz.ntmps70 (by rfl) ?_
      intro w0
      refine Cd.seq ?_
      refine Cd.region ?_
      refine Ls.ev (some 4) (Ev.assign (show Oper.op _ = Op.assign (Operand.const (Value.int IntKind.i64 0)) from rfl) (by rfl)) (by rfl) (by rfl) ?_
      refine Ls.nil ?_
      refine Cd.seq ?_
      refine Cd.region ?_
      refine Ls.ev (some 8) (Ev.move (show Oper.op _ = Op.move (Operand.tmp 0) from rfl) (by rfl)) (by rfl) (by rfl) ?_
      refine Ls.ev (some 9) (Ev.move (show Oper.op _ = Op.move (Operand.tmp 1) from rfl) (by rfl)) (by rfl) (by rfl) ?_
      refine Ls.does (some 10) (Does.read (show Oper.op _ = Op.call { callee := Callee.value (Operand.func 56), args := #[Operand.tmp 8, Operand.tmp 9], argTypes := #[23, 9] } from rfl) Tryz.func56 (by kernel_rfl) (by kernel_rfl) (find_hit D q hq f hf2) (by rfl) (by rfl) ⟨blkIn 0 (by rfl), mapIn 1 (by rfl), trivial⟩) (by rfl) (by rfl) ?_
      rintro _ -
      refine Ls.ev (some 7) (Ev.move (show Oper.op _ = Op.move (Operand.tmp 10) from rfl) (by rfl)) (by rfl) (by rfl) ?_
      refine Ls.ev (some 11) (Ev.extract (show Oper.op _ = Op.extract (Operand.tmp 7) 0 from rfl) (by rfl) (by rfl)) (by rfl) (by rfl) ?_
      refine Ls.ev (some 12) (Ev.extract (show Oper.op _ = Op.extract (Operand.tmp 7) 1 from rfl) (by rfl) (by rfl)) (by rfl) (by rfl) ?_
      refine Ls.ev (some 5) (Ev.assign (show Oper.op _ = Op.assign (Operand.tmp 11) from rfl) (by rfl)) (by rfl) (by rfl) ?_
      refine Ls.ev (some 6) (Ev.assign (show Oper.op _ = Op.assign (Operand.tmp 12) from rfl) (by rfl)) (by rfl) (by rfl) ?_
      refine Ls.nil ?_
      refine Cd.seq ?_
      refine Cd.seq ?_
      refine Cd.region ?_
      refine Ls.ev (some 13) (Ev.move (show Oper.op _ = Op.move (Operand.tmp 6) from rfl) (by rfl)) (by rfl) (by rfl) ?_
      refine Ls.ev (some 14) (Ev.eql (show Oper.op _ = Op.binOp BinOp.eql 27 (Operand.tmp 13) (Operand.const (Value.int IntKind.i64 0)) 27 from rfl) (by rfl) (by rfl)) (by rfl) (by rfl) ?_
      refine Ls.nil ?_
      refine Cd.cond_true (by rfl) (decide_eq_true rfl) ?_
      refine Cd.region ?_
      refine Ls.ev (some 15) (Ev.move (show Oper.op _ = Op.move (Operand.tmp 0) from rfl) (by rfl)) (by rfl) (by rfl) ?_
      refine Ls.does (some 16) (Does.call [0, 1, 2] (show Oper.op _ = Op.call { callee := Callee.value (Operand.func 62), args := #[Operand.tmp 15], argTypes := #[23] } from rfl) Tryz.func62 (by kernel_rfl) (by kernel_rfl) (step_ok h hd) (by rfl) (by rfl) (by rfl)) (by rfl) (by rfl) ?_
      rintro _ -
      refine Ls.ev (some 6) (Ev.assign (show Oper.op _ = Op.assign (Operand.tmp 16) from rfl) (by rfl)) (by rfl) (by rfl) ?_
      refine Ls.nil ?_
      refine Cd.seq ?_
      refine Cd.seq ?_
      refine Cd.region ?_
      refine Ls.ev (some 17) (Ev.move (show Oper.op _ = Op.move (Operand.tmp 6) from rfl) (by rfl)) (by rfl) (by rfl) ?_
      refine Ls.ev (some 18) (Ev.eql (show Oper.op _ = Op.binOp BinOp.eql 27 (Operand.tmp 17) (Operand.const (Value.int IntKind.i64 0)) 27 from rfl) (by rfl) (by rfl)) (by rfl) (by rfl) ?_
      refine Ls.nil ?_
      refine Cd.cond_true (by rfl) (decide_eq_true rfl) ?_
      skip
      refine Ent.pick [2, 0, 1] (by rfl) ?_
      obtain ⟨a, b, hD, hP⟩ := put_split h.rise hf2
      have hqn := (findG_some hf2).2
      refine Ent.map (fun w hs => fil_open (by rw [← hD]; exact hs)) ?_
      refine Cd.region ?_
      refine Ls.ev (some 19) (Ev.move (show Oper.op _ = Op.move (Operand.tmp 5) from rfl) (by rfl)) (by rfl) (by rfl) ?_
      refine Ls.ev (some 20) (Ev.move (show Oper.op _ = Op.move (Operand.tmp 5) from rfl) (by rfl)) (by rfl) (by rfl) ?_
      refine Ls.ev (some 21) (Ev.nilCheck (show Oper.op _ = Op.nilCheck (Operand.tmp 20) from rfl) (by rfl)) (by rfl) (by rfl) ?_
      refine Ls.ev (some 22) (Ev.fieldAddr (k := 0) (show Oper.op _ = Op.fieldAddr 84 (Operand.tmp 21) 0 from rfl) (by rfl) (by kernel_rfl) (by rfl)) (by rfl) (by rfl) ?_
      refine Ls.ev (some 23) (Ev.load 0 (show Oper.op _ = Op.load 30 (Operand.tmp 22) from rfl) (by rfl) (by rfl) (by kernel_rfl) (by rfl)) (by rfl) (by rfl) ?_
      refine Ls.ev (some 24) (Ev.len (show Oper.op _ = Op.call { callee := Callee.builtin Builtin.len, args := #[Operand.tmp 23], argTypes := #[30] } from rfl) (by rfl) Tryz.underlying30) (by rfl) (by rfl) ?_
      refine Ls.ev (some 25) (Ev.nilCheck (show Oper.op _ = Op.nilCheck (Operand.tmp 19) from rfl) (by rfl)) (by rfl) (by rfl) ?_
      refine Ls.ev (some 26) (Ev.fieldAddr (k := 1) (show Oper.op _ = Op.fieldAddr 84 (Operand.tmp 25) 1 from rfl) (by rfl) (by kernel_rfl) (by rfl)) (by rfl) (by rfl) ?_
      refine Ls.does none (Does.store 0 (show Oper.op _ = Op.store 3 (Operand.tmp 26) (Operand.tmp 24) from rfl) (by rfl) (by rfl) (by rfl) (by kernel_rfl) (by rfl) (by kernel_rfl) (by rfl)) (by rfl) (by rfl) ?_
      intro _ _
      refine Ls.nil ?_
      refine Cd.seq ?_
      refine Cd.region ?_
      refine Ls.ev (some 27) (Ev.move (show Oper.op _ = Op.move (Operand.tmp 6) from rfl) (by rfl)) (by rfl) (by rfl) ?_
      refine Ls.ev (some 4) (Ev.assign (show Oper.op _ = Op.assign (Operand.tmp 27) from rfl) (by rfl)) (by rfl) (by rfl) ?_
      refine Ls.nil ?_
      refine Ent.map (fun w hs => fil_shut (a := a) (b := b) (f := ⟨{ f.p with sy := f.b.length }, f.g, f.A, f.c⟩) hs) ?_
      refine Cd.ret ?_
      refine Ent.ret ({ D.stepD with fs := putG FiS.nm ⟨{ f.p with sy := f.b.length }, f.g, f.A, f.c⟩ D.fs }) (⟨(h.step hd).put hok, rfl, rfl⟩) (Res.tmp (by rfl) (by rfl)) ?_ [1, 2, 0] (by rfl) ?_
      · rfl
      · obtain ⟨h1, h2⟩ := ptrF_same (f := f) (f' := ⟨{ f.p with sy := f.b.length }, f.g, f.A, f.c⟩) h.rise (by rw [hqn]; exact hf2) rfl rfl
        have hput := hP ⟨{ f.p with sy := f.b.length }, f.g, f.A, f.c⟩ hqn
        show [_, mapt _ _ _ _ _ _, _] = [_, mapt _ _ _ _ _ _, _]
        dsimp only
        rw [h1, h2, hput]
        rfl
theorem Drv.without (h : Drv D P) (q : List UInt8) : Drv { D with fs := delG FiS.nm q D.fs } (P.without q) := ⟨h.ok.without q, by
  show (delG FiS.nm q D.fs).map FiS.p = delG FiP.nm q P.fs
  rw [delG_map (nm' := FiP.nm) (g := FiS.p) (fun _ => rfl), h.fs], h.steps, h.armed, h.left⟩
theorem del_names (q : List UInt8) (l : List FiS) : (delG FiS.nm q l).map FiS.nm = (l.map FiS.nm).filter fun y => decide (y ≠ q) := by
  unfold delG
  rw [List.filter_map]
  rfl
theorem ptrF_del {q x : List UInt8} {l : List FiS} (h : x ≠ q) : ptrF l x = ptrF (delG FiS.nm q l) x := by
  unfold ptrF findF
  rw [findG_del, if_neg h]
theorem starx_sub {Γ : Ctx} {H : List Chunk} {w : World} {l l' : List Chunk} (hp : l'.Sublist l) (h : Sat Γ (starx l :: H) w) : Sat Γ (starx l' :: H) w :=
  h.see (i := 0) rfl rfl (fun _ hw => ⟨fun C hC => hw.1 C (hp.subset hC), hw.2.sublist hp⟩) (fun k hk => by
    obtain ⟨C, hC, hk⟩ := hk
    exact ⟨C, hp.subset hC, hk⟩)
theorem flat_sub {α β : Type} {g : α → List β} : ∀ {l l' : List α}, l'.Sublist l → (l'.flatMap g).Sublist (l.flatMap g)
  | _, _, .slnil => List.Sublist.refl _
  | _, _, .cons a h => by
    rw [List.flatMap_cons]
    exact (flat_sub h).trans (List.sublist_append_right _ _)
  | _, _, .cons_cons a h => by
    rw [List.flatMap_cons, List.flatMap_cons]
    exact (List.Sublist.refl _).append (flat_sub h)
theorem delete_sl (h : Drv D P) (q : List UInt8) (hq : Good q) : Fn Tryz.prog 53 #[D.ptr, .string (txt q)] [D.B, D.M, D.F] DrS (fun _ => .int .i64 (P.delete q).2) (fun D' => [D'.B, D'.M, D'.F]) (fun D' => Drv D' (P.delete q).1 ∧ D'.d = D.d ∧ D'.m = D.m) := by
  have hl := hq.len
  unfold DrP.delete
  cases hf : P.find q with
  | none =>
    have hf2 := h.miss hf
    dsimp only
    rw [if_pos hq]
    refine Fn.enter Tryz.func53 rfl Tryz.ntmps53 (by rfl) ?_
    intro w0
    refine Cd.seq ?_
    refine Cd.region ?_
    refine Ls.ev (some 4) (Ev.assign (show Oper.op _ = Op.assign (Operand.const (Value.int IntKind.i64 0)) from rfl) (by rfl)) (by rfl) (by rfl) ?_
    refine Ls.nil ?_
    refine Cd.seq ?_
    refine Cd.region ?_
    refine Ls.ev (some 8) (Ev.move (show Oper.op _ = Op.move (Operand.tmp 0) from rfl) (by rfl)) (by rfl) (by rfl) ?_
    refine Ls.ev (some 9) (Ev.move (show Oper.op _ = Op.move (Operand.tmp 1) from rfl) (by rfl)) (by rfl) (by rfl) ?_
    refine Ls.does (some 10) (Does.read (show Oper.op _ = Op.call { callee := Callee.value (Operand.func 56), args := #[Operand.tmp 8, Operand.tmp 9], argTypes := #[23, 9] } from rfl) Tryz.func56 (by kernel_rfl) (by kernel_rfl) (find_miss D q hq hf2) (by rfl) (by rfl) ⟨blkIn 0 (by rfl), mapIn 1 (by rfl), trivial⟩) (by rfl) (by rfl) ?_
    rintro _ -
    refine Ls.ev (some 7) (Ev.move (show Oper.op _ = Op.move (Operand.tmp 10) from rfl) (by rfl)) (by rfl) (by rfl) ?_
    refine Ls.ev (some 11) (Ev.extract (show Oper.op _ = Op.extract (Operand.tmp 7) 0 from rfl) (by rfl) (by rfl)) (by rfl) (by rfl) ?_
    refine Ls.ev (some 12) (Ev.extract (show Oper.op _ = Op.extract (Operand.tmp 7) 1 from rfl) (by rfl) (by rfl)) (by rfl) (by rfl) ?_
    refine Ls.ev (some 5) (Ev.assign (show Oper.op _ = Op.assign (Operand.tmp 11) from rfl) (by rfl)) (by rfl) (by rfl) ?_
    refine Ls.ev (some 6) (Ev.assign (show Oper.op _ = Op.assign (Operand.tmp 12) from rfl) (by rfl)) (by rfl) (by rfl) ?_
    refine Ls.nil ?_
    refine Cd.seq ?_
    refine Cd.seq ?_
    refine Cd.region ?_
    refine Ls.ev (some 13) (Ev.move (show Oper.op _ = Op.move (Operand.tmp 6) from rfl) (by rfl)) (by rfl) (by rfl) ?_
    refine Ls.ev (some 14) (Ev.eql (show Oper.op _ = Op.binOp BinOp.eql 27 (Operand.tmp 13) (Operand.const (Value.int IntKind.i64 0)) 27 from rfl) (by rfl) (by rfl)) (by rfl) (by rfl) ?_
    refine Ls.nil ?_
    refine Cd.cond_false (by rfl) (decide_eq_false (show ¬ ((4 : Int) = 0) by decide)) ?_
    refine Cd.skip ?_
    refine Cd.seq ?_
    refine Cd.seq ?_
    refine Cd.region ?_
    refine Ls.ev (some 17) (Ev.move (show Oper.op _ = Op.move (Operand.tmp 6) from rfl) (by rfl)) (by rfl) (by rfl) ?_
    refine Ls.ev (some 18) (Ev.eql (show Oper.op _ = Op.binOp BinOp.eql 27 (Operand.tmp 17) (Operand.const (Value.int IntKind.i64 0)) 27 from rfl) (by rfl) (by rfl)) (by rfl) (by rfl) ?_
    refine Ls.nil ?_
    refine Cd.cond_false (by rfl) (decide_eq_false (show ¬ ((4 : Int) = 0) by decide)) ?_
    refine Cd.skip ?_
    refine Cd.seq ?_
    refine Cd.region ?_
    refine Ls.ev (some 24) (Ev.move (show Oper.op _ = Op.move (Operand.tmp 6) from rfl) (by rfl)) (by rfl) (by rfl) ?_
    refine Ls.ev (some 4) (Ev.assign (show Oper.op _ = Op.assign (Operand.tmp 24) from rfl) (by rfl)) (by rfl) (by rfl) ?_
    refine Ls.nil ?_
    refine Cd.ret ?_
    refine Ent.ret (D) (⟨h, rfl, rfl⟩) (Res.tmp (by rfl) (by rfl)) ?_ [0, 1, 2] (by rfl) ?_
    · rfl
    · rfl
  | some f0 =>
    obtain ⟨f, hf2, rfl⟩ := h.hit hf
    by_cases hd : P.dead = true
    · dsimp only
      rw [if_pos hd]
      refine Fn.enter Tryz.func53 rfl Tryz.ntmps53 (by rfl) ?_
      intro w0
      refine Cd.seq ?_
      refine Cd.region ?_
      refine Ls.ev (some 4) (Ev.assign (show Oper.op _ = Op.assign (Operand.const (Value.int IntKind.i64 0)) from rfl) (by rfl)) (by rfl) (by rfl) ?_
      refine Ls.nil ?_
      refine Cd.seq ?_
      refine Cd.region ?_
      refine Ls.ev (some 8) (Ev.move (show Oper.op _ = Op.move (Operand.tmp 0) from rfl) (by rfl)) (by rfl) (by rfl) ?_
      refine Ls.ev (some 9) (Ev.move (show Oper.op _ = Op.move (Operand.tmp 1) from rfl) (by rfl)) (by rfl) (by rfl) ?_
      refine Ls.does (some 10) (Does.read (show Oper.op _ = Op.call { callee := Callee.value (Operand.func 56), args := #[Operand.tmp 8, Operand.tmp 9], argTypes := #[23, 9] } from rfl) Tryz.func56 (by kernel_rfl) (by kernel_rfl) (find_hit D q hq f hf2) (by rfl) (by rfl) ⟨blkIn 0 (by rfl), mapIn 1 (by rfl), trivial⟩) (by rfl) (by rfl) ?_
      rintro _ -
      refine Ls.ev (some 7) (Ev.move (show Oper.op _ = Op.move (Operand.tmp 10) from rfl) (by rfl)) (by rfl) (by rfl) ?_
      refine Ls.ev (some 11) (Ev.extract (show Oper.op _ = Op.extract (Operand.tmp 7) 0 from rfl) (by rfl) (by rfl)) (by rfl) (by rfl) ?_
      refine Ls.ev (some 12) (Ev.extract (show Oper.op _ = Op.extract (Operand.tmp 7) 1 from rfl) (by rfl) (by rfl)) (by rfl) (by rfl) ?_
      refine Ls.ev (some 5) (Ev.assign (show Oper.op _ = Op.assign (Operand.tmp 11) from rfl) (by rfl)) (by rfl) (by rfl) ?_
      refine Ls.ev (some 6) (Ev.assign (show Oper.op _ = Op.assign (Operand.tmp 12) from rfl) (by rfl)) (by rfl) (by rfl) ?_
      refine Ls.nil ?_
      refine Cd.seq ?_
      refine Cd.seq ?_
      refine Cd.region ?_
      refine Ls.ev (some 13) (Ev.move (show Oper.op _ = Op.move (Operand.tmp 6) from rfl) (by rfl)) (by rfl) (by rfl) ?_
      refine Ls.ev (some 14) (Ev.eql (show Oper.op _ = Op.binOp BinOp.eql 27 (Operand.tmp 13) (Operand.const (Value.int IntKind.i64 0)) 27 from rfl) (by rfl) (by rfl)) (by rfl) (by rfl) ?_
      refine Ls.nil ?_
      refine Cd.cond_true (by rfl) (decide_eq_true rfl) ?_
      refine Cd.region ?_
      refine Ls.ev (some 15) (Ev.move (show Oper.op _ = Op.move (Operand.tmp 0) from rfl) (by rfl)) (by rfl) (by rfl) ?_
      refine Ls.does (some 16) (Does.read (show Oper.op _ = Op.call { callee := Callee.value (Operand.func 62), args := #[Operand.tmp 15], argTypes := #[23] } from rfl) Tryz.func62 (by kernel_rfl) (by kernel_rfl) (step_dead h hd) (by rfl) (by rfl) ⟨blkIn 0 (by rfl), trivial⟩) (by rfl) (by rfl) ?_
      rintro _ -
      refine Ls.ev (some 6) (Ev.assign (show Oper.op _ = Op.assign (Operand.tmp 16) from rfl) (by rfl)) (by rfl) (by rfl) ?_
      refine Ls.nil ?_
      refine Cd.seq ?_
      refine Cd.seq ?_
      refine Cd.region ?_
      refine Ls.ev (some 17) (Ev.move (show Oper.op _ = Op.move (Operand.tmp 6) from rfl) (by rfl)) (by rfl) (by rfl) ?_
      refine Ls.ev (some 18) (Ev.eql (show Oper.op _ = Op.binOp BinOp.eql 27 (Operand.tmp 17) (Operand.const (Value.int IntKind.i64 0)) 27 from rfl) (by rfl) (by rfl)) (by rfl) (by rfl) ?_
      refine Ls.nil ?_
      refine Cd.cond_false (by rfl) (decide_eq_false (show ¬ ((6 : Int) = 0) by decide)) ?_
      refine Cd.skip ?_
      refine Cd.seq ?_
      refine Cd.region ?_
      refine Ls.ev (some 24) (Ev.move (show Oper.op _ = Op.move (Operand.tmp 6) from rfl) (by rfl)) (by rfl) (by rfl) ?_
      refine Ls.ev (some 4) (Ev.assign (show Oper.op _ = Op.assign (Operand.tmp 24) from rfl) (by rfl)) (by rfl) (by rfl) ?_
      refine Ls.nil ?_
      refine Cd.ret ?_
      refine Ent.ret (D) (⟨h, rfl, rfl⟩) (Res.tmp (by rfl) (by rfl)) ?_ [0, 1, 2] (by rfl) ?_
      · rfl
      · rfl
    · have hd : P.dead = false := by simpa using hd
      rw [hd]
      dsimp only
      rw [if_neg (by decide)]
      refine Fn.enter Tryz.func53 rfl Tryz.ntmps53 (by rfl) ?_
      intro w0
      refine Cd.seq ?_
      refine Cd.region ?_
      refine Ls.ev (some 4) (Ev.assign (show Oper.op _ = Op.assign (Operand.const (Value.int IntKind.i64 0)) from rfl) (by rfl)) (by rfl) (by rfl) ?_
      refine Ls.nil ?_
      refine Cd.seq ?_
      refine Cd.region ?_
      refine Ls.ev (some 8) (Ev.move (show Oper.op _ = Op.move (Operand.tmp 0) from rfl) (by rfl)) (by rfl) (by rfl) ?_
      refine Ls.ev (some 9) (Ev.move (show Oper.op _ = Op.move (Operand.tmp 1) from rfl) (by rfl)) (by rfl) (by rfl) ?_
      refine Ls.does (some 10) (Does.read (show Oper.op _ = Op.call { callee := Callee.value (Operand.func 56), args := #[Operand.tmp 8, Operand.tmp 9], argTypes := #[23, 9] } from rfl) Tryz.func56 (by kernel_rfl) (by kernel_rfl) (find_hit D q hq f hf2) (by rfl) (by rfl) ⟨blkIn 0 (by rfl), mapIn 1 (by rfl), trivial⟩) (by rfl) (by rfl) ?_
      rintro _ -
      refine Ls.ev (some 7) (Ev.move (show Oper.op _ = Op.move (Operand.tmp 10) from rfl) (by rfl)) (by rfl) (by rfl) ?_
      refine Ls.ev (some 11) (Ev.extract (show Oper.op _ = Op.extract (Operand.tmp 7) 0 from rfl) (by rfl) (by rfl)) (by rfl) (by rfl) ?_
      refine Ls.ev (some 12) (Ev.extract (show Oper.op _ = Op.extract (Operand.tmp 7) 1 from rfl) (by rfl) (by rfl)) (by rfl) (by rfl) ?_
      refine Ls.ev (some 5) (Ev.assign (show Oper.op _ = Op.assign (Operand.tmp 11) from rfl) (by rfl)) (by rfl) (by rfl) ?_
      refine Ls.ev (some 6) (Ev.assign (show Oper.op _ = Op.assign (Operand.tmp 12) from rfl) (by rfl)) (by rfl) (by rfl) ?_
      refine Ls.nil ?_
      refine Cd.seq ?_
      refine Cd.seq ?_
      refine Cd.region ?_
      refine Ls.ev (some 13) (Ev.move (show Oper.op _ = Op.move (Operand.tmp 6) from rfl) (by rfl)) (by rfl) (by rfl) ?_
      refine Ls.ev (some 14) (Ev.eql (show Oper.op _ = Op.binOp BinOp.eql 27 (Operand.tmp 13) (Operand.const (Value.int IntKind.i64 0)) 27 from rfl) (by rfl) (by rfl)) (by rfl) (by rfl) ?_
      refine Ls.nil ?_
      refine Cd.cond_true (by rfl) (decide_eq_true rfl) ?_
      refine Cd.region ?_
      refine Ls.ev (some 15) (Ev.move (show Oper.op _ = Op.move (Operand.tmp 0) from rfl) (by rfl)) (by rfl) (by rfl) ?_
      refine Ls.does (some 16) (Does.call [0, 1, 2] (show Oper.op _ = Op.call { callee := Callee.value (Operand.func 62), args := #[Operand.tmp 15], argTypes := #[23] } from rfl) Tryz.func62 (by kernel_rfl) (by kernel_rfl) (step_ok h hd) (by rfl) (by rfl) (by rfl)) (by rfl) (by rfl) ?_
      rintro _ -
      refine Ls.ev (some 6) (Ev.assign (show Oper.op _ = Op.assign (Operand.tmp 16) from rfl) (by rfl)) (by rfl) (by rfl) ?_
      refine Ls.nil ?_
      refine Cd.seq ?_
      refine Cd.seq ?_
      refine Cd.region ?_
      refine Ls.ev (some 17) (Ev.move (show Oper.op _ = Op.move (Operand.tmp 6) from rfl) (by rfl)) (by rfl) (by rfl) ?_
      refine Ls.ev (some 18) (Ev.eql (show Oper.op _ = Op.binOp BinOp.eql 27 (Operand.tmp 17) (Operand.const (Value.int IntKind.i64 0)) 27 from rfl) (by rfl) (by rfl)) (by rfl) (by rfl) ?_
      refine Ls.nil ?_
      refine Cd.cond_true (by rfl) (decide_eq_true rfl) ?_
      refine Cd.region ?_
      refine Ls.ev (some 19) (Ev.move (show Oper.op _ = Op.move (Operand.tmp 0) from rfl) (by rfl)) (by rfl) (by rfl) ?_
      refine Ls.ev (some 20) (Ev.nilCheck (show Oper.op _ = Op.nilCheck (Operand.tmp 19) from rfl) (by rfl)) (by rfl) (by rfl) ?_
      refine Ls.ev (some 21) (Ev.fieldAddr (k := 0) (show Oper.op _ = Op.fieldAddr 67 (Operand.tmp 20) 0 from rfl) (by rfl) (by kernel_rfl) (by rfl)) (by rfl) (by rfl) ?_
      refine Ls.ev (some 22) (Ev.load 0 (show Oper.op _ = Op.load 65 (Operand.tmp 21) from rfl) (by rfl) (by rfl) (by kernel_rfl) (by rfl)) (by rfl) (by rfl) ?_
      refine Ls.ev (some 23) (Ev.move (show Oper.op _ = Op.move (Operand.tmp 1) from rfl) (by rfl)) (by rfl) (by rfl) ?_
      refine Ls.does none (Does.delT 1 (show Oper.op _ = Op.call { callee := Callee.builtin Builtin.delete, args := #[Operand.tmp 22, Operand.tmp 23], argTypes := #[65, 9] } from rfl) (by rfl) (by rfl) (by rfl) Tryz.underlying9 Tryz.underlying65 (by unfold maxLen; omega)) (by rfl) (by rfl) ?_
      rintro _ -
      refine Ls.nil ?_
      refine Cd.seq ?_
      refine Cd.region ?_
      refine Ls.ev (some 24) (Ev.move (show Oper.op _ = Op.move (Operand.tmp 6) from rfl) (by rfl)) (by rfl) (by rfl) ?_
      refine Ls.ev (some 4) (Ev.assign (show Oper.op _ = Op.assign (Operand.tmp 24) from rfl) (by rfl)) (by rfl) (by rfl) ?_
      refine Ls.nil ?_
      refine Ent.pick [1, 0, 2] (by rfl) ?_
      refine Ent.map (fun w hs => mapt_perm (ks' := (delG FiS.nm q D.fs).map FiS.nm) (f' := ptrF (delG FiS.nm q D.fs)) (by rw [del_names]) (fun x hx => ptrF_del (fun e => by
        rw [del_names, e] at hx
        simp at hx)) hs) ?_
      refine Ent.pick [2, 1, 0] (by rfl) ?_
      refine Ent.map (fun w hs => starx_sub (l' := (delG FiS.nm q D.fs).flatMap fun f => [f.B, f.R]) (flat_sub List.filter_sublist) hs) ?_
      refine Cd.ret ?_
      refine Ent.ret ({ D.stepD with fs := delG FiS.nm q D.fs }) (⟨(h.step hd).without q, rfl, rfl⟩) (Res.tmp (by rfl) (by rfl)) ?_ [1, 2, 0] (by rfl) ?_
      · rfl
      · rfl
theorem Drv.arm (h : Drv D P) (n : Int) (h0 : 0 ≤ n) (h1 : n ≤ 9223372036854775807) : Drv { D with armed := true, left := n } { P with left := some n.toNat } := ⟨⟨h.ok.rise, h.ok.good, h.ok.len, h.ok.size, h.ok.sync, fun m hm => by
    have : n.toNat = m := Option.some.inj hm
    omega⟩, h.fs, h.steps, rfl, fun m hm => by
    have : n.toNat = m := Option.some.inj hm
    show n = m
    omega⟩
theorem arm_sl (h : Drv D P) (n : Int) (h1 : n ≤ 9223372036854775807) : Fn Tryz.prog 21 #[D.ptr, .int .i64 n] [D.B, D.M, D.F] DrS (fun _ => .int .i64 (P.arm n).2) (fun D' => [D'.B, D'.M, D'.F]) (fun D' => Drv D' (P.arm n).1 ∧ D'.d = D.d ∧ D'.m = D.m) := by
  unfold DrP.arm
  refine Fn.enter Tryz.func21 rfl Tryz.ntmps21 (by rfl) ?_
  intro w0
  refine Cd.seq ?_
  refine Cd.region ?_
  refine Ls.ev (some 4) (Ev.assign (show Oper.op _ = Op.assign (Operand.const (Value.int IntKind.i64 0)) from rfl) (by rfl)) (by rfl) (by rfl) ?_
  refine Ls.nil ?_
  refine Cd.seq ?_
  refine Cd.block ?_
  refine Cd.seq ?_
  refine Cd.region ?_
  refine Ls.ev (some 6) (Ev.move (show Oper.op _ = Op.move (Operand.tmp 1) from rfl) (by rfl)) (by rfl) (by rfl) ?_
  refine Ls.ev (some 7) (Ev.lss (show Oper.op _ = Op.binOp BinOp.lss 3 (Operand.tmp 6) (Operand.const (Value.int IntKind.i64 0)) 3 from rfl) (by rfl) (by rfl)) (by rfl) (by rfl) ?_
  refine Ls.ev (some 5) (Ev.assign (show Oper.op _ = Op.assign (Operand.tmp 7) from rfl) (by rfl)) (by rfl) (by rfl) ?_
  refine Ls.nil ?_
  by_cases h0 : n < 0
  · skip
    rw [if_pos h0]
    refine Cd.cond_true (by rfl) (decide_eq_true h0) ?_
    refine Cd.seq ?_
    refine Cd.region ?_
    refine Ls.ev (some 4) (Ev.assign (show Oper.op _ = Op.assign (Operand.const (Value.int IntKind.i64 1)) from rfl) (by rfl)) (by rfl) (by rfl) ?_
    refine Ls.nil ?_
    refine Cd.ret ?_
    refine Ent.ret (D) (⟨h, rfl, rfl⟩) (Res.tmp (by rfl) (by rfl)) ?_ [0, 1, 2] (by rfl) ?_
    · rfl
    · rfl
  · skip
    rw [if_neg h0]
    refine Cd.cond_false (by rfl) (decide_eq_false h0) ?_
    refine Cd.seq ?_
    refine Cd.region ?_
    refine Ls.ev (some 9) (Ev.move (show Oper.op _ = Op.move (Operand.tmp 0) from rfl) (by rfl)) (by rfl) (by rfl) ?_
    refine Ls.does (some 10) (Does.read (show Oper.op _ = Op.call { callee := Callee.value (Operand.func 46), args := #[Operand.tmp 9], argTypes := #[23] } from rfl) Tryz.func46 (by kernel_rfl) (by kernel_rfl) (dead_sl h) (by rfl) (by rfl) ⟨blkIn 0 (by rfl), trivial⟩) (by rfl) (by rfl) ?_
    rintro _ -
    refine Ls.ev (some 8) (Ev.assign (show Oper.op _ = Op.assign (Operand.tmp 10) from rfl) (by rfl)) (by rfl) (by rfl) ?_
    refine Ls.nil ?_
    by_cases hd : P.dead = true
    · skip
      rw [if_pos hd]
      refine Cd.cond_true (by rfl) (hd) ?_
      refine Cd.seq ?_
      refine Cd.region ?_
      refine Ls.ev (some 4) (Ev.assign (show Oper.op _ = Op.assign (Operand.const (Value.int IntKind.i64 6)) from rfl) (by rfl)) (by rfl) (by rfl) ?_
      refine Ls.nil ?_
      refine Cd.ret ?_
      refine Ent.ret (D) (⟨h, rfl, rfl⟩) (Res.tmp (by rfl) (by rfl)) ?_ [0, 1, 2] (by rfl) ?_
      · rfl
      · rfl
    · skip
      rw [if_neg hd]
      refine Cd.cond_false (by rfl) ((by simpa using hd)) ?_
      refine Cd.skip ?_
      refine Cd.seq ?_
      refine Cd.region ?_
      refine Ls.ev (some 11) (Ev.move (show Oper.op _ = Op.move (Operand.tmp 0) from rfl) (by rfl)) (by rfl) (by rfl) ?_
      refine Ls.ev (some 12) (Ev.move (show Oper.op _ = Op.move (Operand.tmp 0) from rfl) (by rfl)) (by rfl) (by rfl) ?_
      refine Ls.ev (some 13) (Ev.move (show Oper.op _ = Op.move (Operand.tmp 1) from rfl) (by rfl)) (by rfl) (by rfl) ?_
      refine Ls.ev (some 14) (Ev.nilCheck (show Oper.op _ = Op.nilCheck (Operand.tmp 11) from rfl) (by rfl)) (by rfl) (by rfl) ?_
      refine Ls.ev (some 15) (Ev.fieldAddr (k := 2) (show Oper.op _ = Op.fieldAddr 67 (Operand.tmp 14) 2 from rfl) (by rfl) (by kernel_rfl) (by rfl)) (by rfl) (by rfl) ?_
      refine Ls.does none (Does.store 0 (show Oper.op _ = Op.store 4 (Operand.tmp 15) (Operand.const (Value.bool true)) from rfl) (by rfl) (by rfl) (by rfl) (by kernel_rfl) (by rfl) (by kernel_rfl) (by rfl)) (by rfl) (by rfl) ?_
      intro _ _
      refine Ls.ev (some 16) (Ev.nilCheck (show Oper.op _ = Op.nilCheck (Operand.tmp 12) from rfl) (by rfl)) (by rfl) (by rfl) ?_
      refine Ls.ev (some 17) (Ev.fieldAddr (k := 3) (show Oper.op _ = Op.fieldAddr 67 (Operand.tmp 16) 3 from rfl) (by rfl) (by kernel_rfl) (by rfl)) (by rfl) (by rfl) ?_
      refine Ls.does none (Does.store 0 (show Oper.op _ = Op.store 3 (Operand.tmp 17) (Operand.tmp 13) from rfl) (by rfl) (by rfl) (by rfl) (by kernel_rfl) (by rfl) (by kernel_rfl) (by rfl)) (by rfl) (by rfl) ?_
      intro _ _
      refine Ls.nil ?_
      refine Cd.seq ?_
      refine Cd.region ?_
      refine Ls.ev (some 4) (Ev.assign (show Oper.op _ = Op.assign (Operand.const (Value.int IntKind.i64 0)) from rfl) (by rfl)) (by rfl) (by rfl) ?_
      refine Ls.nil ?_
      refine Cd.ret ?_
      refine Ent.ret ({ D with armed := true, left := n }) (⟨h.arm n (by omega) h1, rfl, rfl⟩) (Res.tmp (by rfl) (by rfl)) ?_ [0, 1, 2] (by rfl) ?_
      · rfl
      · rfl
end
end Go.Proofs.YtceanciekadkeaaGreatDoor
/- drives: names told -/
namespace Go.Proofs.YtceanciekadkeaaGreatDoor
open Go.RowKit
abbrev txts (l : List (List UInt8)) : List Value := strs (l.map txt)
theorem txts_len (l : List (List UInt8)) : (txts l).length = l.length := by simp [strs]
theorem sat_one {w w' : World} {H : List Chunk} {C : Chunk} (hb : Below w.heap.size w w') (h : C.holds w') (hf : ∀ k, C.foot k → w.heap.size ≤ k) : Sat ⟨w, H⟩ [C] w' :=
  ⟨Upd.of_below hb, ⟨fun D hD => by
    obtain rfl : D = C := by simpa using hD
    exact h, List.pairwise_singleton _ _⟩, fun D hD => by
    obtain rfl : D = C := by simpa using hD
    intro k hk hlt
    have := hf k hk
    dsimp only at hlt
    omega⟩
theorem keys_sl (m : Nat) : Fn Tryz.prog 65 #[.map (some m)] [] Nat (fun g => .func (.func 85) #[] #[.pointer (some ⟨g, 0, none⟩)]) (fun g => [blk g 65 [.map (some m)]]) (fun _ => True) := fun w _ => by
  refine (Tryz.maps_Keys (some m) w).mono ?_
  rintro e w' ⟨rfl, rfl⟩
  exact ⟨w.heap.size, trivial, rfl, sat_one (Below.alloc (Below.refl _ _) (Nat.le_refl _) _) (Blk.new w _ _) (fun k hk => Nat.le_of_eq hk.symm)⟩
theorem sorted_sl {D : DrS} {P : DrP} (h : Drv D P) (g : Nat) : Fn Tryz.prog 64 #[.func (.func 85) #[] #[.pointer (some ⟨g, 0, none⟩)]] [rblk g 65 [.map (some D.m)], D.rM] (Option Addr × Nat) (fun p => .slice p.1 P.fs.length p.2) (fun p => [row p.1 P.fs.length p.2 9 1 (txts (P.fs.map FiP.nm))]) (fun _ => True) := fun w hs => by
  have hb : Blk w g 65 #[.map (some D.m)] := hs.1 _ List.mem_cons_self
  obtain ⟨D0, hown, hnd, hh, _⟩ := (hs.1 _ (List.mem_cons_of_mem _ List.mem_cons_self) : MapT w Tryz.prog 9 D.m (.pointer none) (D.fs.map FiS.nm) (ptrF D.fs))
  obtain ⟨hp, hsz⟩ := perm_of hown Tryz.underlying9 hnd hh
  have hn := h.ok.len
  rw [List.length_map, h.len] at hsz
  refine (Tryz.slices_Sorted_keys g D.m _ D0 asIs w hb.lt (by simpa using hb.cell 0) hown (by unfold maxLen; omega) (by omega)).mono ?_
  rintro e w' ⟨v, ss, rfl, hS, hrow, _, hbl⟩
  have h1 : ss.mergeSort (fun x y => decide (x ≤ y)) = P.fs.map FiP.nm := by
    rw [mergeSort_of_perm (hS.trans hp.symm), h.names]
    exact rise_sorted (List.pairwise_map.2 h.ok.rise)
  have h2 : ss.length = P.fs.length := by rw [(hS.trans hp.symm).length_eq, List.length_map, h.len]
  rw [h1, h2] at hrow
  have h3 : (P.fs.map FiP.nm).map encStr = txts (P.fs.map FiP.nm) := by
    unfold txts strs
    rw [List.map_map, List.map_map, List.map_map]
    rfl
  rw [h3] at hrow
  obtain ⟨A, c, rfl⟩ : ∃ A c, v = .slice A P.fs.length c := by
    rcases hrow.2 with ⟨rfl, h0⟩ | ⟨g', cap, cur, rfl, _⟩
    · exact ⟨none, 0, by rw [h0]⟩
    · exact ⟨_, _, rfl⟩
  exact ⟨(A, c), trivial, rfl, sat_row hrow hbl⟩
theorem names_sl {D : DrS} {P : DrP} (h : Drv D P) : Fn Tryz.prog 44 #[D.ptr] [D.rB, D.rM] (Option Addr × Nat) (fun p => .slice p.1 P.fs.length p.2) (fun p => [row p.1 P.fs.length p.2 9 1 (txts (P.fs.map FiP.nm))]) (fun _ => True) := by
  refine Fn.enter Tryz.func44 rfl Tryz.ntmps44 (by rfl) ?_
  intro w0
  skip
  refine Cd.seq ?_
  refine Cd.region ?_
  refine Ls.ev (some 2) (Ev.assign (show Oper.op _ = Op.assign (Operand.const (Value.slice none 0 0)) from rfl) (by rfl)) (by rfl) (by rfl) ?_
  refine Ls.nil ?_
  refine Cd.seq ?_
  refine Cd.region ?_
  refine Ls.ev (some 3) (Ev.move (show Oper.op _ = Op.move (Operand.tmp 0) from rfl) (by rfl)) (by rfl) (by rfl) ?_
  refine Ls.ev (some 4) (Ev.nilCheck (show Oper.op _ = Op.nilCheck (Operand.tmp 3) from rfl) (by rfl)) (by rfl) (by rfl) ?_
  refine Ls.ev (some 5) (Ev.fieldAddr (k := 0) (show Oper.op _ = Op.fieldAddr 67 (Operand.tmp 4) 0 from rfl) (by rfl) (by kernel_rfl) (by rfl)) (by rfl) (by rfl) ?_
  refine Ls.ev (some 6) (Ev.loadB 0 (show Oper.op _ = Op.load 65 (Operand.tmp 5) from rfl) (by rfl) (by rfl) (by kernel_rfl) (by rfl)) (by rfl) (by rfl) ?_
  refine Ls.does (some 7) (Does.call [0, 1] (show Oper.op _ = Op.call { callee := Callee.value (Operand.func 65), args := #[Operand.tmp 6], argTypes := #[65] } from rfl) Tryz.func65 (by kernel_rfl) (by kernel_rfl) (keys_sl D.m) (by rfl) (by rfl) (by rfl)) (by rfl) (by rfl) ?_
  rintro g -
  refine Ent.seeBlk 0 (by rfl) ?_
  skip
  refine Ls.does (some 8) (Does.call [0, 2] (show Oper.op _ = Op.call { callee := Callee.value (Operand.func 64), args := #[Operand.tmp 7], argTypes := #[114] } from rfl) Tryz.func64 (by kernel_rfl) (by kernel_rfl) (sorted_sl h g) (by rfl) (by rfl) (by rfl)) (by rfl) (by rfl) ?_
  rintro p -
  refine Ls.ev (some 2) (Ev.assign (show Oper.op _ = Op.assign (Operand.tmp 8) from rfl) (by rfl)) (by rfl) (by rfl) ?_
  refine Ls.nil ?_
  refine Cd.ret ?_
  refine Ent.ret (p) (trivial) (Res.tmp (by rfl) (by rfl)) ?_ [0] (by rfl) ?_
  · rfl
  · rfl
end Go.Proofs.YtceanciekadkeaaGreatDoor
/- walks: segments' names and numbers -/
namespace Go.Proofs.YtceanciekadkeaaGreatDoor
open Go.RowKit
/-- What the library's variables hold. -/
def laidH (w : World) : Prop := Lib.TabIs Tryz.prog w "internal/strconv.uint64pow10" .u64 Lib.pow10Tab ∧ (∃ tp p, w.var? Tryz.prog "strconv.ErrSyntax" = some #[.iface tp p]) ∧ ∃ tp p, w.var? Tryz.prog "strconv.ErrRange" = some #[.iface tp p]
theorem cell_lt {w : World} {g k : Nat} {v : Value} (h : w.cell? ⟨g, k, none⟩ = some v) : g < w.heap.size := by
  rcases Nat.lt_or_ge g w.heap.size with h1 | h1
  · exact h1
  · simp [World.cell?, Array.getElem?_eq_none h1] at h
theorem var_heap {P : Program} {w w' : World} {n : String} {g : Nat} (hg : P.globalNamed n = some g) (h : w'.heap[g]? = w.heap[g]?) : w'.var? P n = w.var? P n := by
  simp only [World.var?, hg, Option.bind_some, h]
theorem var_lt {P : Program} {w : World} {n : String} {g : Nat} {cs : Array Value} {v : Value} (hg : P.globalNamed n = some g) (h : w.var? P n = some cs) (h0 : cs[0]? = some v) : g < w.heap.size := cell_lt ((World.var?_cell hg h 0).trans h0)
theorem gT : Tryz.prog.globalNamed "internal/strconv.uint64pow10" = some 2 := by kernel_rfl
theorem gS : Tryz.prog.globalNamed "strconv.ErrSyntax" = some 0 := by kernel_rfl
theorem gR : Tryz.prog.globalNamed "strconv.ErrRange" = some 1 := by kernel_rfl
def laidC : Chunk where
  holds := laidH
  foot k := k = 2 ∨ k = 0 ∨ k = 1
  excl := false
  lt := by
    rintro w k ⟨h2, ⟨tp, p, h3⟩, ⟨tp', p', h4⟩⟩ (rfl | rfl | rfl)
    · exact var_lt gT h2 (v := .int .u64 1) rfl
    · exact var_lt gS h3 rfl
    · exact var_lt gR h4 rfl
  loc := by
    rintro w w' _ he ⟨h2, h3, h4⟩
    refine ⟨?_, ?_, ?_⟩
    · exact (var_heap gT (he _ (.inl rfl))).trans h2
    · rw [var_heap gS (he _ (.inr (.inl rfl)))]
      exact h3
    · rw [var_heap gR (he _ (.inr (.inr rfl)))]
      exact h4
theorem sat_laid {w : World} {H : List Chunk} (i : Nat) (hi : H[i]? = some laidC) (h : Sat0 H w) : laidH w := h.1 _ (List.mem_of_getElem? hi)
theorem laidIn {Γ : Ctx} {H : List Chunk} (i : Nat) (hi : H[i]? = some laidC) : ∀ w, Sat Γ H w → laidC.holds w := fun _ hs => hs.mem hi
theorem below_gd (w : World) (k : Nat) (os : Array Obj) : Below w.heap.size w (Go.Sort.grow (w.drewN k) os) :=
  ⟨rfl, rfl, rfl, by show w.heap.size ≤ (w.heap ++ os).size; rw [Array.size_append]; omega, fun j hj => by
    show (w.heap ++ os)[j]? = _
    rw [Array.getElem?_append_left hj]⟩
abbrev in64 (n : Int) : Prop := -9223372036854775808 ≤ n ∧ n ≤ 9223372036854775807
theorem itoa_sl (n : Int) (h : in64 n) : Fn Tryz.prog 57 #[.int .i64 n] [laidC] Unit (fun _ => .string (txt (Lib.itoa n))) (fun _ => []) (fun _ => True) :=
  Fn.of_below fun w hs => (Tryz.strconv_Itoa n h.1 h.2 w (sat_laid 0 rfl hs).1).mono fun _ _ ⟨he, k, os, hw⟩ => ⟨he, hw ▸ below_gd w k os⟩
/-- How Atoi ends. -/
def atoiR (t : List UInt8) (p : Int × Value) : Prop := match Lib.atoiAll t with
  | .ok v => p.1 = v ∧ p.2 = .nilIface
  | _ => ∃ te pe, p.2 = .iface te pe
theorem atoi_sl (t : List UInt8) (ht : t.length ≤ 1048576) : Fn Tryz.prog 72 #[.string (txt t)] [laidC] (Int × Value) (fun p => .tuple #[.int .i64 p.1, p.2]) (fun _ => []) (atoiR t) := fun w hs => by
  obtain ⟨_, ⟨tp, p, h3⟩, ⟨tp', p', h4⟩⟩ := sat_laid 0 rfl hs
  have hz : (txt t).size = t.length := rfl
  have hd : (txt t).data.toList = t := rfl
  unfold atoiR
  cases he : Lib.atoiAll t with
  | ok v =>
    refine (Tryz.strconv_Atoi_ok (txt t) (by omega) v (by rw [hd, he]) w).mono ?_
    rintro e w' ⟨rfl, hw⟩
    refine ⟨(v, .nilIface), ⟨rfl, rfl⟩, rfl, sat_nil ?_⟩
    rcases hw with rfl | ⟨s', rfl⟩
    · exact Below.refl _ _
    · exact Lib.bytesWorld_below w _ s'
  | range =>
    refine (Tryz.strconv_Atoi_range_var (txt t) (by omega) (by rw [hd, he]) tp' p' w h4).mono ?_
    rintro e w' ⟨N, rfl, _, _, hb⟩
    exact ⟨(Lib.atoiSat (txt t).data.toList, _), ⟨_, _, rfl⟩, rfl, sat_nil hb⟩
  | _ =>
    refine (Tryz.strconv_Atoi_syntax_var (txt t) (by omega) (fun v h => by rw [hd, he] at h; cases h) (fun h => by rw [hd, he] at h; cases h) tp p w h3).mono ?_
    rintro e w' ⟨N, rfl, _, _, hb⟩
    exact ⟨(0, _), ⟨_, _, rfl⟩, rfl, sat_nil hb⟩
theorem repL (c : UInt8) : ∀ k, Lib.repeatL [c] k = List.replicate k c
  | 0 => by simp [Lib.repeatL]
  | k + 1 => by
    have := repL c k
    simp only [Lib.repeatL] at this ⊢
    simp_all [List.replicate_succ]
theorem repeat_sl (k : Nat) (hk : k ≤ 6) : Fn Tryz.prog 58 #[.string (txt [48]), .int .i64 k] [] Unit (fun _ => .string (txt (List.replicate k 48))) (fun _ => []) (fun _ => True) :=
  Fn.of_below fun w _ => (Tryz.strings_Repeat (txt [48]) k w (by omega) (by show 1 * k ≤ _; omega)).mono fun _ _ ⟨he, hw⟩ => ⟨he.trans (by
    show Ending.returned (.string ⟨(Lib.repeatL [48] k).toArray⟩) = _
    rw [repL]
    rfl), hw⟩
theorem name_sl (n : Nat) (hn : n ≤ 999999) : Fn Tryz.prog 28 #[.int .i64 n] [laidC] Unit (fun _ => .string (txt (nameP n))) (fun _ => []) (fun _ => True) := by
  obtain ⟨h1, h2⟩ := pad6 (n := n) (by omega)
  have hs : (txt (Lib.itoa n)).size = (Lib.itoa n).length := rfl
  refine Fn.enter Tryz.func28 rfl Tryz.ntmps28 (by rfl) ?_
  intro w0
  refine Cd.seq ?_
  refine Cd.region ?_
  refine Ls.ev (some 2) (Ev.assign (show Oper.op _ = Op.assign (Operand.const (Value.string { data := #[] })) from rfl) (by rfl)) (by rfl) (by rfl) ?_
  refine Ls.nil ?_
  refine Cd.seq ?_
  refine Cd.region ?_
  refine Ls.ev (some 4) (Ev.move (show Oper.op _ = Op.move (Operand.tmp 0) from rfl) (by rfl)) (by rfl) (by rfl) ?_
  refine Ls.does (some 5) (Does.read (show Oper.op _ = Op.call { callee := Callee.value (Operand.func 57), args := #[Operand.tmp 4], argTypes := #[3] } from rfl) Tryz.func57 (by kernel_rfl) (by kernel_rfl) (itoa_sl n (by constructor <;> omega)) (by rfl) (by rfl) ⟨laidIn 0 (by rfl), trivial⟩) (by rfl) (by rfl) ?_
  rintro _ -
  skip
  refine Ls.ev (some 3) (Ev.assign (show Oper.op _ = Op.assign (Operand.tmp 5) from rfl) (by rfl)) (by rfl) (by rfl) ?_
  refine Ls.nil ?_
  refine Cd.seq ?_
  refine Cd.region ?_
  refine Ls.ev (some 6) (Ev.move (show Oper.op _ = Op.move (Operand.tmp 3) from rfl) (by rfl)) (by rfl) (by rfl) ?_
  refine Ls.ev (some 7) (Ev.lenS (show Oper.op _ = Op.call { callee := Callee.builtin Builtin.len, args := #[Operand.tmp 6], argTypes := #[9] } from rfl) (by rfl) Tryz.underlying9) (by rfl) (by rfl) ?_
  refine Ls.ev (some 8) (Ev.subN (a := 6) (show Oper.op _ = Op.binOp BinOp.sub 3 (Operand.const (Value.int IntKind.i64 6)) (Operand.tmp 7) 3 from rfl) (by rfl) (by rfl) (by omega)) (by rfl) (by rfl) ?_
  refine Ls.does (some 9) (Does.read (show Oper.op _ = Op.call { callee := Callee.value (Operand.func 58), args := #[Operand.const (Value.string { data := #[48] }), Operand.tmp 8], argTypes := #[9, 3] } from rfl) Tryz.func58 (by kernel_rfl) (by kernel_rfl) (repeat_sl (6 - (Lib.itoa n).length) (by omega)) (by rfl) (by rfl) trivial) (by rfl) (by rfl) ?_
  rintro _ -
  refine Ls.ev (some 10) (Ev.addS (show Oper.op _ = Op.binOp BinOp.add 9 (Operand.const (Value.string { data := #[119, 97, 108, 45] })) (Operand.tmp 9) 9 from rfl) (by rfl) (by rfl) (by show (4 : Nat) + (List.replicate (6 - (Lib.itoa n).length) 48).length ≤ _; rw [List.length_replicate]; omega)) (by rfl) (by rfl) ?_
  refine Ls.ev (some 11) (Ev.move (show Oper.op _ = Op.move (Operand.tmp 3) from rfl) (by rfl)) (by rfl) (by rfl) ?_
  refine Ls.ev (some 12) (Ev.addS (show Oper.op _ = Op.binOp BinOp.add 9 (Operand.tmp 10) (Operand.tmp 11) 9 from rfl) (by rfl) (by rfl) (by
    have h3 : (⟨#[119, 97, 108, 45]⟩ ++ txt (List.replicate (6 - (Lib.itoa n).length) 48)).size = 4 + (6 - (Lib.itoa n).length) := by
      rw [ByteArray.size_append]
      show 4 + (List.replicate (6 - (Lib.itoa n).length) 48).length = _
      rw [List.length_replicate]
    rw [h3]
    omega)) (by rfl) (by rfl) ?_
  refine Ls.ev (some 2) (Ev.assign (show Oper.op _ = Op.assign (Operand.tmp 12) from rfl) (by rfl)) (by rfl) (by rfl) ?_
  refine Ls.nil ?_
  refine Cd.ret ?_
  refine Ent.ret (()) (trivial) (Res.tmp (by rfl) (by rfl)) ?_ [] (by rfl) ?_
  · rw [nameP, ← h1]
    rfl
  · rfl
theorem cut_sl (s p : List UInt8) : Fn Tryz.prog 71 #[.string (txt s), .string (txt p)] [] Unit (fun _ => .tuple #[.string (txt (Lib.trimPrefix s p)), .bool (Lib.hasPrefix s p)]) (fun _ => []) (fun _ => True) :=
  Fn.of_same fun w _ => (Tryz.strings_CutPrefix (txt s) (txt p) w).mono fun _ _ ⟨he, hw⟩ => ⟨he, hw.symm⟩
/-- How a segment's name begins. -/
abbrev wal4 : List UInt8 := [119, 97, 108, 45]
theorem num_of_atoi {q : List UInt8} {v : Int} (_ : wal4 <+: q) (hv : Lib.atoiAll (q.drop 4) = .ok v) (h1 : 1 ≤ v) (h2 : v ≤ 999999) : numP q = if nameP v.toNat = q then v.toNat else 0 := by
  split
  · rename_i he
    exact numP_eq (by omega) (by omega) he
  · rename_i he
    refine Decidable.byContradiction fun hn => ?_
    obtain ⟨a, b, c⟩ := numP_pos hn
    refine he ?_
    rw [← c] at hv
    have : Lib.atoiAll ((nameP (numP q)).drop 4) = .ok ((numP q : Nat) : Int) := dgs_atoi (by omega)
    rw [this] at hv
    injection hv with hv
    rw [← hv]
    exact c
theorem num_none {q : List UInt8} (h : ¬ (wal4 <+: q ∧ ∃ v, Lib.atoiAll (q.drop 4) = .ok v ∧ 1 ≤ v ∧ v ≤ 999999)) : numP q = 0 := by
  refine Decidable.byContradiction fun hn => ?_
  obtain ⟨a, b, c⟩ := numP_pos hn
  refine h ⟨⟨_, c⟩, numP q, ?_, by omega, by omega⟩
  have : Lib.atoiAll ((nameP (numP q)).drop 4) = .ok ((numP q : Nat) : Int) := dgs_atoi (by omega)
  rwa [c] at this
theorem number_sl (q : List UInt8) (hq : q.length ≤ 32) : Fn Tryz.prog 55 #[.string (txt q)] [laidC] Unit (fun _ => .int .i64 (numP q)) (fun _ => []) (fun _ => True) := by
  have hc := cut_sl q wal4
  by_cases hp : wal4 <+: q
  · have hh : Lib.hasPrefix q wal4 = true := List.isPrefixOf_iff_prefix.2 hp
    rw [Lib.trimPrefix, hh, if_pos rfl] at hc
    refine Fn.enter Tryz.func55 rfl Tryz.ntmps55 (by rfl) ?_
    intro w0
    refine Cd.seq ?_
    refine Cd.region ?_
    refine Ls.ev (some 2) (Ev.assign (show Oper.op _ = Op.assign (Operand.const (Value.int IntKind.i64 0)) from rfl) (by rfl)) (by rfl) (by rfl) ?_
    refine Ls.nil ?_
    refine Cd.seq ?_
    refine Cd.region ?_
    refine Ls.ev (some 8) (Ev.move (show Oper.op _ = Op.move (Operand.tmp 0) from rfl) (by rfl)) (by rfl) (by rfl) ?_
    refine Ls.does (some 9) (Does.read (show Oper.op _ = Op.call { callee := Callee.value (Operand.func 71), args := #[Operand.tmp 8, Operand.const (Value.string { data := #[119, 97, 108, 45] })], argTypes := #[9, 9] } from rfl) Tryz.func71 (by kernel_rfl) (by kernel_rfl) (hc) (by rfl) (by rfl) trivial) (by rfl) (by rfl) ?_
    rintro _ -
    refine Ls.ev (some 7) (Ev.move (show Oper.op _ = Op.move (Operand.tmp 9) from rfl) (by rfl)) (by rfl) (by rfl) ?_
    refine Ls.ev (some 10) (Ev.extract (show Oper.op _ = Op.extract (Operand.tmp 7) 0 from rfl) (by rfl) (by rfl)) (by rfl) (by rfl) ?_
    refine Ls.ev (some 11) (Ev.extract (show Oper.op _ = Op.extract (Operand.tmp 7) 1 from rfl) (by rfl) (by rfl)) (by rfl) (by rfl) ?_
    refine Ls.ev (some 3) (Ev.assign (show Oper.op _ = Op.assign (Operand.tmp 10) from rfl) (by rfl)) (by rfl) (by rfl) ?_
    refine Ls.ev (some 4) (Ev.assign (show Oper.op _ = Op.assign (Operand.tmp 11) from rfl) (by rfl)) (by rfl) (by rfl) ?_
    refine Ls.nil ?_
    refine Cd.seq ?_
    refine Cd.region ?_
    refine Ls.ev (some 13) (Ev.move (show Oper.op _ = Op.move (Operand.tmp 3) from rfl) (by rfl)) (by rfl) (by rfl) ?_
    refine Ls.does (some 14) (Does.read (show Oper.op _ = Op.call { callee := Callee.value (Operand.func 72), args := #[Operand.tmp 13], argTypes := #[9] } from rfl) Tryz.func72 (by kernel_rfl) (by kernel_rfl) (atoi_sl (q.drop 4) (by rw [List.length_drop]; omega)) (by rfl) (by rfl) ⟨laidIn 0 (by rfl), trivial⟩) (by rfl) (by rfl) ?_
    rintro ⟨v, e⟩ he
    refine Ls.ev (some 12) (Ev.move (show Oper.op _ = Op.move (Operand.tmp 14) from rfl) (by rfl)) (by rfl) (by rfl) ?_
    refine Ls.ev (some 15) (Ev.extract (show Oper.op _ = Op.extract (Operand.tmp 12) 0 from rfl) (by rfl) (by rfl)) (by rfl) (by rfl) ?_
    refine Ls.ev (some 16) (Ev.extract (show Oper.op _ = Op.extract (Operand.tmp 12) 1 from rfl) (by rfl) (by rfl)) (by rfl) (by rfl) ?_
    refine Ls.ev (some 5) (Ev.assign (show Oper.op _ = Op.assign (Operand.tmp 15) from rfl) (by rfl)) (by rfl) (by rfl) ?_
    refine Ls.ev (some 6) (Ev.assign (show Oper.op _ = Op.assign (Operand.tmp 16) from rfl) (by rfl)) (by rfl) (by rfl) ?_
    refine Ls.nil ?_
    refine Cd.seq ?_
    refine Cd.seq ?_
    refine Cd.region ?_
    refine Ls.ev (some 17) (Ev.move (show Oper.op _ = Op.move (Operand.tmp 4) from rfl) (by rfl)) (by rfl) (by rfl) ?_
    refine Ls.ev (some 18) (Ev.not (show Oper.op _ = Op.unOp UnOp.not 4 (Operand.tmp 17) from rfl) (by rfl)) (by rfl) (by rfl) ?_
    refine Ls.ev (some 19) (Ev.move (show Oper.op _ = Op.move (Operand.tmp 18) from rfl) (by rfl)) (by rfl) (by rfl) ?_
    by_cases hok : ∃ v, Lib.atoiAll (q.drop 4) = .ok v
    · obtain ⟨v', hv⟩ := hok
      unfold atoiR at he
      rw [hv] at he
      obtain ⟨rfl, rfl⟩ := he
      skip
      refine Ent.known 19 false (by rfl) (by exact (rfl)) ?_
      refine Ls.ev (some 20) (Ev.move (show Oper.op _ = Op.move (Operand.tmp 6) from rfl) (by rfl)) (by rfl) (by rfl) ?_
      refine Ls.ev (some 21) (Ev.nilNilN (show Oper.op _ = Op.binOp BinOp.neq 121 (Operand.tmp 20) (Operand.const Value.nilIface) 121 from rfl) (by rfl) (by kernel_rfl)) (by rfl) (by rfl) ?_
      refine Ls.ev (some 22) (Ev.pickF (show Oper.op _ = Op.pick (Operand.tmp 19) (Operand.const (Value.bool true)) (Operand.tmp 21) from rfl) (by rfl) (by rfl)) (by rfl) (by rfl) ?_
      refine Ls.ev (some 23) (Ev.move (show Oper.op _ = Op.move (Operand.tmp 22) from rfl) (by rfl)) (by rfl) (by rfl) ?_
      refine Ent.known 23 false (by rfl) (by exact (rfl)) ?_
      refine Ls.ev (some 24) (Ev.move (show Oper.op _ = Op.move (Operand.tmp 5) from rfl) (by rfl)) (by rfl) (by rfl) ?_
      refine Ls.ev (some 25) (Ev.lss (show Oper.op _ = Op.binOp BinOp.lss 3 (Operand.tmp 24) (Operand.const (Value.int IntKind.i64 1)) 3 from rfl) (by rfl) (by rfl)) (by rfl) (by rfl) ?_
      refine Ls.ev (some 26) (Ev.pickF (show Oper.op _ = Op.pick (Operand.tmp 23) (Operand.const (Value.bool true)) (Operand.tmp 25) from rfl) (by rfl) (by rfl)) (by rfl) (by rfl) ?_
      refine Ls.ev (some 27) (Ev.move (show Oper.op _ = Op.move (Operand.tmp 26) from rfl) (by rfl)) (by rfl) (by rfl) ?_
      skip
      by_cases h1 : v < 1
      · skip
        rw [num_none (fun ⟨_, v2, hv2, h3, h4⟩ => by rw [hv] at hv2; injection hv2 with e; omega)]
        refine Ent.known 27 true (by rfl) (by exact (decide_eq_true h1)) ?_
        refine Ls.pass (some 28) (by rfl) (by rfl) ?_
        refine Ls.pass (some 29) (by rfl) (by rfl) ?_
        refine Ls.ev (some 30) (Ev.pickT (show Oper.op _ = Op.pick (Operand.tmp 27) (Operand.const (Value.bool true)) (Operand.tmp 29) from rfl) (by rfl) (by rfl)) (by rfl) (by rfl) ?_
        refine Ls.ev (some 31) (Ev.move (show Oper.op _ = Op.move (Operand.tmp 30) from rfl) (by rfl)) (by rfl) (by rfl) ?_
        refine Ls.pass (some 32) (by rfl) (by rfl) ?_
        refine Ls.pass (some 33) (by rfl) (by rfl) ?_
        refine Ls.pass (some 34) (by rfl) (by rfl) ?_
        refine Ls.pass (some 35) (by rfl) (by rfl) ?_
        refine Ls.ev (some 36) (Ev.pickT (show Oper.op _ = Op.pick (Operand.tmp 31) (Operand.const (Value.bool true)) (Operand.tmp 35) from rfl) (by rfl) (by rfl)) (by rfl) (by rfl) ?_
        refine Ls.nil ?_
        refine Cd.cond_true (by rfl) (rfl) ?_
        refine Cd.seq ?_
        refine Cd.region ?_
        refine Ls.ev (some 2) (Ev.assign (show Oper.op _ = Op.assign (Operand.const (Value.int IntKind.i64 0)) from rfl) (by rfl)) (by rfl) (by rfl) ?_
        refine Ls.nil ?_
        refine Cd.ret ?_
        refine Ent.ret (()) (trivial) (Res.tmp (by rfl) (by rfl)) ?_ [] (by rfl) ?_
        · rfl
        · rfl
      · skip
        refine Ent.known 27 false (by rfl) (by exact (decide_eq_false h1)) ?_
        refine Ls.ev (some 28) (Ev.move (show Oper.op _ = Op.move (Operand.tmp 5) from rfl) (by rfl)) (by rfl) (by rfl) ?_
        refine Ls.ev (some 29) (Ev.gtr (show Oper.op _ = Op.binOp BinOp.gtr 3 (Operand.tmp 28) (Operand.const (Value.int IntKind.i64 999999)) 3 from rfl) (by rfl) (by rfl)) (by rfl) (by rfl) ?_
        refine Ls.ev (some 30) (Ev.pickF (show Oper.op _ = Op.pick (Operand.tmp 27) (Operand.const (Value.bool true)) (Operand.tmp 29) from rfl) (by rfl) (by rfl)) (by rfl) (by rfl) ?_
        refine Ls.ev (some 31) (Ev.move (show Oper.op _ = Op.move (Operand.tmp 30) from rfl) (by rfl)) (by rfl) (by rfl) ?_
        skip
        by_cases h2 : 999999 < v
        · skip
          rw [num_none (fun ⟨_, v2, hv2, h3, h4⟩ => by rw [hv] at hv2; injection hv2 with e; omega)]
          refine Ent.known 31 true (by rfl) (by exact (decide_eq_true h2)) ?_
          refine Ls.pass (some 32) (by rfl) (by rfl) ?_
          refine Ls.pass (some 33) (by rfl) (by rfl) ?_
          refine Ls.pass (some 34) (by rfl) (by rfl) ?_
          refine Ls.pass (some 35) (by rfl) (by rfl) ?_
          refine Ls.ev (some 36) (Ev.pickT (show Oper.op _ = Op.pick (Operand.tmp 31) (Operand.const (Value.bool true)) (Operand.tmp 35) from rfl) (by rfl) (by rfl)) (by rfl) (by rfl) ?_
          refine Ls.nil ?_
          refine Cd.cond_true (by rfl) (rfl) ?_
          refine Cd.seq ?_
          refine Cd.region ?_
          refine Ls.ev (some 2) (Ev.assign (show Oper.op _ = Op.assign (Operand.const (Value.int IntKind.i64 0)) from rfl) (by rfl)) (by rfl) (by rfl) ?_
          refine Ls.nil ?_
          refine Cd.ret ?_
          refine Ent.ret (()) (trivial) (Res.tmp (by rfl) (by rfl)) ?_ [] (by rfl) ?_
          · rfl
          · rfl
        · skip
          obtain ⟨n, rfl⟩ : ∃ n : Nat, v = n := ⟨v.toNat, by omega⟩
          have hn := num_of_atoi hp hv (by omega) (by omega)
          rw [show ((n : Int).toNat) = n from rfl] at hn
          refine Ent.known 31 false (by rfl) (by exact (decide_eq_false h2)) ?_
          refine Ls.ev (some 32) (Ev.move (show Oper.op _ = Op.move (Operand.tmp 5) from rfl) (by rfl)) (by rfl) (by rfl) ?_
          skip
          refine Ls.does (some 33) (Does.read (show Oper.op _ = Op.call { callee := Callee.value (Operand.func 28), args := #[Operand.tmp 32], argTypes := #[3] } from rfl) Tryz.func28 (by kernel_rfl) (by kernel_rfl) (name_sl n (by omega)) (by rfl) (by rfl) ⟨laidIn 0 (by rfl), trivial⟩) (by rfl) (by rfl) ?_
          rintro _ -
          refine Ls.ev (some 34) (Ev.move (show Oper.op _ = Op.move (Operand.tmp 0) from rfl) (by rfl)) (by rfl) (by rfl) ?_
          refine Ls.ev (some 35) (Ev.neqS (show Oper.op _ = Op.binOp BinOp.neq 9 (Operand.tmp 33) (Operand.tmp 34) 9 from rfl) (by rfl) (by rfl)) (by rfl) (by rfl) ?_
          refine Ls.ev (some 36) (Ev.pickF (show Oper.op _ = Op.pick (Operand.tmp 31) (Operand.const (Value.bool true)) (Operand.tmp 35) from rfl) (by rfl) (by rfl)) (by rfl) (by rfl) ?_
          refine Ls.nil ?_
          by_cases hx : nameP n = q
          · skip
            rw [if_pos hx] at hn
            rw [hn]
            refine Cd.cond_false (by rfl) (decide_eq_false (show ¬ (txt (nameP n) ≠ txt q) from fun h => h (txt_eq_iff.2 hx))) ?_
            refine Cd.skip ?_
            refine Cd.seq ?_
            refine Cd.region ?_
            refine Ls.ev (some 37) (Ev.move (show Oper.op _ = Op.move (Operand.tmp 5) from rfl) (by rfl)) (by rfl) (by rfl) ?_
            refine Ls.ev (some 2) (Ev.assign (show Oper.op _ = Op.assign (Operand.tmp 37) from rfl) (by rfl)) (by rfl) (by rfl) ?_
            refine Ls.nil ?_
            refine Cd.ret ?_
            refine Ent.ret (()) (trivial) (Res.tmp (by rfl) (by rfl)) ?_ [] (by rfl) ?_
            · rfl
            · rfl
          · skip
            rw [if_neg hx] at hn
            rw [hn]
            refine Cd.cond_true (by rfl) (decide_eq_true (show txt (nameP n) ≠ txt q from fun h => hx (txt_eq_iff.1 h))) ?_
            refine Cd.seq ?_
            refine Cd.region ?_
            refine Ls.ev (some 2) (Ev.assign (show Oper.op _ = Op.assign (Operand.const (Value.int IntKind.i64 0)) from rfl) (by rfl)) (by rfl) (by rfl) ?_
            refine Ls.nil ?_
            refine Cd.ret ?_
            refine Ent.ret (()) (trivial) (Res.tmp (by rfl) (by rfl)) ?_ [] (by rfl) ?_
            · rfl
            · rfl
    · have he2 : ∃ te pe, e = .iface te pe := by
        unfold atoiR at he
        split at he
        · rename_i v2 hv2
          exact absurd ⟨v2, hv2⟩ hok
        · exact he
      obtain ⟨te, pe, rfl⟩ := he2
      rw [num_none (fun ⟨_, v2, hv2, _⟩ => hok ⟨v2, hv2⟩)]
      skip
      refine Ent.known 19 false (by rfl) (by exact (rfl)) ?_
      refine Ls.ev (some 20) (Ev.move (show Oper.op _ = Op.move (Operand.tmp 6) from rfl) (by rfl)) (by rfl) (by rfl) ?_
      refine Ls.ev (some 21) (Ev.ifaceNilN (show Oper.op _ = Op.binOp BinOp.neq 121 (Operand.tmp 20) (Operand.const Value.nilIface) 121 from rfl) (by rfl) (by rfl) (by kernel_rfl)) (by rfl) (by rfl) ?_
      refine Ls.ev (some 22) (Ev.pickF (show Oper.op _ = Op.pick (Operand.tmp 19) (Operand.const (Value.bool true)) (Operand.tmp 21) from rfl) (by rfl) (by rfl)) (by rfl) (by rfl) ?_
      refine Ls.ev (some 23) (Ev.move (show Oper.op _ = Op.move (Operand.tmp 22) from rfl) (by rfl)) (by rfl) (by rfl) ?_
      refine Ls.pass (some 24) (by rfl) (by rfl) ?_
      refine Ls.pass (some 25) (by rfl) (by rfl) ?_
      refine Ls.ev (some 26) (Ev.pickT (show Oper.op _ = Op.pick (Operand.tmp 23) (Operand.const (Value.bool true)) (Operand.tmp 25) from rfl) (by rfl) (by rfl)) (by rfl) (by rfl) ?_
      refine Ls.ev (some 27) (Ev.move (show Oper.op _ = Op.move (Operand.tmp 26) from rfl) (by rfl)) (by rfl) (by rfl) ?_
      refine Ls.pass (some 28) (by rfl) (by rfl) ?_
      refine Ls.pass (some 29) (by rfl) (by rfl) ?_
      refine Ls.ev (some 30) (Ev.pickT (show Oper.op _ = Op.pick (Operand.tmp 27) (Operand.const (Value.bool true)) (Operand.tmp 29) from rfl) (by rfl) (by rfl)) (by rfl) (by rfl) ?_
      refine Ls.ev (some 31) (Ev.move (show Oper.op _ = Op.move (Operand.tmp 30) from rfl) (by rfl)) (by rfl) (by rfl) ?_
      refine Ls.pass (some 32) (by rfl) (by rfl) ?_
      refine Ls.pass (some 33) (by rfl) (by rfl) ?_
      refine Ls.pass (some 34) (by rfl) (by rfl) ?_
      refine Ls.pass (some 35) (by rfl) (by rfl) ?_
      refine Ls.ev (some 36) (Ev.pickT (show Oper.op _ = Op.pick (Operand.tmp 31) (Operand.const (Value.bool true)) (Operand.tmp 35) from rfl) (by rfl) (by rfl)) (by rfl) (by rfl) ?_
      refine Ls.nil ?_
      refine Cd.cond_true (by rfl) (rfl) ?_
      refine Cd.seq ?_
      refine Cd.region ?_
      refine Ls.ev (some 2) (Ev.assign (show Oper.op _ = Op.assign (Operand.const (Value.int IntKind.i64 0)) from rfl) (by rfl)) (by rfl) (by rfl) ?_
      refine Ls.nil ?_
      refine Cd.ret ?_
      refine Ent.ret (()) (trivial) (Res.tmp (by rfl) (by rfl)) ?_ [] (by rfl) ?_
      · rfl
      · rfl
  · have hh : Lib.hasPrefix q wal4 = false := Bool.eq_false_iff.2 fun h => hp (List.isPrefixOf_iff_prefix.1 h)
    rw [Lib.trimPrefix, hh, if_neg (by decide)] at hc
    rw [num_none (fun h => hp h.1)]
    refine Fn.enter Tryz.func55 rfl Tryz.ntmps55 (by rfl) ?_
    intro w0
    refine Cd.seq ?_
    refine Cd.region ?_
    refine Ls.ev (some 2) (Ev.assign (show Oper.op _ = Op.assign (Operand.const (Value.int IntKind.i64 0)) from rfl) (by rfl)) (by rfl) (by rfl) ?_
    refine Ls.nil ?_
    refine Cd.seq ?_
    refine Cd.region ?_
    refine Ls.ev (some 8) (Ev.move (show Oper.op _ = Op.move (Operand.tmp 0) from rfl) (by rfl)) (by rfl) (by rfl) ?_
    refine Ls.does (some 9) (Does.read (show Oper.op _ = Op.call { callee := Callee.value (Operand.func 71), args := #[Operand.tmp 8, Operand.const (Value.string { data := #[119, 97, 108, 45] })], argTypes := #[9, 9] } from rfl) Tryz.func71 (by kernel_rfl) (by kernel_rfl) (hc) (by rfl) (by rfl) trivial) (by rfl) (by rfl) ?_
    rintro _ -
    refine Ls.ev (some 7) (Ev.move (show Oper.op _ = Op.move (Operand.tmp 9) from rfl) (by rfl)) (by rfl) (by rfl) ?_
    refine Ls.ev (some 10) (Ev.extract (show Oper.op _ = Op.extract (Operand.tmp 7) 0 from rfl) (by rfl) (by rfl)) (by rfl) (by rfl) ?_
    refine Ls.ev (some 11) (Ev.extract (show Oper.op _ = Op.extract (Operand.tmp 7) 1 from rfl) (by rfl) (by rfl)) (by rfl) (by rfl) ?_
    refine Ls.ev (some 3) (Ev.assign (show Oper.op _ = Op.assign (Operand.tmp 10) from rfl) (by rfl)) (by rfl) (by rfl) ?_
    refine Ls.ev (some 4) (Ev.assign (show Oper.op _ = Op.assign (Operand.tmp 11) from rfl) (by rfl)) (by rfl) (by rfl) ?_
    refine Ls.nil ?_
    refine Cd.seq ?_
    refine Cd.region ?_
    refine Ls.ev (some 13) (Ev.move (show Oper.op _ = Op.move (Operand.tmp 3) from rfl) (by rfl)) (by rfl) (by rfl) ?_
    refine Ls.does (some 14) (Does.read (show Oper.op _ = Op.call { callee := Callee.value (Operand.func 72), args := #[Operand.tmp 13], argTypes := #[9] } from rfl) Tryz.func72 (by kernel_rfl) (by kernel_rfl) (atoi_sl q (by omega)) (by rfl) (by rfl) ⟨laidIn 0 (by rfl), trivial⟩) (by rfl) (by rfl) ?_
    rintro ⟨v, e⟩ he
    refine Ls.ev (some 12) (Ev.move (show Oper.op _ = Op.move (Operand.tmp 14) from rfl) (by rfl)) (by rfl) (by rfl) ?_
    refine Ls.ev (some 15) (Ev.extract (show Oper.op _ = Op.extract (Operand.tmp 12) 0 from rfl) (by rfl) (by rfl)) (by rfl) (by rfl) ?_
    refine Ls.ev (some 16) (Ev.extract (show Oper.op _ = Op.extract (Operand.tmp 12) 1 from rfl) (by rfl) (by rfl)) (by rfl) (by rfl) ?_
    refine Ls.ev (some 5) (Ev.assign (show Oper.op _ = Op.assign (Operand.tmp 15) from rfl) (by rfl)) (by rfl) (by rfl) ?_
    refine Ls.ev (some 6) (Ev.assign (show Oper.op _ = Op.assign (Operand.tmp 16) from rfl) (by rfl)) (by rfl) (by rfl) ?_
    refine Ls.nil ?_
    refine Cd.seq ?_
    refine Cd.seq ?_
    refine Cd.region ?_
    refine Ls.ev (some 17) (Ev.move (show Oper.op _ = Op.move (Operand.tmp 4) from rfl) (by rfl)) (by rfl) (by rfl) ?_
    refine Ls.ev (some 18) (Ev.not (show Oper.op _ = Op.unOp UnOp.not 4 (Operand.tmp 17) from rfl) (by rfl)) (by rfl) (by rfl) ?_
    refine Ls.ev (some 19) (Ev.move (show Oper.op _ = Op.move (Operand.tmp 18) from rfl) (by rfl)) (by rfl) (by rfl) ?_
    refine Ls.pass (some 20) (by rfl) (by rfl) ?_
    refine Ls.pass (some 21) (by rfl) (by rfl) ?_
    refine Ls.ev (some 22) (Ev.pickT (show Oper.op _ = Op.pick (Operand.tmp 19) (Operand.const (Value.bool true)) (Operand.tmp 21) from rfl) (by rfl) (by rfl)) (by rfl) (by rfl) ?_
    refine Ls.ev (some 23) (Ev.move (show Oper.op _ = Op.move (Operand.tmp 22) from rfl) (by rfl)) (by rfl) (by rfl) ?_
    refine Ls.pass (some 24) (by rfl) (by rfl) ?_
    refine Ls.pass (some 25) (by rfl) (by rfl) ?_
    refine Ls.ev (some 26) (Ev.pickT (show Oper.op _ = Op.pick (Operand.tmp 23) (Operand.const (Value.bool true)) (Operand.tmp 25) from rfl) (by rfl) (by rfl)) (by rfl) (by rfl) ?_
    refine Ls.ev (some 27) (Ev.move (show Oper.op _ = Op.move (Operand.tmp 26) from rfl) (by rfl)) (by rfl) (by rfl) ?_
    refine Ls.pass (some 28) (by rfl) (by rfl) ?_
    refine Ls.pass (some 29) (by rfl) (by rfl) ?_
    refine Ls.ev (some 30) (Ev.pickT (show Oper.op _ = Op.pick (Operand.tmp 27) (Operand.const (Value.bool true)) (Operand.tmp 29) from rfl) (by rfl) (by rfl)) (by rfl) (by rfl) ?_
    refine Ls.ev (some 31) (Ev.move (show Oper.op _ = Op.move (Operand.tmp 30) from rfl) (by rfl)) (by rfl) (by rfl) ?_
    refine Ls.pass (some 32) (by rfl) (by rfl) ?_
    refine Ls.pass (some 33) (by rfl) (by rfl) ?_
    refine Ls.pass (some 34) (by rfl) (by rfl) ?_
    refine Ls.pass (some 35) (by rfl) (by rfl) ?_
    refine Ls.ev (some 36) (Ev.pickT (show Oper.op _ = Op.pick (Operand.tmp 31) (Operand.const (Value.bool true)) (Operand.tmp 35) from rfl) (by rfl) (by rfl)) (by rfl) (by rfl) ?_
    refine Ls.nil ?_
    refine Cd.cond_true (by rfl) (rfl) ?_
    refine Cd.seq ?_
    refine Cd.region ?_
    refine Ls.ev (some 2) (Ev.assign (show Oper.op _ = Op.assign (Operand.const (Value.int IntKind.i64 0)) from rfl) (by rfl)) (by rfl) (by rfl) ?_
    refine Ls.nil ?_
    refine Cd.ret ?_
    refine Ent.ret (()) (trivial) (Res.tmp (by rfl) (by rfl)) ?_ [] (by rfl) ?_
    · rfl
    · rfl
end Go.Proofs.YtceanciekadkeaaGreatDoor
/- walks: the segments that are there -/
namespace Go.Proofs.YtceanciekadkeaaGreatDoor
open Go.RowKit
def nats (l : List Nat) : List Value := l.map fun n : Nat => Value.int .i64 (n : Int)
theorem nats_len (l : List Nat) : (nats l).length = l.length := by simp [nats]
theorem nats_append (a b : List Nat) : nats (a ++ b) = nats a ++ nats b := by simp [nats]
theorem one_nats (l : List Nat) : ∀ u ∈ nats l, u.oneCell' = true := fun u hu => by
  obtain ⟨x, _, rfl⟩ := List.mem_map.1 hu
  rfl
theorem elem_int : Elem Tryz.prog 35 3 1 8 := elem_of (by kernel_rfl)
theorem Ev.loadNat {Γ : Ctx} {N : Frm} {P : Program} {E : Env} {H : List Chunk} {o : Oper} {x : Operand} {t n k : Nat} {ad : Addr} {xs : List Nat} {u : Nat} (ho : o.op = .load t x) (hx : E.ev x = some (.pointer (some (ad.add (k * 1))))) (hi : ReadsIn Γ H 1 (some ad) n (nats xs)) (ht : one P t = true) (hu : xs[k]? = some u) : Ev Γ N P E H o (.int .i64 (u : Int)) :=
  Ev.loadInt (xs := xs.map fun n : Nat => (n : Int)) ho hx (by
    have : nats xs = ints (xs.map fun n : Nat => (n : Int)) := by simp [nats, ints]
    rw [← this]
    exact hi) ht (by rw [List.getElem?_map, hu]; rfl)
theorem segs_sl {D : DrS} {P : DrP} (h : Drv D P) : Fn Tryz.prog 26 #[D.ptr] [D.rB, D.rM, laidC] (Option Addr × Nat) (fun p => .slice p.1 (segsP P).length p.2) (fun p => [row p.1 (segsP P).length p.2 3 1 (nats (segsP P))]) (fun _ => True) := by
  have hln := h.ok.len
  obtain ⟨ns, hns⟩ : ∃ ns, ns = P.fs.map FiP.nm := ⟨_, rfl⟩
  have hnl : P.fs.length = ns.length := by rw [hns, List.length_map]
  have hsz : ∀ q ∈ ns, q.length ≤ 32 := fun q hq => by
    rw [hns] at hq
    obtain ⟨f, hf, rfl⟩ := List.mem_map.1 hq
    exact (h.ok.good f hf).len
  have hc := names_sl h
  have hseg : segsP P = segsN ns := by rw [hns]; rfl
  rw [hnl, ← hns] at hc
  rw [hnl] at hln
  rw [hseg]
  refine Fn.enter Tryz.func26 rfl Tryz.ntmps26 (by rfl) ?_
  intro w0
  refine Cd.seq ?_
  refine Cd.region ?_
  refine Ls.ev (some 2) (Ev.assign (show Oper.op _ = Op.assign (Operand.const (Value.slice none 0 0)) from rfl) (by rfl)) (by rfl) (by rfl) ?_
  refine Ls.nil ?_
  refine Cd.seq ?_
  refine Cd.region ?_
  refine Ls.ev (some 3) (Ev.assign (show Oper.op _ = Op.assign (Operand.const (Value.slice none 0 0)) from rfl) (by rfl)) (by rfl) (by rfl) ?_
  refine Ls.nil ?_
  refine Cd.seq ?_
  refine Cd.seq ?_
  refine Cd.region ?_
  refine Ls.ev (some 7) (Ev.move (show Oper.op _ = Op.move (Operand.tmp 0) from rfl) (by rfl)) (by rfl) (by rfl) ?_
  refine Ls.does (some 8) (Does.readN (show Oper.op _ = Op.call { callee := Callee.value (Operand.func 44), args := #[Operand.tmp 7], argTypes := #[23] } from rfl) Tryz.func44 (by kernel_rfl) (by kernel_rfl) (hc) (by rfl) (by rfl) ⟨rblkIn 0 (by rfl), rmapIn_ 1 (by rfl), trivial⟩ (fun _ => by rfl)) (by rfl) (by rfl) ?_
  rintro ⟨nA, nc⟩ -
  refine Ent.see 0 (by rfl) ?_
  refine Ent.nil 3 1 ?_
  refine Ent.pick [0, 1, 4] (by rfl) ?_
  skip
  refine Ls.ev (some 9) (Ev.len (show Oper.op _ = Op.call { callee := Callee.builtin Builtin.len, args := #[Operand.tmp 8], argTypes := #[36] } from rfl) (by rfl) Tryz.underlying36) (by rfl) (by rfl) ?_
  refine Ls.ev (some 10) (Ev.move (show Oper.op _ = Op.move (Operand.const (Value.int IntKind.i64 0)) from rfl) (by rfl)) (by rfl) (by rfl) ?_
  refine Ls.nil ?_
  refine Cd.block ?_
  refine Cd.loop (ι := Nat × (Option Addr × Nat) × List Nat) (fun p => [(8, .slice nA ns.length nc), (9, .int .i64 ns.length), (10, .int .i64 p.1), (3, .slice p.2.1.1 p.2.2.length p.2.1.2)]) (fun p => [row p.2.1.1 p.2.2.length p.2.1.2 3 1 (nats p.2.2), rd nA ns.length 1 (txts ns), laidC]) (fun p => p.1 ≤ ns.length ∧ p.2.2 = segsN (ns.take p.1)) (fun p => ns.length - p.1) ((0, (none, 0), [])) (⟨Nat.zero_le _, rfl⟩) ?_ rfl ?_
  · (repeat (first | exact trivial | refine ⟨by rfl, ?_⟩))
  rintro ⟨k, ⟨A, c⟩, o⟩ ⟨hk, ho⟩
  dsimp only at hk ho ⊢
  have hol : o.length ≤ k := by
    rw [ho]
    exact Nat.le_trans (segsN_len _) (by rw [List.length_take]; omega)
  refine Cd.seq ?_
  refine Cd.region ?_
  refine Ls.ev (some 11) (Ev.lss (show Oper.op _ = Op.binOp BinOp.lss 3 (Operand.tmp 10) (Operand.tmp 9) 3 from rfl) (by rfl) (by rfl)) (by rfl) (by rfl) ?_
  refine Ls.nil ?_
  refine Cd.seq ?_
  refine Cd.cond _ (by rfl) (fun h2 => ?_) (fun h2 => ?_)
  · skip
    have hlt : k < ns.length := by have := of_decide_eq_true h2; omega
    obtain ⟨q, hq⟩ := get_of_lt hlt
    have hqt : (ns.map txt)[k]? = some (txt q) := by rw [List.getElem?_map, hq]; rfl
    have hst : segsN (ns.take (k + 1)) = if numP q = 0 then o else o ++ [numP q] := by
      rw [List.take_add_one, hq, ho]
      exact segsN_snoc q _
    refine Ent.rdSome 1 (by rfl) (by omega) (fun ad had => ?_)
    subst had
    refine Cd.skip ?_
    refine Cd.seq ?_
    refine Cd.block ?_
    refine Cd.seq ?_
    refine Cd.region ?_
    refine Ls.ev (some 12) (Ev.indexAt (sz := 1) (show Oper.op _ = Op.indexAddr 36 (Operand.tmp 8) (Operand.tmp 10) from rfl) (by rfl) (by rfl) Tryz.underlying36 (by kernel_rfl) (by omega)) (by rfl) (by rfl) ?_
    refine Ls.ev (some 13) (Ev.loadStr (show Oper.op _ = Op.load 9 (Operand.tmp 12) from rfl) (by rfl) (ReadsIn.rd 1 (by rfl)) (by kernel_rfl) (by assumption)) (by rfl) (by rfl) ?_
    refine Ls.ev (some 5) (Ev.assign (show Oper.op _ = Op.assign (Operand.tmp 13) from rfl) (by rfl)) (by rfl) (by rfl) ?_
    refine Ls.nil ?_
    refine Cd.seq ?_
    refine Cd.region ?_
    refine Ls.ev (some 14) (Ev.move (show Oper.op _ = Op.move (Operand.tmp 5) from rfl) (by rfl)) (by rfl) (by rfl) ?_
    refine Ls.does (some 15) (Does.read (show Oper.op _ = Op.call { callee := Callee.value (Operand.func 55), args := #[Operand.tmp 14], argTypes := #[9] } from rfl) Tryz.func55 (by kernel_rfl) (by kernel_rfl) (number_sl q (hsz q (List.mem_of_getElem? hq))) (by rfl) (by rfl) ⟨laidIn 2 (by rfl), trivial⟩) (by rfl) (by rfl) ?_
    rintro _ -
    refine Ls.ev (some 6) (Ev.assign (show Oper.op _ = Op.assign (Operand.tmp 15) from rfl) (by rfl)) (by rfl) (by rfl) ?_
    refine Ls.nil ?_
    refine Cd.seq ?_
    refine Cd.region ?_
    refine Ls.ev (some 16) (Ev.move (show Oper.op _ = Op.move (Operand.tmp 6) from rfl) (by rfl)) (by rfl) (by rfl) ?_
    refine Ls.ev (some 17) (Ev.gtr (show Oper.op _ = Op.binOp BinOp.gtr 3 (Operand.tmp 16) (Operand.const (Value.int IntKind.i64 0)) 3 from rfl) (by rfl) (by rfl)) (by rfl) (by rfl) ?_
    refine Ls.nil ?_
    by_cases hz : numP q = 0
    · skip
      rw [if_pos hz] at hst
      refine Cd.cond_false (by rfl) (decide_eq_false (by omega)) ?_
      refine Cd.skip ?_
      refine Cd.region ?_
      refine Ls.ev (some 22) (Ev.addN (b := 1) (show Oper.op _ = Op.binOp BinOp.add 3 (Operand.tmp 10) (Operand.const (Value.int IntKind.i64 1)) 3 from rfl) (by rfl) (by rfl) (by omega)) (by rfl) (by rfl) ?_
      refine Ls.ev (some 10) (Ev.move (show Oper.op _ = Op.move (Operand.tmp 22) from rfl) (by rfl)) (by rfl) (by rfl) ?_
      refine Ls.nil ?_
      refine Ent.inv ((k + 1, (A, c), o)) ?_ ?_ ?_
      · (try dsimp only); exact ⟨⟨hlt, hst.symm⟩, by omega⟩
      · (repeat (first | exact trivial | refine ⟨by rfl, ?_⟩ | refine ⟨by simp only [List.length_append, List.length_cons, List.length_nil]; rfl, ?_⟩ | refine ⟨by push_cast; rfl, ?_⟩))
      · rfl
    · skip
      rw [if_neg hz] at hst
      refine Cd.cond_true (by rfl) (decide_eq_true (by omega)) ?_
      refine Cd.region ?_
      refine Ls.ev (some 18) (Ev.move (show Oper.op _ = Op.move (Operand.tmp 3) from rfl) (by rfl)) (by rfl) (by rfl) ?_
      refine Ls.ev (some 19) (Ev.move (show Oper.op _ = Op.move (Operand.tmp 6) from rfl) (by rfl)) (by rfl) (by rfl) ?_
      refine Ls.does (some 20) (Does.lit (sz := 1) (show Oper.op _ = Op.buildSlice 35 1 #[(0, Operand.tmp 19)] from rfl) (by rfl) Tryz.underlying35 (by kernel_rfl) (by rfl) (by kernel_rfl)) (by rfl) (by rfl) ?_
      intro g1 _
      refine Ls.does (some 21) (Does.app (xs := nats o) (news := nats [numP q]) 1 (show Oper.op _ = Op.call { callee := Callee.builtin Builtin.append, args := #[Operand.tmp 18, Operand.tmp 20], argTypes := #[35, 35] } from rfl) (by rfl) (by rfl) (by rfl) (ReadsIn.row 0 (by rfl)) elem_int (one_nats _) (show (o.length + 1) * 8 ≤ 140737488355328 by omega)) (by rfl) (by rfl) ?_
      rintro r -
      refine Ls.ev (some 3) (Ev.assign (show Oper.op _ = Op.assign (Operand.tmp 21) from rfl) (by rfl)) (by rfl) (by rfl) ?_
      refine Ls.nil ?_
      refine Cd.region ?_
      refine Ls.ev (some 22) (Ev.addN (b := 1) (show Oper.op _ = Op.binOp BinOp.add 3 (Operand.tmp 10) (Operand.const (Value.int IntKind.i64 1)) 3 from rfl) (by rfl) (by rfl) (by omega)) (by rfl) (by rfl) ?_
      refine Ls.ev (some 10) (Ev.move (show Oper.op _ = Op.move (Operand.tmp 22) from rfl) (by rfl)) (by rfl) (by rfl) ?_
      refine Ls.nil ?_
      refine Ent.pick [1, 2, 3] (by rfl) ?_
      refine Ent.inv ((k + 1, (r.1, r.2), o ++ [numP q])) ?_ ?_ ?_
      · (try dsimp only); exact ⟨⟨hlt, hst.symm⟩, by omega⟩
      · (repeat (first | exact trivial | refine ⟨by rfl, ?_⟩ | refine ⟨by simp only [List.length_append, List.length_cons, List.length_nil]; rfl, ?_⟩ | refine ⟨by push_cast; rfl, ?_⟩ | refine ⟨by (show some (Value.slice _ _ _) = some (Value.slice _ _ _); rw [List.length_append]; rfl), ?_⟩))
      · (show [_, _, _] = [_, _, _]; dsimp only; rw [List.length_append, nats_append]; rfl)
  · skip
    have hge : ns.length ≤ k := by have := of_decide_eq_false h2; omega
    rw [List.take_of_length_le hge] at ho
    subst ho
    refine Cd.exit ?_
    refine Cd.seq ?_
    refine Cd.region ?_
    refine Ls.ev (some 23) (Ev.move (show Oper.op _ = Op.move (Operand.tmp 3) from rfl) (by rfl)) (by rfl) (by rfl) ?_
    refine Ls.ev (some 2) (Ev.assign (show Oper.op _ = Op.assign (Operand.tmp 23) from rfl) (by rfl)) (by rfl) (by rfl) ?_
    refine Ls.nil ?_
    refine Cd.ret ?_
    refine Ent.ret ((A, c)) (trivial) (Res.tmp (by rfl) (by rfl)) ?_ [0] (by rfl) ?_
    · rfl
    · rfl
end Go.Proofs.YtceanciekadkeaaGreatDoor
/- walks: a log's Sync, Roll, Append -/
namespace Go.Proofs.YtceanciekadkeaaGreatDoor
open Go.RowKit
abbrev ptrV (g : Nat) : Value := .pointer (some ⟨g, 0, none⟩)
abbrev lgB (g d : Nat) (L : LgP) : Chunk := blk g 70 [ptrV d, .int .i64 L.seg, .bool L.dead]
abbrev rlgB (g d : Nat) (L : LgP) : Chunk := rblk g 70 [ptrV d, .int .i64 L.seg, .bool L.dead]
theorem done_sl (g d : Nat) (L : LgP) (e : Int) : Fn Tryz.prog 33 #[ptrV g, .int .i64 e] [lgB g d L] Unit (fun _ => .int .i64 e) (fun _ => [lgB g d { L with dead := L.dead || decide (e = 6) }]) (fun _ => True) := by
  obtain ⟨s, b⟩ := L
  cases b
  · refine Fn.enter Tryz.func33 rfl Tryz.ntmps33 (by rfl) ?_
    intro w0
    refine Cd.seq ?_
    refine Cd.region ?_
    refine Ls.ev (some 4) (Ev.assign (show Oper.op _ = Op.assign (Operand.const (Value.int IntKind.i64 0)) from rfl) (by rfl)) (by rfl) (by rfl) ?_
    refine Ls.nil ?_
    refine Cd.seq ?_
    refine Cd.region ?_
    refine Ls.ev (some 5) (Ev.move (show Oper.op _ = Op.move (Operand.tmp 0) from rfl) (by rfl)) (by rfl) (by rfl) ?_
    refine Ls.ev (some 6) (Ev.move (show Oper.op _ = Op.move (Operand.tmp 0) from rfl) (by rfl)) (by rfl) (by rfl) ?_
    refine Ls.ev (some 7) (Ev.nilCheck (show Oper.op _ = Op.nilCheck (Operand.tmp 6) from rfl) (by rfl)) (by rfl) (by rfl) ?_
    refine Ls.ev (some 8) (Ev.fieldAddr (k := 2) (show Oper.op _ = Op.fieldAddr 70 (Operand.tmp 7) 2 from rfl) (by rfl) (by kernel_rfl) (by rfl)) (by rfl) (by rfl) ?_
    refine Ls.ev (some 9) (Ev.load 0 (show Oper.op _ = Op.load 4 (Operand.tmp 8) from rfl) (by rfl) (by rfl) (by kernel_rfl) (by rfl)) (by rfl) (by rfl) ?_
    refine Ls.ev (some 10) (Ev.move (show Oper.op _ = Op.move (Operand.tmp 9) from rfl) (by rfl)) (by rfl) (by rfl) ?_
    refine Ent.known 10 false (by rfl) (by exact (rfl)) ?_
    refine Ls.ev (some 11) (Ev.move (show Oper.op _ = Op.move (Operand.tmp 1) from rfl) (by rfl)) (by rfl) (by rfl) ?_
    refine Ls.ev (some 12) (Ev.eql (show Oper.op _ = Op.binOp BinOp.eql 27 (Operand.tmp 11) (Operand.const (Value.int IntKind.i64 6)) 27 from rfl) (by rfl) (by rfl)) (by rfl) (by rfl) ?_
    refine Ls.ev (some 13) (Ev.pickF (show Oper.op _ = Op.pick (Operand.tmp 10) (Operand.const (Value.bool true)) (Operand.tmp 12) from rfl) (by rfl) (by rfl)) (by rfl) (by rfl) ?_
    refine Ls.ev (some 14) (Ev.nilCheck (show Oper.op _ = Op.nilCheck (Operand.tmp 5) from rfl) (by rfl)) (by rfl) (by rfl) ?_
    refine Ls.ev (some 15) (Ev.fieldAddr (k := 2) (show Oper.op _ = Op.fieldAddr 70 (Operand.tmp 14) 2 from rfl) (by rfl) (by kernel_rfl) (by rfl)) (by rfl) (by rfl) ?_
    refine Ls.does none (Does.store 0 (show Oper.op _ = Op.store 4 (Operand.tmp 15) (Operand.tmp 13) from rfl) (by rfl) (by rfl) (by rfl) (by kernel_rfl) (by rfl) (by kernel_rfl) (by rfl)) (by rfl) (by rfl) ?_
    intro _ _
    refine Ls.nil ?_
    refine Cd.seq ?_
    refine Cd.region ?_
    refine Ls.ev (some 16) (Ev.move (show Oper.op _ = Op.move (Operand.tmp 1) from rfl) (by rfl)) (by rfl) (by rfl) ?_
    refine Ls.ev (some 4) (Ev.assign (show Oper.op _ = Op.assign (Operand.tmp 16) from rfl) (by rfl)) (by rfl) (by rfl) ?_
    refine Ls.nil ?_
    skip
    refine Cd.ret ?_
    refine Ent.ret (()) (trivial) (Res.tmp (by rfl) (by rfl)) ?_ [0] (by rfl) ?_
    · rfl
    · rfl
  · refine Fn.enter Tryz.func33 rfl Tryz.ntmps33 (by rfl) ?_
    intro w0
    refine Cd.seq ?_
    refine Cd.region ?_
    refine Ls.ev (some 4) (Ev.assign (show Oper.op _ = Op.assign (Operand.const (Value.int IntKind.i64 0)) from rfl) (by rfl)) (by rfl) (by rfl) ?_
    refine Ls.nil ?_
    refine Cd.seq ?_
    refine Cd.region ?_
    refine Ls.ev (some 5) (Ev.move (show Oper.op _ = Op.move (Operand.tmp 0) from rfl) (by rfl)) (by rfl) (by rfl) ?_
    refine Ls.ev (some 6) (Ev.move (show Oper.op _ = Op.move (Operand.tmp 0) from rfl) (by rfl)) (by rfl) (by rfl) ?_
    refine Ls.ev (some 7) (Ev.nilCheck (show Oper.op _ = Op.nilCheck (Operand.tmp 6) from rfl) (by rfl)) (by rfl) (by rfl) ?_
    refine Ls.ev (some 8) (Ev.fieldAddr (k := 2) (show Oper.op _ = Op.fieldAddr 70 (Operand.tmp 7) 2 from rfl) (by rfl) (by kernel_rfl) (by rfl)) (by rfl) (by rfl) ?_
    refine Ls.ev (some 9) (Ev.load 0 (show Oper.op _ = Op.load 4 (Operand.tmp 8) from rfl) (by rfl) (by rfl) (by kernel_rfl) (by rfl)) (by rfl) (by rfl) ?_
    refine Ls.ev (some 10) (Ev.move (show Oper.op _ = Op.move (Operand.tmp 9) from rfl) (by rfl)) (by rfl) (by rfl) ?_
    refine Ent.known 10 true (by rfl) (by exact (rfl)) ?_
    refine Ls.pass (some 11) (by rfl) (by rfl) ?_
    refine Ls.pass (some 12) (by rfl) (by rfl) ?_
    refine Ls.ev (some 13) (Ev.pickT (show Oper.op _ = Op.pick (Operand.tmp 10) (Operand.const (Value.bool true)) (Operand.tmp 12) from rfl) (by rfl) (by rfl)) (by rfl) (by rfl) ?_
    refine Ls.ev (some 14) (Ev.nilCheck (show Oper.op _ = Op.nilCheck (Operand.tmp 5) from rfl) (by rfl)) (by rfl) (by rfl) ?_
    refine Ls.ev (some 15) (Ev.fieldAddr (k := 2) (show Oper.op _ = Op.fieldAddr 70 (Operand.tmp 14) 2 from rfl) (by rfl) (by kernel_rfl) (by rfl)) (by rfl) (by rfl) ?_
    refine Ls.does none (Does.store 0 (show Oper.op _ = Op.store 4 (Operand.tmp 15) (Operand.tmp 13) from rfl) (by rfl) (by rfl) (by rfl) (by kernel_rfl) (by rfl) (by kernel_rfl) (by rfl)) (by rfl) (by rfl) ?_
    intro _ _
    refine Ls.nil ?_
    refine Cd.seq ?_
    refine Cd.region ?_
    refine Ls.ev (some 16) (Ev.move (show Oper.op _ = Op.move (Operand.tmp 1) from rfl) (by rfl)) (by rfl) (by rfl) ?_
    refine Ls.ev (some 4) (Ev.assign (show Oper.op _ = Op.assign (Operand.tmp 16) from rfl) (by rfl)) (by rfl) (by rfl) ?_
    refine Ls.nil ?_
    skip
    refine Cd.ret ?_
    refine Ent.ret (()) (trivial) (Res.tmp (by rfl) (by rfl)) ?_ [0] (by rfl) ?_
    · rfl
    · rfl
theorem lsync_sl {D : DrS} {P : DrP} (h : Drv D P) (g : Nat) (L : LgP) (hL : L.seg ≤ 1000000) : Fn Tryz.prog 54 #[ptrV g] [lgB g D.d L, D.B, D.M, D.F, laidC] DrS (fun _ => .int .i64 (syncL P L).2.2) (fun D' => [lgB g D.d (syncL P L).2.1, D'.B, D'.M, D'.F]) (fun D' => Drv D' (syncL P L).1 ∧ D'.d = D.d ∧ D'.m = D.m) := by
  obtain ⟨s, b⟩ := L
  dsimp only at hL
  unfold syncL
  cases b
  · dsimp only
    rw [if_neg (by decide)]
    by_cases hs : 999999 < s
    · rw [if_pos (.inl hs)]
      refine Fn.enter Tryz.func54 rfl Tryz.ntmps54 (by rfl) ?_
      intro w0
      refine Cd.seq ?_
      refine Cd.region ?_
      refine Ls.ev (some 2) (Ev.assign (show Oper.op _ = Op.assign (Operand.const (Value.int IntKind.i64 0)) from rfl) (by rfl)) (by rfl) (by rfl) ?_
      refine Ls.nil ?_
      refine Cd.seq ?_
      refine Cd.seq ?_
      refine Cd.region ?_
      refine Ls.ev (some 3) (Ev.move (show Oper.op _ = Op.move (Operand.tmp 0) from rfl) (by rfl)) (by rfl) (by rfl) ?_
      refine Ls.ev (some 4) (Ev.nilCheck (show Oper.op _ = Op.nilCheck (Operand.tmp 3) from rfl) (by rfl)) (by rfl) (by rfl) ?_
      refine Ls.ev (some 5) (Ev.fieldAddr (k := 2) (show Oper.op _ = Op.fieldAddr 70 (Operand.tmp 4) 2 from rfl) (by rfl) (by kernel_rfl) (by rfl)) (by rfl) (by rfl) ?_
      refine Ls.ev (some 6) (Ev.load 0 (show Oper.op _ = Op.load 4 (Operand.tmp 5) from rfl) (by rfl) (by rfl) (by kernel_rfl) (by rfl)) (by rfl) (by rfl) ?_
      refine Ls.nil ?_
      refine Cd.cond_false (by rfl) (rfl) ?_
      refine Cd.skip ?_
      refine Cd.seq ?_
      refine Cd.seq ?_
      refine Cd.draw [] (by kernel_rfl) ?_
      refine Rg.ev 0 (by rfl) (fun _ h => h) (Ev.move (show Oper.op _ = Op.move (Operand.tmp 0) from rfl) (by rfl)) (by rfl) (some 7) (by rfl) (by kernel_rfl) (by kernel_rfl) (by kernel_rfl) (by kernel_rfl) ?_
      refine Rg.ev 1 (by rfl) (fun _ h => h) (Ev.nilCheck (show Oper.op _ = Op.nilCheck (Operand.tmp 7) from rfl) (by rfl)) (by rfl) (some 8) (by rfl) (by kernel_rfl) (by kernel_rfl) (by kernel_rfl) (by kernel_rfl) ?_
      refine Rg.ev 2 (by rfl) (fun _ h => h) (Ev.fieldAddr (k := 1) (show Oper.op _ = Op.fieldAddr 70 (Operand.tmp 8) 1 from rfl) (by rfl) (by kernel_rfl) (by rfl)) (by rfl) (some 9) (by rfl) (by kernel_rfl) (by kernel_rfl) (by kernel_rfl) (by kernel_rfl) ?_
      refine Rg.ev 3 (by rfl) (fun _ h => h) (Ev.load 0 (show Oper.op _ = Op.load 3 (Operand.tmp 9) from rfl) (by rfl) (by rfl) (by kernel_rfl) (by rfl)) (by rfl) (some 10) (by rfl) (by kernel_rfl) (by kernel_rfl) (by kernel_rfl) (by kernel_rfl) ?_
      refine Rg.ev 4 (by rfl) (fun _ h => h) (Ev.gtr (show Oper.op _ = Op.binOp BinOp.gtr 3 (Operand.tmp 10) (Operand.const (Value.int IntKind.i64 999999)) 3 from rfl) (by rfl) (by rfl)) (by rfl) (some 11) (by rfl) (by kernel_rfl) (by kernel_rfl) (by kernel_rfl) (by kernel_rfl) ?_
      refine Rg.ev 5 (by rfl) (fun _ h => h) (Ev.move (show Oper.op _ = Op.move (Operand.tmp 11) from rfl) (by rfl)) (by rfl) (some 12) (by rfl) (by kernel_rfl) (by kernel_rfl) (by kernel_rfl) (by kernel_rfl) ?_
      refine Ent.known 12 true (by rfl) (by exact (decide_eq_true (show (999999 : Int) < (s : Int) by omega))) ?_
      refine Rg.pass 6 (by rfl) (fun _ h => h) (by rfl) (some 13) (by rfl) (by kernel_rfl) (by kernel_rfl) (by kernel_rfl) (by kernel_rfl) ?_
      refine Rg.pass 7 (by rfl) (fun _ h => h) (by rfl) (some 14) (by rfl) (by kernel_rfl) (by kernel_rfl) (by kernel_rfl) (by kernel_rfl) ?_
      refine Rg.pass 8 (by rfl) (fun _ h => h) (by rfl) (some 15) (by rfl) (by kernel_rfl) (by kernel_rfl) (by kernel_rfl) (by kernel_rfl) ?_
      refine Rg.pass 9 (by rfl) (fun _ h => h) (by rfl) (some 16) (by rfl) (by kernel_rfl) (by kernel_rfl) (by kernel_rfl) (by kernel_rfl) ?_
      refine Rg.pass 10 (by rfl) (fun _ h => h) (by rfl) (some 17) (by rfl) (by kernel_rfl) (by kernel_rfl) (by kernel_rfl) (by kernel_rfl) ?_
      refine Rg.pass 11 (by rfl) (fun _ h => h) (by rfl) (some 18) (by rfl) (by kernel_rfl) (by kernel_rfl) (by kernel_rfl) (by kernel_rfl) ?_
      refine Rg.pass 12 (by rfl) (fun _ h => h) (by rfl) (some 19) (by rfl) (by kernel_rfl) (by kernel_rfl) (by kernel_rfl) (by kernel_rfl) ?_
      refine Rg.pass 13 (by rfl) (fun _ h => h) (by rfl) (some 20) (by rfl) (by kernel_rfl) (by kernel_rfl) (by kernel_rfl) (by kernel_rfl) ?_
      refine Rg.pass 14 (by rfl) (fun _ h => h) (by rfl) (some 21) (by rfl) (by kernel_rfl) (by kernel_rfl) (by kernel_rfl) (by kernel_rfl) ?_
      refine Rg.pass 15 (by rfl) (fun _ h => h) (by rfl) (some 22) (by rfl) (by kernel_rfl) (by kernel_rfl) (by kernel_rfl) (by kernel_rfl) ?_
      refine Rg.pass 16 (by rfl) (fun _ h => h) (by rfl) (some 23) (by rfl) (by kernel_rfl) (by kernel_rfl) (by kernel_rfl) (by kernel_rfl) ?_
      refine Rg.ev 17 (by rfl) (fun _ h => h) (Ev.pickT (show Oper.op _ = Op.pick (Operand.tmp 12) (Operand.const (Value.bool true)) (Operand.tmp 23) from rfl) (by rfl) (by rfl)) (by rfl) (some 24) (by rfl) (by kernel_rfl) (by kernel_rfl) (by kernel_rfl) (by kernel_rfl) ?_
      refine Rg.done (by kernel_rfl) ?_ _
      refine Cd.cond_true (by rfl) (rfl) ?_
      refine Cd.seq ?_
      refine Cd.region ?_
      refine Ls.ev (some 2) (Ev.assign (show Oper.op _ = Op.assign (Operand.const (Value.int IntKind.i64 0)) from rfl) (by rfl)) (by rfl) (by rfl) ?_
      refine Ls.nil ?_
      refine Cd.ret ?_
      refine Ent.ret (D) (⟨h, rfl, rfl⟩) (Res.tmp (by rfl) (by rfl)) ?_ [0, 1, 2, 3] (by rfl) ?_
      · rfl
      · rfl
    · by_cases hl : P.loose (nameP s) = 0
      · rw [if_pos (.inr hl)]
        refine Fn.enter Tryz.func54 rfl Tryz.ntmps54 (by rfl) ?_
        intro w0
        refine Cd.seq ?_
        refine Cd.region ?_
        refine Ls.ev (some 2) (Ev.assign (show Oper.op _ = Op.assign (Operand.const (Value.int IntKind.i64 0)) from rfl) (by rfl)) (by rfl) (by rfl) ?_
        refine Ls.nil ?_
        refine Cd.seq ?_
        refine Cd.seq ?_
        refine Cd.region ?_
        refine Ls.ev (some 3) (Ev.move (show Oper.op _ = Op.move (Operand.tmp 0) from rfl) (by rfl)) (by rfl) (by rfl) ?_
        refine Ls.ev (some 4) (Ev.nilCheck (show Oper.op _ = Op.nilCheck (Operand.tmp 3) from rfl) (by rfl)) (by rfl) (by rfl) ?_
        refine Ls.ev (some 5) (Ev.fieldAddr (k := 2) (show Oper.op _ = Op.fieldAddr 70 (Operand.tmp 4) 2 from rfl) (by rfl) (by kernel_rfl) (by rfl)) (by rfl) (by rfl) ?_
        refine Ls.ev (some 6) (Ev.load 0 (show Oper.op _ = Op.load 4 (Operand.tmp 5) from rfl) (by rfl) (by rfl) (by kernel_rfl) (by rfl)) (by rfl) (by rfl) ?_
        refine Ls.nil ?_
        refine Cd.cond_false (by rfl) (rfl) ?_
        refine Cd.skip ?_
        refine Cd.seq ?_
        refine Cd.seq ?_
        refine Cd.draw [] (by kernel_rfl) ?_
        refine Rg.ev 0 (by rfl) (fun _ h => h) (Ev.move (show Oper.op _ = Op.move (Operand.tmp 0) from rfl) (by rfl)) (by rfl) (some 7) (by rfl) (by kernel_rfl) (by kernel_rfl) (by kernel_rfl) (by kernel_rfl) ?_
        refine Rg.ev 1 (by rfl) (fun _ h => h) (Ev.nilCheck (show Oper.op _ = Op.nilCheck (Operand.tmp 7) from rfl) (by rfl)) (by rfl) (some 8) (by rfl) (by kernel_rfl) (by kernel_rfl) (by kernel_rfl) (by kernel_rfl) ?_
        refine Rg.ev 2 (by rfl) (fun _ h => h) (Ev.fieldAddr (k := 1) (show Oper.op _ = Op.fieldAddr 70 (Operand.tmp 8) 1 from rfl) (by rfl) (by kernel_rfl) (by rfl)) (by rfl) (some 9) (by rfl) (by kernel_rfl) (by kernel_rfl) (by kernel_rfl) (by kernel_rfl) ?_
        refine Rg.ev 3 (by rfl) (fun _ h => h) (Ev.load 0 (show Oper.op _ = Op.load 3 (Operand.tmp 9) from rfl) (by rfl) (by rfl) (by kernel_rfl) (by rfl)) (by rfl) (some 10) (by rfl) (by kernel_rfl) (by kernel_rfl) (by kernel_rfl) (by kernel_rfl) ?_
        refine Rg.ev 4 (by rfl) (fun _ h => h) (Ev.gtr (show Oper.op _ = Op.binOp BinOp.gtr 3 (Operand.tmp 10) (Operand.const (Value.int IntKind.i64 999999)) 3 from rfl) (by rfl) (by rfl)) (by rfl) (some 11) (by rfl) (by kernel_rfl) (by kernel_rfl) (by kernel_rfl) (by kernel_rfl) ?_
        refine Rg.ev 5 (by rfl) (fun _ h => h) (Ev.move (show Oper.op _ = Op.move (Operand.tmp 11) from rfl) (by rfl)) (by rfl) (some 12) (by rfl) (by kernel_rfl) (by kernel_rfl) (by kernel_rfl) (by kernel_rfl) ?_
        refine Ent.known 12 false (by rfl) (by exact (decide_eq_false (show ¬ ((999999 : Int) < (s : Int)) by omega))) ?_
        refine Rg.ev 6 (by rfl) (fun _ h => h) (Ev.move (show Oper.op _ = Op.move (Operand.tmp 0) from rfl) (by rfl)) (by rfl) (some 13) (by rfl) (by kernel_rfl) (by kernel_rfl) (by kernel_rfl) (by kernel_rfl) ?_
        refine Rg.ev 7 (by rfl) (fun _ h => h) (Ev.nilCheck (show Oper.op _ = Op.nilCheck (Operand.tmp 13) from rfl) (by rfl)) (by rfl) (some 14) (by rfl) (by kernel_rfl) (by kernel_rfl) (by kernel_rfl) (by kernel_rfl) ?_
        refine Rg.ev 8 (by rfl) (fun _ h => h) (Ev.fieldAddr (k := 0) (show Oper.op _ = Op.fieldAddr 70 (Operand.tmp 14) 0 from rfl) (by rfl) (by kernel_rfl) (by rfl)) (by rfl) (some 15) (by rfl) (by kernel_rfl) (by kernel_rfl) (by kernel_rfl) (by kernel_rfl) ?_
        refine Rg.ev 9 (by rfl) (fun _ h => h) (Ev.load 0 (show Oper.op _ = Op.load 23 (Operand.tmp 15) from rfl) (by rfl) (by rfl) (by kernel_rfl) (by rfl)) (by rfl) (some 16) (by rfl) (by kernel_rfl) (by kernel_rfl) (by kernel_rfl) (by kernel_rfl) ?_
        refine Rg.ev 10 (by rfl) (fun _ h => h) (Ev.move (show Oper.op _ = Op.move (Operand.tmp 0) from rfl) (by rfl)) (by rfl) (some 17) (by rfl) (by kernel_rfl) (by kernel_rfl) (by kernel_rfl) (by kernel_rfl) ?_
        refine Rg.ev 11 (by rfl) (fun _ h => h) (Ev.nilCheck (show Oper.op _ = Op.nilCheck (Operand.tmp 17) from rfl) (by rfl)) (by rfl) (some 18) (by rfl) (by kernel_rfl) (by kernel_rfl) (by kernel_rfl) (by kernel_rfl) ?_
        refine Rg.ev 12 (by rfl) (fun _ h => h) (Ev.fieldAddr (k := 1) (show Oper.op _ = Op.fieldAddr 70 (Operand.tmp 18) 1 from rfl) (by rfl) (by kernel_rfl) (by rfl)) (by rfl) (some 19) (by rfl) (by kernel_rfl) (by kernel_rfl) (by kernel_rfl) (by kernel_rfl) ?_
        refine Rg.ev 13 (by rfl) (fun _ h => h) (Ev.load 0 (show Oper.op _ = Op.load 3 (Operand.tmp 19) from rfl) (by rfl) (by rfl) (by kernel_rfl) (by rfl)) (by rfl) (some 20) (by rfl) (by kernel_rfl) (by kernel_rfl) (by kernel_rfl) (by kernel_rfl) ?_
        skip
        refine Rg.does 14 (by rfl) (by kernel_rfl) (Does.read (show Oper.op _ = Op.call { callee := Callee.value (Operand.func 28), args := #[Operand.tmp 20], argTypes := #[3] } from rfl) Tryz.func28 (by kernel_rfl) (by kernel_rfl) (name_sl s (by omega)) (by rfl) (by rfl) ⟨laidIn 4 (by rfl), trivial⟩) (by rfl) (some 21) (by rfl) (by exact fun _ _ h => h) ?_
        rintro _ -
        skip
        refine Rg.does 15 (by rfl) (by kernel_rfl) (Does.read (show Oper.op _ = Op.call { callee := Callee.value (Operand.func 25), args := #[Operand.tmp 16, Operand.tmp 21], argTypes := #[23, 9] } from rfl) Tryz.func25 (by kernel_rfl) (by kernel_rfl) (loose_sl h (nameP s) (nameP_good s).len) (by rfl) (by rfl) ⟨blkIn 1 (by rfl), mapIn 2 (by rfl), filIn 3 (by rfl), trivial⟩) (by rfl) (some 22) (by rfl) (by exact fun _ _ h => h) ?_
        rintro _ -
        refine Rg.ev 16 (by rfl) (fun _ h => h) (Ev.eql (show Oper.op _ = Op.binOp BinOp.eql 3 (Operand.tmp 22) (Operand.const (Value.int IntKind.i64 0)) 3 from rfl) (by rfl) (by rfl)) (by rfl) (some 23) (by rfl) (by kernel_rfl) (by kernel_rfl) (by kernel_rfl) (by kernel_rfl) ?_
        refine Rg.ev 17 (by rfl) (fun _ h => h) (Ev.pickF (show Oper.op _ = Op.pick (Operand.tmp 12) (Operand.const (Value.bool true)) (Operand.tmp 23) from rfl) (by rfl) (by rfl)) (by rfl) (some 24) (by rfl) (by kernel_rfl) (by kernel_rfl) (by kernel_rfl) (by kernel_rfl) ?_
        refine Rg.done (by kernel_rfl) ?_ _
        refine Cd.cond_true (by rfl) (decide_eq_true (by omega)) ?_
        refine Cd.seq ?_
        refine Cd.region ?_
        refine Ls.ev (some 2) (Ev.assign (show Oper.op _ = Op.assign (Operand.const (Value.int IntKind.i64 0)) from rfl) (by rfl)) (by rfl) (by rfl) ?_
        refine Ls.nil ?_
        refine Cd.ret ?_
        refine Ent.ret (D) (⟨h, rfl, rfl⟩) (Res.tmp (by rfl) (by rfl)) ?_ [0, 1, 2, 3] (by rfl) ?_
        · rfl
        · rfl
      · rw [if_neg (fun e => e.elim hs hl)]
        refine Fn.enter Tryz.func54 rfl Tryz.ntmps54 (by rfl) ?_
        intro w0
        refine Cd.seq ?_
        refine Cd.region ?_
        refine Ls.ev (some 2) (Ev.assign (show Oper.op _ = Op.assign (Operand.const (Value.int IntKind.i64 0)) from rfl) (by rfl)) (by rfl) (by rfl) ?_
        refine Ls.nil ?_
        refine Cd.seq ?_
        refine Cd.seq ?_
        refine Cd.region ?_
        refine Ls.ev (some 3) (Ev.move (show Oper.op _ = Op.move (Operand.tmp 0) from rfl) (by rfl)) (by rfl) (by rfl) ?_
        refine Ls.ev (some 4) (Ev.nilCheck (show Oper.op _ = Op.nilCheck (Operand.tmp 3) from rfl) (by rfl)) (by rfl) (by rfl) ?_
        refine Ls.ev (some 5) (Ev.fieldAddr (k := 2) (show Oper.op _ = Op.fieldAddr 70 (Operand.tmp 4) 2 from rfl) (by rfl) (by kernel_rfl) (by rfl)) (by rfl) (by rfl) ?_
        refine Ls.ev (some 6) (Ev.load 0 (show Oper.op _ = Op.load 4 (Operand.tmp 5) from rfl) (by rfl) (by rfl) (by kernel_rfl) (by rfl)) (by rfl) (by rfl) ?_
        refine Ls.nil ?_
        refine Cd.cond_false (by rfl) (rfl) ?_
        refine Cd.skip ?_
        refine Cd.seq ?_
        refine Cd.seq ?_
        refine Cd.draw [] (by kernel_rfl) ?_
        refine Rg.ev 0 (by rfl) (fun _ h => h) (Ev.move (show Oper.op _ = Op.move (Operand.tmp 0) from rfl) (by rfl)) (by rfl) (some 7) (by rfl) (by kernel_rfl) (by kernel_rfl) (by kernel_rfl) (by kernel_rfl) ?_
        refine Rg.ev 1 (by rfl) (fun _ h => h) (Ev.nilCheck (show Oper.op _ = Op.nilCheck (Operand.tmp 7) from rfl) (by rfl)) (by rfl) (some 8) (by rfl) (by kernel_rfl) (by kernel_rfl) (by kernel_rfl) (by kernel_rfl) ?_
        refine Rg.ev 2 (by rfl) (fun _ h => h) (Ev.fieldAddr (k := 1) (show Oper.op _ = Op.fieldAddr 70 (Operand.tmp 8) 1 from rfl) (by rfl) (by kernel_rfl) (by rfl)) (by rfl) (some 9) (by rfl) (by kernel_rfl) (by kernel_rfl) (by kernel_rfl) (by kernel_rfl) ?_
        refine Rg.ev 3 (by rfl) (fun _ h => h) (Ev.load 0 (show Oper.op _ = Op.load 3 (Operand.tmp 9) from rfl) (by rfl) (by rfl) (by kernel_rfl) (by rfl)) (by rfl) (some 10) (by rfl) (by kernel_rfl) (by kernel_rfl) (by kernel_rfl) (by kernel_rfl) ?_
        refine Rg.ev 4 (by rfl) (fun _ h => h) (Ev.gtr (show Oper.op _ = Op.binOp BinOp.gtr 3 (Operand.tmp 10) (Operand.const (Value.int IntKind.i64 999999)) 3 from rfl) (by rfl) (by rfl)) (by rfl) (some 11) (by rfl) (by kernel_rfl) (by kernel_rfl) (by kernel_rfl) (by kernel_rfl) ?_
        refine Rg.ev 5 (by rfl) (fun _ h => h) (Ev.move (show Oper.op _ = Op.move (Operand.tmp 11) from rfl) (by rfl)) (by rfl) (some 12) (by rfl) (by kernel_rfl) (by kernel_rfl) (by kernel_rfl) (by kernel_rfl) ?_
        refine Ent.known 12 false (by rfl) (by exact (decide_eq_false (show ¬ ((999999 : Int) < (s : Int)) by omega))) ?_
        refine Rg.ev 6 (by rfl) (fun _ h => h) (Ev.move (show Oper.op _ = Op.move (Operand.tmp 0) from rfl) (by rfl)) (by rfl) (some 13) (by rfl) (by kernel_rfl) (by kernel_rfl) (by kernel_rfl) (by kernel_rfl) ?_
        refine Rg.ev 7 (by rfl) (fun _ h => h) (Ev.nilCheck (show Oper.op _ = Op.nilCheck (Operand.tmp 13) from rfl) (by rfl)) (by rfl) (some 14) (by rfl) (by kernel_rfl) (by kernel_rfl) (by kernel_rfl) (by kernel_rfl) ?_
        refine Rg.ev 8 (by rfl) (fun _ h => h) (Ev.fieldAddr (k := 0) (show Oper.op _ = Op.fieldAddr 70 (Operand.tmp 14) 0 from rfl) (by rfl) (by kernel_rfl) (by rfl)) (by rfl) (some 15) (by rfl) (by kernel_rfl) (by kernel_rfl) (by kernel_rfl) (by kernel_rfl) ?_
        refine Rg.ev 9 (by rfl) (fun _ h => h) (Ev.load 0 (show Oper.op _ = Op.load 23 (Operand.tmp 15) from rfl) (by rfl) (by rfl) (by kernel_rfl) (by rfl)) (by rfl) (some 16) (by rfl) (by kernel_rfl) (by kernel_rfl) (by kernel_rfl) (by kernel_rfl) ?_
        refine Rg.ev 10 (by rfl) (fun _ h => h) (Ev.move (show Oper.op _ = Op.move (Operand.tmp 0) from rfl) (by rfl)) (by rfl) (some 17) (by rfl) (by kernel_rfl) (by kernel_rfl) (by kernel_rfl) (by kernel_rfl) ?_
        refine Rg.ev 11 (by rfl) (fun _ h => h) (Ev.nilCheck (show Oper.op _ = Op.nilCheck (Operand.tmp 17) from rfl) (by rfl)) (by rfl) (some 18) (by rfl) (by kernel_rfl) (by kernel_rfl) (by kernel_rfl) (by kernel_rfl) ?_
        refine Rg.ev 12 (by rfl) (fun _ h => h) (Ev.fieldAddr (k := 1) (show Oper.op _ = Op.fieldAddr 70 (Operand.tmp 18) 1 from rfl) (by rfl) (by kernel_rfl) (by rfl)) (by rfl) (some 19) (by rfl) (by kernel_rfl) (by kernel_rfl) (by kernel_rfl) (by kernel_rfl) ?_
        refine Rg.ev 13 (by rfl) (fun _ h => h) (Ev.load 0 (show Oper.op _ = Op.load 3 (Operand.tmp 19) from rfl) (by rfl) (by rfl) (by kernel_rfl) (by rfl)) (by rfl) (some 20) (by rfl) (by kernel_rfl) (by kernel_rfl) (by kernel_rfl) (by kernel_rfl) ?_
        skip
        refine Rg.does 14 (by rfl) (by kernel_rfl) (Does.read (show Oper.op _ = Op.call { callee := Callee.value (Operand.func 28), args := #[Operand.tmp 20], argTypes := #[3] } from rfl) Tryz.func28 (by kernel_rfl) (by kernel_rfl) (name_sl s (by omega)) (by rfl) (by rfl) ⟨laidIn 4 (by rfl), trivial⟩) (by rfl) (some 21) (by rfl) (by exact fun _ _ h => h) ?_
        rintro _ -
        skip
        refine Rg.does 15 (by rfl) (by kernel_rfl) (Does.read (show Oper.op _ = Op.call { callee := Callee.value (Operand.func 25), args := #[Operand.tmp 16, Operand.tmp 21], argTypes := #[23, 9] } from rfl) Tryz.func25 (by kernel_rfl) (by kernel_rfl) (loose_sl h (nameP s) (nameP_good s).len) (by rfl) (by rfl) ⟨blkIn 1 (by rfl), mapIn 2 (by rfl), filIn 3 (by rfl), trivial⟩) (by rfl) (some 22) (by rfl) (by exact fun _ _ h => h) ?_
        rintro _ -
        refine Rg.ev 16 (by rfl) (fun _ h => h) (Ev.eql (show Oper.op _ = Op.binOp BinOp.eql 3 (Operand.tmp 22) (Operand.const (Value.int IntKind.i64 0)) 3 from rfl) (by rfl) (by rfl)) (by rfl) (some 23) (by rfl) (by kernel_rfl) (by kernel_rfl) (by kernel_rfl) (by kernel_rfl) ?_
        refine Rg.ev 17 (by rfl) (fun _ h => h) (Ev.pickF (show Oper.op _ = Op.pick (Operand.tmp 12) (Operand.const (Value.bool true)) (Operand.tmp 23) from rfl) (by rfl) (by rfl)) (by rfl) (some 24) (by rfl) (by kernel_rfl) (by kernel_rfl) (by kernel_rfl) (by kernel_rfl) ?_
        refine Rg.done (by kernel_rfl) ?_ _
        refine Cd.cond_false (by rfl) (decide_eq_false (by omega)) ?_
        skip
        refine Cd.skip ?_
        refine Cd.seq ?_
        refine Cd.draw [10] (by kernel_rfl) ?_
        refine Rg.mv 0 (by rfl) (fun _ h => h) (show Oper.op _ = Op.move (Operand.tmp 0) from rfl) (by rfl) (by rfl) (some 25) (by rfl) (by kernel_rfl) (by kernel_rfl) (by kernel_rfl) (by kernel_rfl) ?_
        refine Rg.ev 1 (by rfl) (fun _ h => h) (Ev.move (show Oper.op _ = Op.move (Operand.tmp 0) from rfl) (by rfl)) (by rfl) (some 26) (by rfl) (by kernel_rfl) (by kernel_rfl) (by kernel_rfl) (by kernel_rfl) ?_
        refine Rg.ev 2 (by rfl) (fun _ h => h) (Ev.nilCheck (show Oper.op _ = Op.nilCheck (Operand.tmp 26) from rfl) (by rfl)) (by rfl) (some 27) (by rfl) (by kernel_rfl) (by kernel_rfl) (by kernel_rfl) (by kernel_rfl) ?_
        refine Rg.ev 3 (by rfl) (fun _ h => h) (Ev.fieldAddr (k := 0) (show Oper.op _ = Op.fieldAddr 70 (Operand.tmp 27) 0 from rfl) (by rfl) (by kernel_rfl) (by rfl)) (by rfl) (some 28) (by rfl) (by kernel_rfl) (by kernel_rfl) (by kernel_rfl) (by kernel_rfl) ?_
        refine Rg.ev 4 (by rfl) (fun _ h => h) (Ev.load 0 (show Oper.op _ = Op.load 23 (Operand.tmp 28) from rfl) (by rfl) (by rfl) (by kernel_rfl) (by rfl)) (by rfl) (some 29) (by rfl) (by kernel_rfl) (by kernel_rfl) (by kernel_rfl) (by kernel_rfl) ?_
        refine Rg.ev 5 (by rfl) (fun _ h => h) (Ev.move (show Oper.op _ = Op.move (Operand.tmp 0) from rfl) (by rfl)) (by rfl) (some 30) (by rfl) (by kernel_rfl) (by kernel_rfl) (by kernel_rfl) (by kernel_rfl) ?_
        refine Rg.ev 6 (by rfl) (fun _ h => h) (Ev.nilCheck (show Oper.op _ = Op.nilCheck (Operand.tmp 30) from rfl) (by rfl)) (by rfl) (some 31) (by rfl) (by kernel_rfl) (by kernel_rfl) (by kernel_rfl) (by kernel_rfl) ?_
        refine Rg.ev 7 (by rfl) (fun _ h => h) (Ev.fieldAddr (k := 1) (show Oper.op _ = Op.fieldAddr 70 (Operand.tmp 31) 1 from rfl) (by rfl) (by kernel_rfl) (by rfl)) (by rfl) (some 32) (by rfl) (by kernel_rfl) (by kernel_rfl) (by kernel_rfl) (by kernel_rfl) ?_
        refine Rg.ev 8 (by rfl) (fun _ h => h) (Ev.load 0 (show Oper.op _ = Op.load 3 (Operand.tmp 32) from rfl) (by rfl) (by rfl) (by kernel_rfl) (by rfl)) (by rfl) (some 33) (by rfl) (by kernel_rfl) (by kernel_rfl) (by kernel_rfl) (by kernel_rfl) ?_
        refine Rg.does 9 (by rfl) (by kernel_rfl) (Does.read (show Oper.op _ = Op.call { callee := Callee.value (Operand.func 28), args := #[Operand.tmp 33], argTypes := #[3] } from rfl) Tryz.func28 (by kernel_rfl) (by kernel_rfl) (name_sl s (by omega)) (by rfl) (by rfl) ⟨laidIn 4 (by rfl), trivial⟩) (by rfl) (some 34) (by rfl) (by exact fun _ _ h => h) ?_
        rintro _ -
        skip
        refine Rg.tail 10 [11] (by rfl) (by kernel_rfl) (Does.call [1, 2, 3, 0] (show Oper.op _ = Op.call { callee := Callee.value (Operand.func 70), args := #[Operand.tmp 29, Operand.tmp 34], argTypes := #[23, 9] } from rfl) Tryz.func70 (by kernel_rfl) (by kernel_rfl) (sync_sl h (nameP s) (nameP_good s)) (by rfl) (by rfl) (by rfl)) (by rfl) (some 35) (by rfl) (by kernel_rfl) (by kernel_rfl) ?_
        rintro D' ⟨h', hd, hm⟩
        skip
        refine Rg.tail 11 [] (by rfl) (by kernel_rfl) (Does.call [3, 0, 1, 2] (show Oper.op _ = Op.call { callee := Callee.value (Operand.func 33), args := #[Operand.tmp 25, Operand.tmp 35], argTypes := #[26, 27] } from rfl) Tryz.func33 (by kernel_rfl) (by kernel_rfl) (done_sl g D.d ⟨s, false⟩ (P.sync (nameP s)).2) (by rfl) (by rfl) (by rfl)) (by rfl) (some 36) (by rfl) (by kernel_rfl) (by kernel_rfl) ?_
        rintro _ -
        refine Rg.ev 12 (by rfl) (fun _ h => h) (Ev.assign (show Oper.op _ = Op.assign (Operand.tmp 36) from rfl) (by rfl)) (by rfl) (some 2) (by rfl) (by kernel_rfl) (by kernel_rfl) (by kernel_rfl) (by kernel_rfl) ?_
        refine Rg.done (by kernel_rfl) ?_ _
        refine Cd.ret ?_
        refine Ent.ret (D') (⟨h', hd, hm⟩) (Res.tmp (by rfl) (by rfl)) ?_ [0, 1, 2, 3] (by rfl) ?_
        · rfl
        · rfl
  · dsimp only
    rw [if_pos rfl]
    refine Fn.enter Tryz.func54 rfl Tryz.ntmps54 (by rfl) ?_
    intro w0
    refine Cd.seq ?_
    refine Cd.region ?_
    refine Ls.ev (some 2) (Ev.assign (show Oper.op _ = Op.assign (Operand.const (Value.int IntKind.i64 0)) from rfl) (by rfl)) (by rfl) (by rfl) ?_
    refine Ls.nil ?_
    refine Cd.seq ?_
    refine Cd.seq ?_
    refine Cd.region ?_
    refine Ls.ev (some 3) (Ev.move (show Oper.op _ = Op.move (Operand.tmp 0) from rfl) (by rfl)) (by rfl) (by rfl) ?_
    refine Ls.ev (some 4) (Ev.nilCheck (show Oper.op _ = Op.nilCheck (Operand.tmp 3) from rfl) (by rfl)) (by rfl) (by rfl) ?_
    refine Ls.ev (some 5) (Ev.fieldAddr (k := 2) (show Oper.op _ = Op.fieldAddr 70 (Operand.tmp 4) 2 from rfl) (by rfl) (by kernel_rfl) (by rfl)) (by rfl) (by rfl) ?_
    refine Ls.ev (some 6) (Ev.load 0 (show Oper.op _ = Op.load 4 (Operand.tmp 5) from rfl) (by rfl) (by rfl) (by kernel_rfl) (by rfl)) (by rfl) (by rfl) ?_
    refine Ls.nil ?_
    refine Cd.cond_true (by rfl) (rfl) ?_
    refine Cd.seq ?_
    refine Cd.region ?_
    refine Ls.ev (some 2) (Ev.assign (show Oper.op _ = Op.assign (Operand.const (Value.int IntKind.i64 6)) from rfl) (by rfl)) (by rfl) (by rfl) ?_
    refine Ls.nil ?_
    refine Cd.ret ?_
    refine Ent.ret (D) (⟨h, rfl, rfl⟩) (Res.tmp (by rfl) (by rfl)) ?_ [0, 1, 2, 3] (by rfl) ?_
    · rfl
    · rfl
theorem syncL_seg (P : DrP) (L : LgP) : (syncL P L).2.1.seg = L.seg := by
  unfold syncL
  split
  · rfl
  · split <;> rfl
theorem roll_sl {D : DrS} {P : DrP} (h : Drv D P) (g : Nat) (L : LgP) (hL : L.seg ≤ 1000000) : Fn Tryz.prog 32 #[ptrV g] [lgB g D.d L, D.B, D.M, D.F, laidC] DrS (fun _ => .tuple #[.int .i64 (rollL P L).2.2.1, .int .i64 (rollL P L).2.2.2]) (fun D' => [lgB g D.d (rollL P L).2.1, D'.B, D'.M, D'.F]) (fun D' => Drv D' (rollL P L).1 ∧ D'.d = D.d ∧ D'.m = D.m) := by
  have hc := lsync_sl h g L hL
  have hsg := syncL_seg P L
  unfold rollL
  generalize syncL P L = r at hc hsg ⊢
  obtain ⟨Q, ⟨s, b⟩, e⟩ := r
  dsimp only at hc hsg ⊢
  have hs : s ≤ 1000000 := by omega
  refine Fn.enter Tryz.func32 rfl Tryz.ntmps32 (by rfl) ?_
  intro w0
  refine Cd.seq ?_
  refine Cd.region ?_
  refine Ls.ev (some 2) (Ev.assign (show Oper.op _ = Op.assign (Operand.const (Value.int IntKind.i64 0)) from rfl) (by rfl)) (by rfl) (by rfl) ?_
  refine Ls.ev (some 3) (Ev.assign (show Oper.op _ = Op.assign (Operand.const (Value.int IntKind.i64 0)) from rfl) (by rfl)) (by rfl) (by rfl) ?_
  refine Ls.nil ?_
  refine Cd.seq ?_
  refine Cd.seq ?_
  refine Cd.region ?_
  refine Ls.ev (some 5) (Ev.move (show Oper.op _ = Op.move (Operand.tmp 0) from rfl) (by rfl)) (by rfl) (by rfl) ?_
  refine Ls.does (some 6) (Does.call [0, 1, 2, 3, 4] (show Oper.op _ = Op.call { callee := Callee.value (Operand.func 54), args := #[Operand.tmp 5], argTypes := #[26] } from rfl) Tryz.func54 (by kernel_rfl) (by kernel_rfl) (hc) (by rfl) (by rfl) (by rfl)) (by rfl) (by rfl) ?_
  rintro D' ⟨h', hd, hm⟩
  refine Ls.ev (some 4) (Ev.assign (show Oper.op _ = Op.assign (Operand.tmp 6) from rfl) (by rfl)) (by rfl) (by rfl) ?_
  refine Ls.nil ?_
  refine Cd.seq ?_
  refine Cd.region ?_
  refine Ls.ev (some 7) (Ev.move (show Oper.op _ = Op.move (Operand.tmp 4) from rfl) (by rfl)) (by rfl) (by rfl) ?_
  refine Ls.ev (some 8) (Ev.neq (show Oper.op _ = Op.binOp BinOp.neq 27 (Operand.tmp 7) (Operand.const (Value.int IntKind.i64 0)) 27 from rfl) (by rfl) (by rfl)) (by rfl) (by rfl) ?_
  refine Ls.nil ?_
  by_cases he : e = 0
  · skip
    rw [if_neg (fun h => h he)]
    have hmin : (if (999999 : Int) < (s : Int) then (999999 : Int) else (s : Int)) = ((min s 999999 : Nat) : Int) := by split <;> omega
    refine Cd.cond_false (by rfl) (decide_eq_false (show ¬ (e ≠ 0) from fun h => h he)) ?_
    refine Cd.skip ?_
    refine Cd.seq ?_
    refine Cd.region ?_
    refine Ls.ev (some 10) (Ev.move (show Oper.op _ = Op.move (Operand.tmp 0) from rfl) (by rfl)) (by rfl) (by rfl) ?_
    refine Ls.ev (some 11) (Ev.move (show Oper.op _ = Op.move (Operand.tmp 0) from rfl) (by rfl)) (by rfl) (by rfl) ?_
    refine Ls.ev (some 12) (Ev.nilCheck (show Oper.op _ = Op.nilCheck (Operand.tmp 11) from rfl) (by rfl)) (by rfl) (by rfl) ?_
    refine Ls.ev (some 13) (Ev.fieldAddr (k := 1) (show Oper.op _ = Op.fieldAddr 70 (Operand.tmp 12) 1 from rfl) (by rfl) (by kernel_rfl) (by rfl)) (by rfl) (by rfl) ?_
    refine Ls.ev (some 14) (Ev.load 0 (show Oper.op _ = Op.load 3 (Operand.tmp 13) from rfl) (by rfl) (by rfl) (by kernel_rfl) (by rfl)) (by rfl) (by rfl) ?_
    refine Ls.ev (some 15) (Ev.min (show Oper.op _ = Op.call { callee := Callee.builtin Builtin.min, args := #[Operand.tmp 14, Operand.const (Value.int IntKind.i64 999999)], argTypes := #[3, 3] } from rfl) (by rfl) (by rfl)) (by rfl) (by rfl) ?_
    rw [hmin]
    skip
    refine Ls.ev (some 16) (Ev.addN (b := 1) (show Oper.op _ = Op.binOp BinOp.add 3 (Operand.tmp 15) (Operand.const (Value.int IntKind.i64 1)) 3 from rfl) (by rfl) (by rfl) (by omega)) (by rfl) (by rfl) ?_
    refine Ls.ev (some 17) (Ev.nilCheck (show Oper.op _ = Op.nilCheck (Operand.tmp 10) from rfl) (by rfl)) (by rfl) (by rfl) ?_
    refine Ls.ev (some 18) (Ev.fieldAddr (k := 1) (show Oper.op _ = Op.fieldAddr 70 (Operand.tmp 17) 1 from rfl) (by rfl) (by kernel_rfl) (by rfl)) (by rfl) (by rfl) ?_
    refine Ls.does none (Does.store 0 (show Oper.op _ = Op.store 3 (Operand.tmp 18) (Operand.tmp 16) from rfl) (by rfl) (by rfl) (by rfl) (by kernel_rfl) (by rfl) (by kernel_rfl) (by rfl)) (by rfl) (by rfl) ?_
    intro _ _
    refine Ls.nil ?_
    refine Cd.seq ?_
    refine Cd.region ?_
    refine Ls.ev (some 19) (Ev.move (show Oper.op _ = Op.move (Operand.tmp 0) from rfl) (by rfl)) (by rfl) (by rfl) ?_
    refine Ls.ev (some 20) (Ev.nilCheck (show Oper.op _ = Op.nilCheck (Operand.tmp 19) from rfl) (by rfl)) (by rfl) (by rfl) ?_
    refine Ls.ev (some 21) (Ev.fieldAddr (k := 1) (show Oper.op _ = Op.fieldAddr 70 (Operand.tmp 20) 1 from rfl) (by rfl) (by kernel_rfl) (by rfl)) (by rfl) (by rfl) ?_
    refine Ls.ev (some 22) (Ev.load 0 (show Oper.op _ = Op.load 3 (Operand.tmp 21) from rfl) (by rfl) (by rfl) (by kernel_rfl) (by rfl)) (by rfl) (by rfl) ?_
    refine Ls.ev (some 2) (Ev.assign (show Oper.op _ = Op.assign (Operand.tmp 22) from rfl) (by rfl)) (by rfl) (by rfl) ?_
    refine Ls.ev (some 3) (Ev.assign (show Oper.op _ = Op.assign (Operand.const (Value.int IntKind.i64 0)) from rfl) (by rfl)) (by rfl) (by rfl) ?_
    refine Ls.nil ?_
    refine Cd.ret ?_
    refine Ent.ret (D') (⟨h', hd, hm⟩) (Res.tmp2 (by rfl) (by rfl) (by rfl)) ?_ [0, 1, 2, 3] (by rfl) ?_
    · rfl
    · rfl
  · skip
    rw [if_pos he]
    refine Cd.cond_true (by rfl) (decide_eq_true he) ?_
    refine Cd.seq ?_
    refine Cd.region ?_
    refine Ls.ev (some 9) (Ev.move (show Oper.op _ = Op.move (Operand.tmp 4) from rfl) (by rfl)) (by rfl) (by rfl) ?_
    refine Ls.ev (some 2) (Ev.assign (show Oper.op _ = Op.assign (Operand.const (Value.int IntKind.i64 0)) from rfl) (by rfl)) (by rfl) (by rfl) ?_
    refine Ls.ev (some 3) (Ev.assign (show Oper.op _ = Op.assign (Operand.tmp 9) from rfl) (by rfl)) (by rfl) (by rfl) ?_
    refine Ls.nil ?_
    refine Cd.ret ?_
    refine Ent.ret (D') (⟨h', hd, hm⟩) (Res.tmp2 (by rfl) (by rfl) (by rfl)) ?_ [0, 1, 2, 3] (by rfl) ?_
    · rfl
    · rfl
end Go.Proofs.YtceanciekadkeaaGreatDoor
/- walks: a log's Append, Drop -/
namespace Go.Proofs.YtceanciekadkeaaGreatDoor
open Go.RowKit
theorem seal_sl (A : Option Addr) (c : Nat) (l : List UInt8) (hn : l.length ≤ 4096) : Fn Tryz.prog 30 #[.slice A l.length c] [rdB A l] (Option Addr × Nat) (fun p => .tuple #[.slice p.1 (sealL l).length p.2, .int .i64 0]) (fun p => [rowB p.1 p.2 (sealL l)]) (fun _ => True) :=
  Fn.of_own (res := fun p => .tuple #[.slice p.1 (sealL l).length p.2, .int .i64 0]) fun w hs => seal_any A l.length c l w (sat_rd 0 rfl hs) hn
theorem seal_over (A : Option Addr) (c n : Nat) (hn : 4096 < n) : Fn Tryz.prog 30 #[.slice A n c] [] Unit (fun _ => .tuple #[.slice none 0 0, .int .i64 3]) (fun _ => []) (fun _ => True) := by
  refine Fn.enter Tryz.func30 rfl Tryz.ntmps30 (by rfl) ?_
  intro w0
  refine Cd.seq ?_
  refine Cd.region ?_
  refine Ls.ev (some 2) (Ev.assign (show Oper.op _ = Op.assign (Operand.const (Value.slice none 0 0)) from rfl) (by rfl)) (by rfl) (by rfl) ?_
  refine Ls.ev (some 3) (Ev.assign (show Oper.op _ = Op.assign (Operand.const (Value.int IntKind.i64 0)) from rfl) (by rfl)) (by rfl) (by rfl) ?_
  refine Ls.nil ?_
  refine Cd.seq ?_
  refine Cd.seq ?_
  refine Cd.region ?_
  refine Ls.ev (some 6) (Ev.move (show Oper.op _ = Op.move (Operand.tmp 0) from rfl) (by rfl)) (by rfl) (by rfl) ?_
  refine Ls.ev (some 7) (Ev.len (show Oper.op _ = Op.call { callee := Callee.builtin Builtin.len, args := #[Operand.tmp 6], argTypes := #[30] } from rfl) (by rfl) Tryz.underlying30) (by rfl) (by rfl) ?_
  refine Ls.ev (some 8) (Ev.gtr (show Oper.op _ = Op.binOp BinOp.gtr 3 (Operand.tmp 7) (Operand.const (Value.int IntKind.i64 4096)) 3 from rfl) (by rfl) (by rfl)) (by rfl) (by rfl) ?_
  refine Ls.nil ?_
  refine Cd.cond_true (by rfl) (decide_eq_true (by omega)) ?_
  refine Cd.seq ?_
  refine Cd.region ?_
  refine Ls.ev (some 2) (Ev.assign (show Oper.op _ = Op.assign (Operand.const (Value.slice none 0 0)) from rfl) (by rfl)) (by rfl) (by rfl) ?_
  refine Ls.ev (some 3) (Ev.assign (show Oper.op _ = Op.assign (Operand.const (Value.int IntKind.i64 3)) from rfl) (by rfl)) (by rfl) (by rfl) ?_
  refine Ls.nil ?_
  refine Cd.ret ?_
  refine Ent.ret (()) (trivial) (Res.tmp2 (by rfl) (by rfl) (by rfl)) ?_ [] (by rfl) ?_
  · rfl
  · rfl
theorem sealL_len (l : List UInt8) (h : l.length ≤ 4096) : (sealL l).length ≤ 4110 := by
  have := uintL_len64 (n := l.length) (by omega)
  rw [sealL_length]
  omega
theorem syncL_alive {P : DrP} {L : LgP} (hL : L.dead = false) (h : (syncL P L).2.2 = 0) : (syncL P L).2.1.dead = false := by
  unfold syncL at h ⊢
  rw [if_neg (by rw [hL]; decide)] at h ⊢
  split
  · exact hL
  · rename_i hn
    rw [if_neg hn] at h
    dsimp only at h ⊢
    rw [h]
    rfl
theorem rollL_alive {P : DrP} {L : LgP} (hL : L.dead = false) (h : (rollL P L).2.2.2 = 0) : (rollL P L).2.1.dead = false := by
  unfold rollL at h ⊢
  by_cases hs : (syncL P L).2.2 = 0
  · rw [if_neg (fun h => h hs)]
    exact syncL_alive hL hs
  · rw [if_pos hs] at h
    exact absurd h hs
theorem lappend_sl {D : DrS} {P : DrP} (h : Drv D P) (g : Nat) (L : LgP) (hL : L.seg ≤ 1000000) (A : Option Addr) (c : Nat) (p : List UInt8) : Fn Tryz.prog 11 #[ptrV g, .slice A p.length c] [lgB g D.d L, D.B, D.M, D.F, laidC, rdB A p] DrS (fun _ => .int .i64 (appL P L p).2.2) (fun D' => [lgB g D.d (appL P L p).2.1, D'.B, D'.M, D'.F]) (fun D' => Drv D' (appL P L p).1 ∧ D'.d = D.d ∧ D'.m = D.m) := by
  unfold appL
  by_cases hlong : 4096 < p.length
  · rw [if_pos hlong]
    refine Fn.enter Tryz.func11 rfl Tryz.ntmps11 (by rfl) ?_
    intro w0
    refine Cd.seq ?_
    refine Cd.region ?_
    refine Ls.ev (some 4) (Ev.assign (show Oper.op _ = Op.assign (Operand.const (Value.int IntKind.i64 0)) from rfl) (by rfl)) (by rfl) (by rfl) ?_
    refine Ls.nil ?_
    refine Cd.seq ?_
    refine Cd.region ?_
    refine Ls.ev (some 11) (Ev.move (show Oper.op _ = Op.move (Operand.tmp 1) from rfl) (by rfl)) (by rfl) (by rfl) ?_
    refine Ls.does (some 12) (Does.read (show Oper.op _ = Op.call { callee := Callee.value (Operand.func 30), args := #[Operand.tmp 11], argTypes := #[30] } from rfl) Tryz.func30 (by kernel_rfl) (by kernel_rfl) (seal_over A c p.length hlong) (by rfl) (by rfl) trivial) (by rfl) (by rfl) ?_
    rintro _ -
    refine Ls.ev (some 10) (Ev.move (show Oper.op _ = Op.move (Operand.tmp 12) from rfl) (by rfl)) (by rfl) (by rfl) ?_
    refine Ls.ev (some 13) (Ev.extract (show Oper.op _ = Op.extract (Operand.tmp 10) 0 from rfl) (by rfl) (by rfl)) (by rfl) (by rfl) ?_
    refine Ls.ev (some 14) (Ev.extract (show Oper.op _ = Op.extract (Operand.tmp 10) 1 from rfl) (by rfl) (by rfl)) (by rfl) (by rfl) ?_
    refine Ls.ev (some 5) (Ev.assign (show Oper.op _ = Op.assign (Operand.tmp 13) from rfl) (by rfl)) (by rfl) (by rfl) ?_
    refine Ls.ev (some 6) (Ev.assign (show Oper.op _ = Op.assign (Operand.tmp 14) from rfl) (by rfl)) (by rfl) (by rfl) ?_
    refine Ls.nil ?_
    refine Cd.seq ?_
    refine Cd.seq ?_
    refine Cd.region ?_
    refine Ls.ev (some 15) (Ev.move (show Oper.op _ = Op.move (Operand.tmp 6) from rfl) (by rfl)) (by rfl) (by rfl) ?_
    refine Ls.ev (some 16) (Ev.neq (show Oper.op _ = Op.binOp BinOp.neq 27 (Operand.tmp 15) (Operand.const (Value.int IntKind.i64 0)) 27 from rfl) (by rfl) (by rfl)) (by rfl) (by rfl) ?_
    refine Ls.nil ?_
    refine Cd.cond_true (by rfl) (decide_eq_true (show ((3 : Int) ≠ 0) by decide)) ?_
    refine Cd.seq ?_
    refine Cd.region ?_
    refine Ls.ev (some 17) (Ev.move (show Oper.op _ = Op.move (Operand.tmp 6) from rfl) (by rfl)) (by rfl) (by rfl) ?_
    refine Ls.ev (some 4) (Ev.assign (show Oper.op _ = Op.assign (Operand.tmp 17) from rfl) (by rfl)) (by rfl) (by rfl) ?_
    refine Ls.nil ?_
    refine Cd.ret ?_
    refine Ent.ret (D) (⟨h, rfl, rfl⟩) (Res.tmp (by rfl) (by rfl)) ?_ [0, 1, 2, 3] (by rfl) ?_
    · rfl
    · rfl
  rw [if_neg hlong]
  have hlong : p.length ≤ 4096 := by omega
  obtain ⟨s, b⟩ := L
  dsimp only at hL ⊢
  have hsl := sealL_len p hlong
  cases b
  rotate_left
  · rw [if_pos rfl]
    refine Fn.enter Tryz.func11 rfl Tryz.ntmps11 (by rfl) ?_
    intro w0
    refine Cd.seq ?_
    refine Cd.region ?_
    refine Ls.ev (some 4) (Ev.assign (show Oper.op _ = Op.assign (Operand.const (Value.int IntKind.i64 0)) from rfl) (by rfl)) (by rfl) (by rfl) ?_
    refine Ls.nil ?_
    refine Cd.seq ?_
    refine Cd.region ?_
    refine Ls.ev (some 11) (Ev.move (show Oper.op _ = Op.move (Operand.tmp 1) from rfl) (by rfl)) (by rfl) (by rfl) ?_
    refine Ls.does (some 12) (Does.readN (show Oper.op _ = Op.call { callee := Callee.value (Operand.func 30), args := #[Operand.tmp 11], argTypes := #[30] } from rfl) Tryz.func30 (by kernel_rfl) (by kernel_rfl) (seal_sl A c p hlong) (by rfl) (by rfl) ⟨ReadsIn.rd 5 (by rfl), trivial⟩ (fun _ => by rfl)) (by rfl) (by rfl) ?_
    rintro ⟨sA, sc⟩ -
    refine Ls.ev (some 10) (Ev.move (show Oper.op _ = Op.move (Operand.tmp 12) from rfl) (by rfl)) (by rfl) (by rfl) ?_
    refine Ls.ev (some 13) (Ev.extract (show Oper.op _ = Op.extract (Operand.tmp 10) 0 from rfl) (by rfl) (by rfl)) (by rfl) (by rfl) ?_
    refine Ls.ev (some 14) (Ev.extract (show Oper.op _ = Op.extract (Operand.tmp 10) 1 from rfl) (by rfl) (by rfl)) (by rfl) (by rfl) ?_
    refine Ls.ev (some 5) (Ev.assign (show Oper.op _ = Op.assign (Operand.tmp 13) from rfl) (by rfl)) (by rfl) (by rfl) ?_
    refine Ls.ev (some 6) (Ev.assign (show Oper.op _ = Op.assign (Operand.tmp 14) from rfl) (by rfl)) (by rfl) (by rfl) ?_
    refine Ls.nil ?_
    refine Cd.seq ?_
    refine Cd.seq ?_
    refine Cd.region ?_
    refine Ls.ev (some 15) (Ev.move (show Oper.op _ = Op.move (Operand.tmp 6) from rfl) (by rfl)) (by rfl) (by rfl) ?_
    refine Ls.ev (some 16) (Ev.neq (show Oper.op _ = Op.binOp BinOp.neq 27 (Operand.tmp 15) (Operand.const (Value.int IntKind.i64 0)) 27 from rfl) (by rfl) (by rfl)) (by rfl) (by rfl) ?_
    refine Ls.nil ?_
    refine Cd.cond_false (by rfl) (decide_eq_false (show ¬ ((0 : Int) ≠ 0) from fun h => h rfl)) ?_
    refine Cd.skip ?_
    refine Cd.seq ?_
    refine Cd.seq ?_
    refine Cd.region ?_
    refine Ls.ev (some 18) (Ev.move (show Oper.op _ = Op.move (Operand.tmp 0) from rfl) (by rfl)) (by rfl) (by rfl) ?_
    refine Ls.ev (some 19) (Ev.nilCheck (show Oper.op _ = Op.nilCheck (Operand.tmp 18) from rfl) (by rfl)) (by rfl) (by rfl) ?_
    refine Ls.ev (some 20) (Ev.fieldAddr (k := 2) (show Oper.op _ = Op.fieldAddr 70 (Operand.tmp 19) 2 from rfl) (by rfl) (by kernel_rfl) (by rfl)) (by rfl) (by rfl) ?_
    refine Ls.ev (some 21) (Ev.load 1 (show Oper.op _ = Op.load 4 (Operand.tmp 20) from rfl) (by rfl) (by rfl) (by kernel_rfl) (by rfl)) (by rfl) (by rfl) ?_
    refine Ls.nil ?_
    refine Cd.cond_true (by rfl) (rfl) ?_
    refine Cd.seq ?_
    refine Cd.region ?_
    refine Ls.ev (some 4) (Ev.assign (show Oper.op _ = Op.assign (Operand.const (Value.int IntKind.i64 6)) from rfl) (by rfl)) (by rfl) (by rfl) ?_
    refine Ls.nil ?_
    refine Cd.ret ?_
    refine Ent.ret (D) (⟨h, rfl, rfl⟩) (Res.tmp (by rfl) (by rfl)) ?_ [1, 2, 3, 4] (by rfl) ?_
    · rfl
    · rfl
  rw [if_neg (by decide)]
  by_cases hs : s ≤ 999999
  rotate_left
  · have hz : sizeL P ⟨s, false⟩ = 0 := if_neg hs
    rw [hz, if_neg (fun e => absurd e.1 (by omega))]
    unfold putL
    dsimp only
    rw [if_pos (by omega)]
    refine Fn.enter Tryz.func11 rfl Tryz.ntmps11 (by rfl) ?_
    intro w0
    refine Cd.seq ?_
    refine Cd.region ?_
    refine Ls.ev (some 4) (Ev.assign (show Oper.op _ = Op.assign (Operand.const (Value.int IntKind.i64 0)) from rfl) (by rfl)) (by rfl) (by rfl) ?_
    refine Ls.nil ?_
    refine Cd.seq ?_
    refine Cd.region ?_
    refine Ls.ev (some 11) (Ev.move (show Oper.op _ = Op.move (Operand.tmp 1) from rfl) (by rfl)) (by rfl) (by rfl) ?_
    refine Ls.does (some 12) (Does.readN (show Oper.op _ = Op.call { callee := Callee.value (Operand.func 30), args := #[Operand.tmp 11], argTypes := #[30] } from rfl) Tryz.func30 (by kernel_rfl) (by kernel_rfl) (seal_sl A c p hlong) (by rfl) (by rfl) ⟨ReadsIn.rd 5 (by rfl), trivial⟩ (fun _ => by rfl)) (by rfl) (by rfl) ?_
    rintro ⟨sA, sc⟩ -
    refine Ls.ev (some 10) (Ev.move (show Oper.op _ = Op.move (Operand.tmp 12) from rfl) (by rfl)) (by rfl) (by rfl) ?_
    refine Ls.ev (some 13) (Ev.extract (show Oper.op _ = Op.extract (Operand.tmp 10) 0 from rfl) (by rfl) (by rfl)) (by rfl) (by rfl) ?_
    refine Ls.ev (some 14) (Ev.extract (show Oper.op _ = Op.extract (Operand.tmp 10) 1 from rfl) (by rfl) (by rfl)) (by rfl) (by rfl) ?_
    refine Ls.ev (some 5) (Ev.assign (show Oper.op _ = Op.assign (Operand.tmp 13) from rfl) (by rfl)) (by rfl) (by rfl) ?_
    refine Ls.ev (some 6) (Ev.assign (show Oper.op _ = Op.assign (Operand.tmp 14) from rfl) (by rfl)) (by rfl) (by rfl) ?_
    refine Ls.nil ?_
    refine Cd.seq ?_
    refine Cd.seq ?_
    refine Cd.region ?_
    refine Ls.ev (some 15) (Ev.move (show Oper.op _ = Op.move (Operand.tmp 6) from rfl) (by rfl)) (by rfl) (by rfl) ?_
    refine Ls.ev (some 16) (Ev.neq (show Oper.op _ = Op.binOp BinOp.neq 27 (Operand.tmp 15) (Operand.const (Value.int IntKind.i64 0)) 27 from rfl) (by rfl) (by rfl)) (by rfl) (by rfl) ?_
    refine Ls.nil ?_
    refine Cd.cond_false (by rfl) (decide_eq_false (show ¬ ((0 : Int) ≠ 0) from fun h => h rfl)) ?_
    refine Cd.skip ?_
    refine Cd.seq ?_
    refine Cd.seq ?_
    refine Cd.region ?_
    refine Ls.ev (some 18) (Ev.move (show Oper.op _ = Op.move (Operand.tmp 0) from rfl) (by rfl)) (by rfl) (by rfl) ?_
    refine Ls.ev (some 19) (Ev.nilCheck (show Oper.op _ = Op.nilCheck (Operand.tmp 18) from rfl) (by rfl)) (by rfl) (by rfl) ?_
    refine Ls.ev (some 20) (Ev.fieldAddr (k := 2) (show Oper.op _ = Op.fieldAddr 70 (Operand.tmp 19) 2 from rfl) (by rfl) (by kernel_rfl) (by rfl)) (by rfl) (by rfl) ?_
    refine Ls.ev (some 21) (Ev.load 1 (show Oper.op _ = Op.load 4 (Operand.tmp 20) from rfl) (by rfl) (by rfl) (by kernel_rfl) (by rfl)) (by rfl) (by rfl) ?_
    refine Ls.nil ?_
    refine Cd.cond_false (by rfl) (rfl) ?_
    refine Cd.skip ?_
    refine Cd.seq ?_
    refine Cd.region ?_
    refine Ls.ev (some 7) (Ev.assign (show Oper.op _ = Op.assign (Operand.const (Value.int IntKind.i64 0)) from rfl) (by rfl)) (by rfl) (by rfl) ?_
    refine Ls.nil ?_
    refine Cd.seq ?_
    refine Cd.seq ?_
    refine Cd.region ?_
    refine Ls.ev (some 22) (Ev.move (show Oper.op _ = Op.move (Operand.tmp 0) from rfl) (by rfl)) (by rfl) (by rfl) ?_
    refine Ls.ev (some 23) (Ev.nilCheck (show Oper.op _ = Op.nilCheck (Operand.tmp 22) from rfl) (by rfl)) (by rfl) (by rfl) ?_
    refine Ls.ev (some 24) (Ev.fieldAddr (k := 1) (show Oper.op _ = Op.fieldAddr 70 (Operand.tmp 23) 1 from rfl) (by rfl) (by kernel_rfl) (by rfl)) (by rfl) (by rfl) ?_
    refine Ls.ev (some 25) (Ev.load 1 (show Oper.op _ = Op.load 3 (Operand.tmp 24) from rfl) (by rfl) (by rfl) (by kernel_rfl) (by rfl)) (by rfl) (by rfl) ?_
    refine Ls.ev (some 26) (Ev.leq (show Oper.op _ = Op.binOp BinOp.leq 3 (Operand.tmp 25) (Operand.const (Value.int IntKind.i64 999999)) 3 from rfl) (by rfl) (by rfl)) (by rfl) (by rfl) ?_
    refine Ls.nil ?_
    refine Cd.cond_false (by rfl) (decide_eq_false (show ¬ ((s : Int) ≤ 999999) by omega)) ?_
    refine Cd.skip ?_
    refine Cd.seq ?_
    refine Cd.seq ?_
    refine Cd.region ?_
    refine Ls.ev (some 37) (Ev.move (show Oper.op _ = Op.move (Operand.tmp 7) from rfl) (by rfl)) (by rfl) (by rfl) ?_
    refine Ls.ev (some 38) (Ev.gtr (show Oper.op _ = Op.binOp BinOp.gtr 3 (Operand.tmp 37) (Operand.const (Value.int IntKind.i64 0)) 3 from rfl) (by rfl) (by rfl)) (by rfl) (by rfl) ?_
    refine Ls.ev (some 39) (Ev.move (show Oper.op _ = Op.move (Operand.tmp 38) from rfl) (by rfl)) (by rfl) (by rfl) ?_
    refine Ent.known 39 false (by rfl) (by exact (rfl)) ?_
    refine Ls.pass (some 40) (by rfl) (by rfl) ?_
    refine Ls.pass (some 41) (by rfl) (by rfl) ?_
    refine Ls.pass (some 42) (by rfl) (by rfl) ?_
    refine Ls.pass (some 43) (by rfl) (by rfl) ?_
    refine Ls.pass (some 44) (by rfl) (by rfl) ?_
    refine Ls.ev (some 45) (Ev.pickF (show Oper.op _ = Op.pick (Operand.tmp 39) (Operand.tmp 44) (Operand.const (Value.bool false)) from rfl) (by rfl) (by rfl)) (by rfl) (by rfl) ?_
    refine Ls.nil ?_
    skip
    refine Cd.cond_false (by rfl) (rfl) ?_
    refine Cd.skip ?_
    refine Cd.seq ?_
    refine Cd.seq ?_
    refine Cd.region ?_
    refine Ls.ev (some 54) (Ev.move (show Oper.op _ = Op.move (Operand.tmp 0) from rfl) (by rfl)) (by rfl) (by rfl) ?_
    refine Ls.ev (some 55) (Ev.nilCheck (show Oper.op _ = Op.nilCheck (Operand.tmp 54) from rfl) (by rfl)) (by rfl) (by rfl) ?_
    refine Ls.ev (some 56) (Ev.fieldAddr (k := 1) (show Oper.op _ = Op.fieldAddr 70 (Operand.tmp 55) 1 from rfl) (by rfl) (by kernel_rfl) (by rfl)) (by rfl) (by rfl) ?_
    refine Ls.ev (some 57) (Ev.load 1 (show Oper.op _ = Op.load 3 (Operand.tmp 56) from rfl) (by rfl) (by rfl) (by kernel_rfl) (by rfl)) (by rfl) (by rfl) ?_
    refine Ls.ev (some 58) (Ev.gtr (show Oper.op _ = Op.binOp BinOp.gtr 3 (Operand.tmp 57) (Operand.const (Value.int IntKind.i64 999999)) 3 from rfl) (by rfl) (by rfl)) (by rfl) (by rfl) ?_
    refine Ls.nil ?_
    refine Cd.cond_true (by rfl) (decide_eq_true (show (999999 : Int) < (s : Int) by omega)) ?_
    refine Cd.seq ?_
    refine Cd.region ?_
    refine Ls.ev (some 4) (Ev.assign (show Oper.op _ = Op.assign (Operand.const (Value.int IntKind.i64 5)) from rfl) (by rfl)) (by rfl) (by rfl) ?_
    refine Ls.nil ?_
    refine Cd.ret ?_
    refine Ent.ret (D) (⟨h, rfl, rfl⟩) (Res.tmp (by rfl) (by rfl)) ?_ [1, 2, 3, 4] (by rfl) ?_
    · rfl
    · rfl
  have hz : sizeL P ⟨s, false⟩ = (P.bytes (nameP s)).length := if_pos hs
  rw [hz]
  have hszl := size_sl h (nameP s) (nameP_good s).len
  have hbl : (P.bytes (nameP s)).length ≤ 262144 := by
    unfold DrP.bytes
    cases hf : P.find (nameP s) with
    | none => exact Nat.zero_le _
    | some f => exact h.ok.size _ (findG_some hf).1
  generalize (P.bytes (nameP s)).length = z at hszl hbl ⊢
  by_cases hroll : 0 < z ∧ 1024 < z + (sealL p).length
  · rw [if_pos hroll]
    have hr := roll_sl h g ⟨s, false⟩ hL
    have hrseg : (rollL P ⟨s, false⟩).2.1.seg ≤ 1000000 := by
      unfold rollL
      split
      · rw [syncL_seg]
        exact hL
      · show min _ _ + 1 ≤ _
        omega
    have hrd : (rollL P ⟨s, false⟩).2.2.2 = 0 → (rollL P ⟨s, false⟩).2.1.dead = false := rollL_alive rfl
    generalize rollL P ⟨s, false⟩ = r at hr hrseg hrd ⊢
    obtain ⟨Q, ⟨s2, b2⟩, nn, e⟩ := r
    dsimp only at hr hrseg hrd ⊢
    refine Fn.enter Tryz.func11 rfl Tryz.ntmps11 (by rfl) ?_
    intro w0
    refine Cd.seq ?_
    refine Cd.region ?_
    refine Ls.ev (some 4) (Ev.assign (show Oper.op _ = Op.assign (Operand.const (Value.int IntKind.i64 0)) from rfl) (by rfl)) (by rfl) (by rfl) ?_
    refine Ls.nil ?_
    refine Cd.seq ?_
    refine Cd.region ?_
    refine Ls.ev (some 11) (Ev.move (show Oper.op _ = Op.move (Operand.tmp 1) from rfl) (by rfl)) (by rfl) (by rfl) ?_
    refine Ls.does (some 12) (Does.readN (show Oper.op _ = Op.call { callee := Callee.value (Operand.func 30), args := #[Operand.tmp 11], argTypes := #[30] } from rfl) Tryz.func30 (by kernel_rfl) (by kernel_rfl) (seal_sl A c p hlong) (by rfl) (by rfl) ⟨ReadsIn.rd 5 (by rfl), trivial⟩ (fun _ => by rfl)) (by rfl) (by rfl) ?_
    rintro ⟨sA, sc⟩ -
    refine Ent.see 0 (by rfl) ?_
    refine Ls.ev (some 10) (Ev.move (show Oper.op _ = Op.move (Operand.tmp 12) from rfl) (by rfl)) (by rfl) (by rfl) ?_
    refine Ls.ev (some 13) (Ev.extract (show Oper.op _ = Op.extract (Operand.tmp 10) 0 from rfl) (by rfl) (by rfl)) (by rfl) (by rfl) ?_
    refine Ls.ev (some 14) (Ev.extract (show Oper.op _ = Op.extract (Operand.tmp 10) 1 from rfl) (by rfl) (by rfl)) (by rfl) (by rfl) ?_
    refine Ls.ev (some 5) (Ev.assign (show Oper.op _ = Op.assign (Operand.tmp 13) from rfl) (by rfl)) (by rfl) (by rfl) ?_
    refine Ls.ev (some 6) (Ev.assign (show Oper.op _ = Op.assign (Operand.tmp 14) from rfl) (by rfl)) (by rfl) (by rfl) ?_
    refine Ls.nil ?_
    refine Cd.seq ?_
    refine Cd.seq ?_
    refine Cd.region ?_
    refine Ls.ev (some 15) (Ev.move (show Oper.op _ = Op.move (Operand.tmp 6) from rfl) (by rfl)) (by rfl) (by rfl) ?_
    refine Ls.ev (some 16) (Ev.neq (show Oper.op _ = Op.binOp BinOp.neq 27 (Operand.tmp 15) (Operand.const (Value.int IntKind.i64 0)) 27 from rfl) (by rfl) (by rfl)) (by rfl) (by rfl) ?_
    refine Ls.nil ?_
    refine Cd.cond_false (by rfl) (decide_eq_false (show ¬ ((0 : Int) ≠ 0) from fun h => h rfl)) ?_
    refine Cd.skip ?_
    refine Cd.seq ?_
    refine Cd.seq ?_
    refine Cd.region ?_
    refine Ls.ev (some 18) (Ev.move (show Oper.op _ = Op.move (Operand.tmp 0) from rfl) (by rfl)) (by rfl) (by rfl) ?_
    refine Ls.ev (some 19) (Ev.nilCheck (show Oper.op _ = Op.nilCheck (Operand.tmp 18) from rfl) (by rfl)) (by rfl) (by rfl) ?_
    refine Ls.ev (some 20) (Ev.fieldAddr (k := 2) (show Oper.op _ = Op.fieldAddr 70 (Operand.tmp 19) 2 from rfl) (by rfl) (by kernel_rfl) (by rfl)) (by rfl) (by rfl) ?_
    refine Ls.ev (some 21) (Ev.load 1 (show Oper.op _ = Op.load 4 (Operand.tmp 20) from rfl) (by rfl) (by rfl) (by kernel_rfl) (by rfl)) (by rfl) (by rfl) ?_
    refine Ls.nil ?_
    refine Cd.cond_false (by rfl) (rfl) ?_
    refine Cd.skip ?_
    refine Cd.seq ?_
    refine Cd.region ?_
    refine Ls.ev (some 7) (Ev.assign (show Oper.op _ = Op.assign (Operand.const (Value.int IntKind.i64 0)) from rfl) (by rfl)) (by rfl) (by rfl) ?_
    refine Ls.nil ?_
    refine Cd.seq ?_
    refine Cd.seq ?_
    refine Cd.region ?_
    refine Ls.ev (some 22) (Ev.move (show Oper.op _ = Op.move (Operand.tmp 0) from rfl) (by rfl)) (by rfl) (by rfl) ?_
    refine Ls.ev (some 23) (Ev.nilCheck (show Oper.op _ = Op.nilCheck (Operand.tmp 22) from rfl) (by rfl)) (by rfl) (by rfl) ?_
    refine Ls.ev (some 24) (Ev.fieldAddr (k := 1) (show Oper.op _ = Op.fieldAddr 70 (Operand.tmp 23) 1 from rfl) (by rfl) (by kernel_rfl) (by rfl)) (by rfl) (by rfl) ?_
    refine Ls.ev (some 25) (Ev.load 1 (show Oper.op _ = Op.load 3 (Operand.tmp 24) from rfl) (by rfl) (by rfl) (by kernel_rfl) (by rfl)) (by rfl) (by rfl) ?_
    refine Ls.ev (some 26) (Ev.leq (show Oper.op _ = Op.binOp BinOp.leq 3 (Operand.tmp 25) (Operand.const (Value.int IntKind.i64 999999)) 3 from rfl) (by rfl) (by rfl)) (by rfl) (by rfl) ?_
    refine Ls.nil ?_
    refine Cd.cond_true (by rfl) (decide_eq_true (show (s : Int) ≤ 999999 by omega)) ?_
    refine Cd.draw [] (by kernel_rfl) ?_
    refine Rg.ev 0 (by rfl) (fun _ h => h) (Ev.move (show Oper.op _ = Op.move (Operand.tmp 0) from rfl) (by rfl)) (by rfl) (some 27) (by rfl) (by kernel_rfl) (by kernel_rfl) (by kernel_rfl) (by kernel_rfl) ?_
    refine Rg.ev 1 (by rfl) (fun _ h => h) (Ev.nilCheck (show Oper.op _ = Op.nilCheck (Operand.tmp 27) from rfl) (by rfl)) (by rfl) (some 28) (by rfl) (by kernel_rfl) (by kernel_rfl) (by kernel_rfl) (by kernel_rfl) ?_
    refine Rg.ev 2 (by rfl) (fun _ h => h) (Ev.fieldAddr (k := 0) (show Oper.op _ = Op.fieldAddr 70 (Operand.tmp 28) 0 from rfl) (by rfl) (by kernel_rfl) (by rfl)) (by rfl) (some 29) (by rfl) (by kernel_rfl) (by kernel_rfl) (by kernel_rfl) (by kernel_rfl) ?_
    refine Rg.ev 3 (by rfl) (fun _ h => h) (Ev.load 1 (show Oper.op _ = Op.load 23 (Operand.tmp 29) from rfl) (by rfl) (by rfl) (by kernel_rfl) (by rfl)) (by rfl) (some 30) (by rfl) (by kernel_rfl) (by kernel_rfl) (by kernel_rfl) (by kernel_rfl) ?_
    refine Rg.ev 4 (by rfl) (fun _ h => h) (Ev.move (show Oper.op _ = Op.move (Operand.tmp 0) from rfl) (by rfl)) (by rfl) (some 31) (by rfl) (by kernel_rfl) (by kernel_rfl) (by kernel_rfl) (by kernel_rfl) ?_
    refine Rg.ev 5 (by rfl) (fun _ h => h) (Ev.nilCheck (show Oper.op _ = Op.nilCheck (Operand.tmp 31) from rfl) (by rfl)) (by rfl) (some 32) (by rfl) (by kernel_rfl) (by kernel_rfl) (by kernel_rfl) (by kernel_rfl) ?_
    refine Rg.ev 6 (by rfl) (fun _ h => h) (Ev.fieldAddr (k := 1) (show Oper.op _ = Op.fieldAddr 70 (Operand.tmp 32) 1 from rfl) (by rfl) (by kernel_rfl) (by rfl)) (by rfl) (some 33) (by rfl) (by kernel_rfl) (by kernel_rfl) (by kernel_rfl) (by kernel_rfl) ?_
    refine Rg.ev 7 (by rfl) (fun _ h => h) (Ev.load 1 (show Oper.op _ = Op.load 3 (Operand.tmp 33) from rfl) (by rfl) (by rfl) (by kernel_rfl) (by rfl)) (by rfl) (some 34) (by rfl) (by kernel_rfl) (by kernel_rfl) (by kernel_rfl) (by kernel_rfl) ?_
    refine Rg.does 8 (by rfl) (by kernel_rfl) (Does.read (show Oper.op _ = Op.call { callee := Callee.value (Operand.func 28), args := #[Operand.tmp 34], argTypes := #[3] } from rfl) Tryz.func28 (by kernel_rfl) (by kernel_rfl) (name_sl s (by omega)) (by rfl) (by rfl) ⟨laidIn 5 (by rfl), trivial⟩) (by rfl) (some 35) (by rfl) (by exact fun _ _ h => h) ?_
    rintro _ -
    skip
    refine Rg.does 9 (by rfl) (by kernel_rfl) (Does.read (show Oper.op _ = Op.call { callee := Callee.value (Operand.func 31), args := #[Operand.tmp 30, Operand.tmp 35], argTypes := #[23, 9] } from rfl) Tryz.func31 (by kernel_rfl) (by kernel_rfl) (hszl) (by rfl) (by rfl) ⟨blkIn 2 (by rfl), mapIn 3 (by rfl), filIn 4 (by rfl), trivial⟩) (by rfl) (some 36) (by rfl) (by exact fun _ _ h => h) ?_
    rintro _ -
    refine Rg.ev 10 (by rfl) (fun _ h => h) (Ev.assign (show Oper.op _ = Op.assign (Operand.tmp 36) from rfl) (by rfl)) (by rfl) (some 7) (by rfl) (by kernel_rfl) (by kernel_rfl) (by kernel_rfl) (by kernel_rfl) ?_
    refine Rg.done (by kernel_rfl) ?_ _
    refine Cd.seq ?_
    refine Cd.seq ?_
    refine Cd.region ?_
    refine Ls.ev (some 37) (Ev.move (show Oper.op _ = Op.move (Operand.tmp 7) from rfl) (by rfl)) (by rfl) (by rfl) ?_
    refine Ls.ev (some 38) (Ev.gtr (show Oper.op _ = Op.binOp BinOp.gtr 3 (Operand.tmp 37) (Operand.const (Value.int IntKind.i64 0)) 3 from rfl) (by rfl) (by rfl)) (by rfl) (by rfl) ?_
    refine Ls.ev (some 39) (Ev.move (show Oper.op _ = Op.move (Operand.tmp 38) from rfl) (by rfl)) (by rfl) (by rfl) ?_
    refine Ent.known 39 true (by rfl) (by exact (decide_eq_true (by omega))) ?_
    refine Ls.ev (some 40) (Ev.move (show Oper.op _ = Op.move (Operand.tmp 7) from rfl) (by rfl)) (by rfl) (by rfl) ?_
    refine Ls.ev (some 41) (Ev.move (show Oper.op _ = Op.move (Operand.tmp 5) from rfl) (by rfl)) (by rfl) (by rfl) ?_
    refine Ls.ev (some 42) (Ev.len (show Oper.op _ = Op.call { callee := Callee.builtin Builtin.len, args := #[Operand.tmp 41], argTypes := #[30] } from rfl) (by rfl) Tryz.underlying30) (by rfl) (by rfl) ?_
    refine Ls.ev (some 43) (Ev.addI (show Oper.op _ = Op.binOp BinOp.add 3 (Operand.tmp 40) (Operand.tmp 42) 3 from rfl) (by rfl) (by rfl) (by omega)) (by rfl) (by rfl) ?_
    refine Ls.ev (some 44) (Ev.gtr (show Oper.op _ = Op.binOp BinOp.gtr 3 (Operand.tmp 43) (Operand.const (Value.int IntKind.i64 1024)) 3 from rfl) (by rfl) (by rfl)) (by rfl) (by rfl) ?_
    refine Ls.ev (some 45) (Ev.pickT (show Oper.op _ = Op.pick (Operand.tmp 39) (Operand.tmp 44) (Operand.const (Value.bool false)) from rfl) (by rfl) (by rfl)) (by rfl) (by rfl) ?_
    refine Ls.nil ?_
    skip
    refine Cd.cond_true (by rfl) (decide_eq_true (by omega)) ?_
    refine Cd.seq ?_
    refine Cd.region ?_
    refine Ls.ev (some 47) (Ev.move (show Oper.op _ = Op.move (Operand.tmp 0) from rfl) (by rfl)) (by rfl) (by rfl) ?_
    refine Ls.does (some 48) (Does.call [1, 2, 3, 4, 5, 5, 0] (show Oper.op _ = Op.call { callee := Callee.value (Operand.func 32), args := #[Operand.tmp 47], argTypes := #[26] } from rfl) Tryz.func32 (by kernel_rfl) (by kernel_rfl) (hr) (by rfl) (by rfl) (by rfl)) (by rfl) (by rfl) ?_
    rintro D' ⟨h', hd, hm⟩
    refine Ls.ev (some 46) (Ev.move (show Oper.op _ = Op.move (Operand.tmp 48) from rfl) (by rfl)) (by rfl) (by rfl) ?_
    refine Ls.ev (some 49) (Ev.extract (show Oper.op _ = Op.extract (Operand.tmp 46) 0 from rfl) (by rfl) (by rfl)) (by rfl) (by rfl) ?_
    refine Ls.ev (some 50) (Ev.extract (show Oper.op _ = Op.extract (Operand.tmp 46) 1 from rfl) (by rfl) (by rfl)) (by rfl) (by rfl) ?_
    refine Ls.ev (some 8) (Ev.assign (show Oper.op _ = Op.assign (Operand.tmp 49) from rfl) (by rfl)) (by rfl) (by rfl) ?_
    refine Ls.ev (some 9) (Ev.assign (show Oper.op _ = Op.assign (Operand.tmp 50) from rfl) (by rfl)) (by rfl) (by rfl) ?_
    refine Ls.nil ?_
    refine Cd.seq ?_
    refine Cd.region ?_
    refine Ls.ev (some 51) (Ev.move (show Oper.op _ = Op.move (Operand.tmp 9) from rfl) (by rfl)) (by rfl) (by rfl) ?_
    refine Ls.ev (some 52) (Ev.neq (show Oper.op _ = Op.binOp BinOp.neq 27 (Operand.tmp 51) (Operand.const (Value.int IntKind.i64 0)) 27 from rfl) (by rfl) (by rfl)) (by rfl) (by rfl) ?_
    refine Ls.nil ?_
    by_cases he : e = 0
    rotate_left
    · skip
      rw [if_pos he]
      refine Cd.cond_true (by rfl) (decide_eq_true he) ?_
      refine Cd.seq ?_
      refine Cd.region ?_
      refine Ls.ev (some 53) (Ev.move (show Oper.op _ = Op.move (Operand.tmp 9) from rfl) (by rfl)) (by rfl) (by rfl) ?_
      refine Ls.ev (some 4) (Ev.assign (show Oper.op _ = Op.assign (Operand.tmp 53) from rfl) (by rfl)) (by rfl) (by rfl) ?_
      refine Ls.nil ?_
      refine Cd.ret ?_
      refine Ent.ret (D') (⟨h', hd, hm⟩) (Res.tmp (by rfl) (by rfl)) ?_ [0, 1, 2, 3] (by rfl) ?_
      · rfl
      · rfl
    skip
    rw [if_neg (fun h => h he)]
    obtain rfl := hrd he
    refine Cd.cond_false (by rfl) (decide_eq_false (show ¬ (e ≠ 0) from fun h => h he)) ?_
    refine Cd.skip ?_
    refine Cd.seq ?_
    refine Cd.seq ?_
    refine Cd.region ?_
    refine Ls.ev (some 54) (Ev.move (show Oper.op _ = Op.move (Operand.tmp 0) from rfl) (by rfl)) (by rfl) (by rfl) ?_
    refine Ls.ev (some 55) (Ev.nilCheck (show Oper.op _ = Op.nilCheck (Operand.tmp 54) from rfl) (by rfl)) (by rfl) (by rfl) ?_
    refine Ls.ev (some 56) (Ev.fieldAddr (k := 1) (show Oper.op _ = Op.fieldAddr 70 (Operand.tmp 55) 1 from rfl) (by rfl) (by kernel_rfl) (by rfl)) (by rfl) (by rfl) ?_
    refine Ls.ev (some 57) (Ev.load 0 (show Oper.op _ = Op.load 3 (Operand.tmp 56) from rfl) (by rfl) (by rfl) (by kernel_rfl) (by rfl)) (by rfl) (by rfl) ?_
    refine Ls.ev (some 58) (Ev.gtr (show Oper.op _ = Op.binOp BinOp.gtr 3 (Operand.tmp 57) (Operand.const (Value.int IntKind.i64 999999)) 3 from rfl) (by rfl) (by rfl)) (by rfl) (by rfl) ?_
    refine Ls.nil ?_
    unfold putL
    dsimp only
    by_cases hs2 : 999999 < s2
    · skip
      rw [if_pos hs2]
      refine Cd.cond_true (by rfl) (decide_eq_true (show (999999 : Int) < (s2 : Int) by omega)) ?_
      refine Cd.seq ?_
      refine Cd.region ?_
      refine Ls.ev (some 4) (Ev.assign (show Oper.op _ = Op.assign (Operand.const (Value.int IntKind.i64 5)) from rfl) (by rfl)) (by rfl) (by rfl) ?_
      refine Ls.nil ?_
      refine Cd.ret ?_
      refine Ent.ret (D') (⟨h', hd, hm⟩) (Res.tmp (by rfl) (by rfl)) ?_ [0, 1, 2, 3] (by rfl) ?_
      · rfl
      · rfl
    · skip
      rw [if_neg hs2]
      rw [← hd]
      refine Cd.cond_false (by rfl) (decide_eq_false (show ¬ ((999999 : Int) < (s2 : Int)) by omega)) ?_
      skip
      refine Cd.skip ?_
      refine Cd.seq ?_
      refine Cd.draw [11] (by kernel_rfl) ?_
      refine Rg.mv 0 (by rfl) (fun _ h => h) (show Oper.op _ = Op.move (Operand.tmp 0) from rfl) (by rfl) (by rfl) (some 59) (by rfl) (by kernel_rfl) (by kernel_rfl) (by kernel_rfl) (by kernel_rfl) ?_
      refine Rg.ev 1 (by rfl) (fun _ h => h) (Ev.move (show Oper.op _ = Op.move (Operand.tmp 0) from rfl) (by rfl)) (by rfl) (some 60) (by rfl) (by kernel_rfl) (by kernel_rfl) (by kernel_rfl) (by kernel_rfl) ?_
      refine Rg.ev 2 (by rfl) (fun _ h => h) (Ev.nilCheck (show Oper.op _ = Op.nilCheck (Operand.tmp 60) from rfl) (by rfl)) (by rfl) (some 61) (by rfl) (by kernel_rfl) (by kernel_rfl) (by kernel_rfl) (by kernel_rfl) ?_
      refine Rg.ev 3 (by rfl) (fun _ h => h) (Ev.fieldAddr (k := 0) (show Oper.op _ = Op.fieldAddr 70 (Operand.tmp 61) 0 from rfl) (by rfl) (by kernel_rfl) (by rfl)) (by rfl) (some 62) (by rfl) (by kernel_rfl) (by kernel_rfl) (by kernel_rfl) (by kernel_rfl) ?_
      refine Rg.ev 4 (by rfl) (fun _ h => h) (Ev.load 0 (show Oper.op _ = Op.load 23 (Operand.tmp 62) from rfl) (by rfl) (by rfl) (by kernel_rfl) (by rfl)) (by rfl) (some 63) (by rfl) (by kernel_rfl) (by kernel_rfl) (by kernel_rfl) (by kernel_rfl) ?_
      refine Rg.ev 5 (by rfl) (fun _ h => h) (Ev.move (show Oper.op _ = Op.move (Operand.tmp 0) from rfl) (by rfl)) (by rfl) (some 64) (by rfl) (by kernel_rfl) (by kernel_rfl) (by kernel_rfl) (by kernel_rfl) ?_
      refine Rg.ev 6 (by rfl) (fun _ h => h) (Ev.nilCheck (show Oper.op _ = Op.nilCheck (Operand.tmp 64) from rfl) (by rfl)) (by rfl) (some 65) (by rfl) (by kernel_rfl) (by kernel_rfl) (by kernel_rfl) (by kernel_rfl) ?_
      refine Rg.ev 7 (by rfl) (fun _ h => h) (Ev.fieldAddr (k := 1) (show Oper.op _ = Op.fieldAddr 70 (Operand.tmp 65) 1 from rfl) (by rfl) (by kernel_rfl) (by rfl)) (by rfl) (some 66) (by rfl) (by kernel_rfl) (by kernel_rfl) (by kernel_rfl) (by kernel_rfl) ?_
      refine Rg.ev 8 (by rfl) (fun _ h => h) (Ev.load 0 (show Oper.op _ = Op.load 3 (Operand.tmp 66) from rfl) (by rfl) (by rfl) (by kernel_rfl) (by rfl)) (by rfl) (some 67) (by rfl) (by kernel_rfl) (by kernel_rfl) (by kernel_rfl) (by kernel_rfl) ?_
      refine Rg.ev 10 (by rfl) (fun _ h => h) (Ev.move (show Oper.op _ = Op.move (Operand.tmp 5) from rfl) (by rfl)) (by rfl) (some 69) (by rfl) (by kernel_rfl) (by kernel_rfl) (by kernel_rfl) (by kernel_rfl) ?_
      refine Rg.does 9 (by rfl) (by kernel_rfl) (Does.read (show Oper.op _ = Op.call { callee := Callee.value (Operand.func 28), args := #[Operand.tmp 67], argTypes := #[3] } from rfl) Tryz.func28 (by kernel_rfl) (by kernel_rfl) (name_sl s2 (by omega)) (by rfl) (by rfl) ⟨laidIn 4 (by rfl), trivial⟩) (by rfl) (some 68) (by rfl) (by exact fun _ _ h => h) ?_
      rintro _ -
      skip
      refine Rg.tail 11 [12] (by rfl) (by kernel_rfl) (Does.call [1, 2, 3, 5, 0] (show Oper.op _ = Op.call { callee := Callee.value (Operand.func 34), args := #[Operand.tmp 63, Operand.tmp 68, Operand.tmp 69], argTypes := #[23, 9, 30] } from rfl) Tryz.func34 (by kernel_rfl) (by kernel_rfl) (append_sl h' (nameP s2) (nameP_good s2) sA sc (sealL p) (by omega)) (by rfl) (by rfl) (by rfl)) (by rfl) (some 70) (by rfl) (by kernel_rfl) (by kernel_rfl) ?_
      rintro E' ⟨h2, hd2, hm2⟩
      skip
      refine Rg.tail 12 [] (by rfl) (by kernel_rfl) (Does.call [3, 0, 1, 2] (show Oper.op _ = Op.call { callee := Callee.value (Operand.func 33), args := #[Operand.tmp 59, Operand.tmp 70], argTypes := #[26, 27] } from rfl) Tryz.func33 (by kernel_rfl) (by kernel_rfl) (done_sl g D'.d ⟨s2, false⟩ (Q.append (nameP s2) (sealL p)).2) (by rfl) (by rfl) (by rfl)) (by rfl) (some 71) (by rfl) (by kernel_rfl) (by kernel_rfl) ?_
      rintro _ -
      refine Rg.ev 13 (by rfl) (fun _ h => h) (Ev.assign (show Oper.op _ = Op.assign (Operand.tmp 71) from rfl) (by rfl)) (by rfl) (some 4) (by rfl) (by kernel_rfl) (by kernel_rfl) (by kernel_rfl) (by kernel_rfl) ?_
      refine Rg.done (by kernel_rfl) ?_ _
      refine Cd.ret ?_
      refine Ent.ret (E') (⟨h2, hd2, hm2.trans hm⟩) (Res.tmp (by rfl) (by rfl)) ?_ [0, 1, 2, 3] (by rfl) ?_
      · rfl
      · rfl
  · rw [if_neg hroll]
    unfold putL
    dsimp only
    rw [if_neg (by omega)]
    refine Fn.enter Tryz.func11 rfl Tryz.ntmps11 (by rfl) ?_
    intro w0
    refine Cd.seq ?_
    refine Cd.region ?_
    refine Ls.ev (some 4) (Ev.assign (show Oper.op _ = Op.assign (Operand.const (Value.int IntKind.i64 0)) from rfl) (by rfl)) (by rfl) (by rfl) ?_
    refine Ls.nil ?_
    refine Cd.seq ?_
    refine Cd.region ?_
    refine Ls.ev (some 11) (Ev.move (show Oper.op _ = Op.move (Operand.tmp 1) from rfl) (by rfl)) (by rfl) (by rfl) ?_
    refine Ls.does (some 12) (Does.readN (show Oper.op _ = Op.call { callee := Callee.value (Operand.func 30), args := #[Operand.tmp 11], argTypes := #[30] } from rfl) Tryz.func30 (by kernel_rfl) (by kernel_rfl) (seal_sl A c p hlong) (by rfl) (by rfl) ⟨ReadsIn.rd 5 (by rfl), trivial⟩ (fun _ => by rfl)) (by rfl) (by rfl) ?_
    rintro ⟨sA, sc⟩ -
    refine Ent.see 0 (by rfl) ?_
    refine Ls.ev (some 10) (Ev.move (show Oper.op _ = Op.move (Operand.tmp 12) from rfl) (by rfl)) (by rfl) (by rfl) ?_
    refine Ls.ev (some 13) (Ev.extract (show Oper.op _ = Op.extract (Operand.tmp 10) 0 from rfl) (by rfl) (by rfl)) (by rfl) (by rfl) ?_
    refine Ls.ev (some 14) (Ev.extract (show Oper.op _ = Op.extract (Operand.tmp 10) 1 from rfl) (by rfl) (by rfl)) (by rfl) (by rfl) ?_
    refine Ls.ev (some 5) (Ev.assign (show Oper.op _ = Op.assign (Operand.tmp 13) from rfl) (by rfl)) (by rfl) (by rfl) ?_
    refine Ls.ev (some 6) (Ev.assign (show Oper.op _ = Op.assign (Operand.tmp 14) from rfl) (by rfl)) (by rfl) (by rfl) ?_
    refine Ls.nil ?_
    refine Cd.seq ?_
    refine Cd.seq ?_
    refine Cd.region ?_
    refine Ls.ev (some 15) (Ev.move (show Oper.op _ = Op.move (Operand.tmp 6) from rfl) (by rfl)) (by rfl) (by rfl) ?_
    refine Ls.ev (some 16) (Ev.neq (show Oper.op _ = Op.binOp BinOp.neq 27 (Operand.tmp 15) (Operand.const (Value.int IntKind.i64 0)) 27 from rfl) (by rfl) (by rfl)) (by rfl) (by rfl) ?_
    refine Ls.nil ?_
    refine Cd.cond_false (by rfl) (decide_eq_false (show ¬ ((0 : Int) ≠ 0) from fun h => h rfl)) ?_
    refine Cd.skip ?_
    refine Cd.seq ?_
    refine Cd.seq ?_
    refine Cd.region ?_
    refine Ls.ev (some 18) (Ev.move (show Oper.op _ = Op.move (Operand.tmp 0) from rfl) (by rfl)) (by rfl) (by rfl) ?_
    refine Ls.ev (some 19) (Ev.nilCheck (show Oper.op _ = Op.nilCheck (Operand.tmp 18) from rfl) (by rfl)) (by rfl) (by rfl) ?_
    refine Ls.ev (some 20) (Ev.fieldAddr (k := 2) (show Oper.op _ = Op.fieldAddr 70 (Operand.tmp 19) 2 from rfl) (by rfl) (by kernel_rfl) (by rfl)) (by rfl) (by rfl) ?_
    refine Ls.ev (some 21) (Ev.load 1 (show Oper.op _ = Op.load 4 (Operand.tmp 20) from rfl) (by rfl) (by rfl) (by kernel_rfl) (by rfl)) (by rfl) (by rfl) ?_
    refine Ls.nil ?_
    refine Cd.cond_false (by rfl) (rfl) ?_
    refine Cd.skip ?_
    refine Cd.seq ?_
    refine Cd.region ?_
    refine Ls.ev (some 7) (Ev.assign (show Oper.op _ = Op.assign (Operand.const (Value.int IntKind.i64 0)) from rfl) (by rfl)) (by rfl) (by rfl) ?_
    refine Ls.nil ?_
    refine Cd.seq ?_
    refine Cd.seq ?_
    refine Cd.region ?_
    refine Ls.ev (some 22) (Ev.move (show Oper.op _ = Op.move (Operand.tmp 0) from rfl) (by rfl)) (by rfl) (by rfl) ?_
    refine Ls.ev (some 23) (Ev.nilCheck (show Oper.op _ = Op.nilCheck (Operand.tmp 22) from rfl) (by rfl)) (by rfl) (by rfl) ?_
    refine Ls.ev (some 24) (Ev.fieldAddr (k := 1) (show Oper.op _ = Op.fieldAddr 70 (Operand.tmp 23) 1 from rfl) (by rfl) (by kernel_rfl) (by rfl)) (by rfl) (by rfl) ?_
    refine Ls.ev (some 25) (Ev.load 1 (show Oper.op _ = Op.load 3 (Operand.tmp 24) from rfl) (by rfl) (by rfl) (by kernel_rfl) (by rfl)) (by rfl) (by rfl) ?_
    refine Ls.ev (some 26) (Ev.leq (show Oper.op _ = Op.binOp BinOp.leq 3 (Operand.tmp 25) (Operand.const (Value.int IntKind.i64 999999)) 3 from rfl) (by rfl) (by rfl)) (by rfl) (by rfl) ?_
    refine Ls.nil ?_
    refine Cd.cond_true (by rfl) (decide_eq_true (show (s : Int) ≤ 999999 by omega)) ?_
    refine Cd.draw [] (by kernel_rfl) ?_
    refine Rg.ev 0 (by rfl) (fun _ h => h) (Ev.move (show Oper.op _ = Op.move (Operand.tmp 0) from rfl) (by rfl)) (by rfl) (some 27) (by rfl) (by kernel_rfl) (by kernel_rfl) (by kernel_rfl) (by kernel_rfl) ?_
    refine Rg.ev 1 (by rfl) (fun _ h => h) (Ev.nilCheck (show Oper.op _ = Op.nilCheck (Operand.tmp 27) from rfl) (by rfl)) (by rfl) (some 28) (by rfl) (by kernel_rfl) (by kernel_rfl) (by kernel_rfl) (by kernel_rfl) ?_
    refine Rg.ev 2 (by rfl) (fun _ h => h) (Ev.fieldAddr (k := 0) (show Oper.op _ = Op.fieldAddr 70 (Operand.tmp 28) 0 from rfl) (by rfl) (by kernel_rfl) (by rfl)) (by rfl) (some 29) (by rfl) (by kernel_rfl) (by kernel_rfl) (by kernel_rfl) (by kernel_rfl) ?_
    refine Rg.ev 3 (by rfl) (fun _ h => h) (Ev.load 1 (show Oper.op _ = Op.load 23 (Operand.tmp 29) from rfl) (by rfl) (by rfl) (by kernel_rfl) (by rfl)) (by rfl) (some 30) (by rfl) (by kernel_rfl) (by kernel_rfl) (by kernel_rfl) (by kernel_rfl) ?_
    refine Rg.ev 4 (by rfl) (fun _ h => h) (Ev.move (show Oper.op _ = Op.move (Operand.tmp 0) from rfl) (by rfl)) (by rfl) (some 31) (by rfl) (by kernel_rfl) (by kernel_rfl) (by kernel_rfl) (by kernel_rfl) ?_
    refine Rg.ev 5 (by rfl) (fun _ h => h) (Ev.nilCheck (show Oper.op _ = Op.nilCheck (Operand.tmp 31) from rfl) (by rfl)) (by rfl) (some 32) (by rfl) (by kernel_rfl) (by kernel_rfl) (by kernel_rfl) (by kernel_rfl) ?_
    refine Rg.ev 6 (by rfl) (fun _ h => h) (Ev.fieldAddr (k := 1) (show Oper.op _ = Op.fieldAddr 70 (Operand.tmp 32) 1 from rfl) (by rfl) (by kernel_rfl) (by rfl)) (by rfl) (some 33) (by rfl) (by kernel_rfl) (by kernel_rfl) (by kernel_rfl) (by kernel_rfl) ?_
    refine Rg.ev 7 (by rfl) (fun _ h => h) (Ev.load 1 (show Oper.op _ = Op.load 3 (Operand.tmp 33) from rfl) (by rfl) (by rfl) (by kernel_rfl) (by rfl)) (by rfl) (some 34) (by rfl) (by kernel_rfl) (by kernel_rfl) (by kernel_rfl) (by kernel_rfl) ?_
    refine Rg.does 8 (by rfl) (by kernel_rfl) (Does.read (show Oper.op _ = Op.call { callee := Callee.value (Operand.func 28), args := #[Operand.tmp 34], argTypes := #[3] } from rfl) Tryz.func28 (by kernel_rfl) (by kernel_rfl) (name_sl s (by omega)) (by rfl) (by rfl) ⟨laidIn 5 (by rfl), trivial⟩) (by rfl) (some 35) (by rfl) (by exact fun _ _ h => h) ?_
    rintro _ -
    skip
    refine Rg.does 9 (by rfl) (by kernel_rfl) (Does.read (show Oper.op _ = Op.call { callee := Callee.value (Operand.func 31), args := #[Operand.tmp 30, Operand.tmp 35], argTypes := #[23, 9] } from rfl) Tryz.func31 (by kernel_rfl) (by kernel_rfl) (hszl) (by rfl) (by rfl) ⟨blkIn 2 (by rfl), mapIn 3 (by rfl), filIn 4 (by rfl), trivial⟩) (by rfl) (some 36) (by rfl) (by exact fun _ _ h => h) ?_
    rintro _ -
    refine Rg.ev 10 (by rfl) (fun _ h => h) (Ev.assign (show Oper.op _ = Op.assign (Operand.tmp 36) from rfl) (by rfl)) (by rfl) (some 7) (by rfl) (by kernel_rfl) (by kernel_rfl) (by kernel_rfl) (by kernel_rfl) ?_
    refine Rg.done (by kernel_rfl) ?_ _
    refine Cd.seq ?_
    refine Cd.seq ?_
    refine Cd.region ?_
    refine Ls.ev (some 37) (Ev.move (show Oper.op _ = Op.move (Operand.tmp 7) from rfl) (by rfl)) (by rfl) (by rfl) ?_
    refine Ls.ev (some 38) (Ev.gtr (show Oper.op _ = Op.binOp BinOp.gtr 3 (Operand.tmp 37) (Operand.const (Value.int IntKind.i64 0)) 3 from rfl) (by rfl) (by rfl)) (by rfl) (by rfl) ?_
    refine Ls.ev (some 39) (Ev.move (show Oper.op _ = Op.move (Operand.tmp 38) from rfl) (by rfl)) (by rfl) (by rfl) ?_
    refine Ent.pick [1, 2, 3, 4, 5, 0] (by rfl) ?_
    by_cases hz0 : z = 0
    · skip
      refine Ent.known 39 false (by rfl) (by exact (decide_eq_false (by omega))) ?_
      refine Ls.pass (some 40) (by rfl) (by rfl) ?_
      refine Ls.pass (some 41) (by rfl) (by rfl) ?_
      refine Ls.pass (some 42) (by rfl) (by rfl) ?_
      refine Ls.pass (some 43) (by rfl) (by rfl) ?_
      refine Ls.pass (some 44) (by rfl) (by rfl) ?_
      refine Ls.ev (some 45) (Ev.pickF (show Oper.op _ = Op.pick (Operand.tmp 39) (Operand.tmp 44) (Operand.const (Value.bool false)) from rfl) (by rfl) (by rfl)) (by rfl) (by rfl) ?_
      refine Ls.nil ?_
      skip
      refine Cd.cond_false (by rfl) (rfl) ?_
      refine Cd.skip ?_
      refine Cd.seq ?_
      refine Cd.seq ?_
      refine Cd.region ?_
      refine Ls.ev (some 54) (Ev.move (show Oper.op _ = Op.move (Operand.tmp 0) from rfl) (by rfl)) (by rfl) (by rfl) ?_
      refine Ls.ev (some 55) (Ev.nilCheck (show Oper.op _ = Op.nilCheck (Operand.tmp 54) from rfl) (by rfl)) (by rfl) (by rfl) ?_
      refine Ls.ev (some 56) (Ev.fieldAddr (k := 1) (show Oper.op _ = Op.fieldAddr 70 (Operand.tmp 55) 1 from rfl) (by rfl) (by kernel_rfl) (by rfl)) (by rfl) (by rfl) ?_
      refine Ls.ev (some 57) (Ev.load 0 (show Oper.op _ = Op.load 3 (Operand.tmp 56) from rfl) (by rfl) (by rfl) (by kernel_rfl) (by rfl)) (by rfl) (by rfl) ?_
      refine Ls.ev (some 58) (Ev.gtr (show Oper.op _ = Op.binOp BinOp.gtr 3 (Operand.tmp 57) (Operand.const (Value.int IntKind.i64 999999)) 3 from rfl) (by rfl) (by rfl)) (by rfl) (by rfl) ?_
      refine Ls.nil ?_
      refine Cd.cond_false (by rfl) (decide_eq_false (show ¬ ((999999 : Int) < (s : Int)) by omega)) ?_
      skip
      refine Cd.skip ?_
      refine Cd.seq ?_
      refine Cd.draw [11] (by kernel_rfl) ?_
      refine Rg.mv 0 (by rfl) (fun _ h => h) (show Oper.op _ = Op.move (Operand.tmp 0) from rfl) (by rfl) (by rfl) (some 59) (by rfl) (by kernel_rfl) (by kernel_rfl) (by kernel_rfl) (by kernel_rfl) ?_
      refine Rg.ev 1 (by rfl) (fun _ h => h) (Ev.move (show Oper.op _ = Op.move (Operand.tmp 0) from rfl) (by rfl)) (by rfl) (some 60) (by rfl) (by kernel_rfl) (by kernel_rfl) (by kernel_rfl) (by kernel_rfl) ?_
      refine Rg.ev 2 (by rfl) (fun _ h => h) (Ev.nilCheck (show Oper.op _ = Op.nilCheck (Operand.tmp 60) from rfl) (by rfl)) (by rfl) (some 61) (by rfl) (by kernel_rfl) (by kernel_rfl) (by kernel_rfl) (by kernel_rfl) ?_
      refine Rg.ev 3 (by rfl) (fun _ h => h) (Ev.fieldAddr (k := 0) (show Oper.op _ = Op.fieldAddr 70 (Operand.tmp 61) 0 from rfl) (by rfl) (by kernel_rfl) (by rfl)) (by rfl) (some 62) (by rfl) (by kernel_rfl) (by kernel_rfl) (by kernel_rfl) (by kernel_rfl) ?_
      refine Rg.ev 4 (by rfl) (fun _ h => h) (Ev.load 0 (show Oper.op _ = Op.load 23 (Operand.tmp 62) from rfl) (by rfl) (by rfl) (by kernel_rfl) (by rfl)) (by rfl) (some 63) (by rfl) (by kernel_rfl) (by kernel_rfl) (by kernel_rfl) (by kernel_rfl) ?_
      refine Rg.ev 5 (by rfl) (fun _ h => h) (Ev.move (show Oper.op _ = Op.move (Operand.tmp 0) from rfl) (by rfl)) (by rfl) (some 64) (by rfl) (by kernel_rfl) (by kernel_rfl) (by kernel_rfl) (by kernel_rfl) ?_
      refine Rg.ev 6 (by rfl) (fun _ h => h) (Ev.nilCheck (show Oper.op _ = Op.nilCheck (Operand.tmp 64) from rfl) (by rfl)) (by rfl) (some 65) (by rfl) (by kernel_rfl) (by kernel_rfl) (by kernel_rfl) (by kernel_rfl) ?_
      refine Rg.ev 7 (by rfl) (fun _ h => h) (Ev.fieldAddr (k := 1) (show Oper.op _ = Op.fieldAddr 70 (Operand.tmp 65) 1 from rfl) (by rfl) (by kernel_rfl) (by rfl)) (by rfl) (some 66) (by rfl) (by kernel_rfl) (by kernel_rfl) (by kernel_rfl) (by kernel_rfl) ?_
      refine Rg.ev 8 (by rfl) (fun _ h => h) (Ev.load 0 (show Oper.op _ = Op.load 3 (Operand.tmp 66) from rfl) (by rfl) (by rfl) (by kernel_rfl) (by rfl)) (by rfl) (some 67) (by rfl) (by kernel_rfl) (by kernel_rfl) (by kernel_rfl) (by kernel_rfl) ?_
      refine Rg.ev 10 (by rfl) (fun _ h => h) (Ev.move (show Oper.op _ = Op.move (Operand.tmp 5) from rfl) (by rfl)) (by rfl) (some 69) (by rfl) (by kernel_rfl) (by kernel_rfl) (by kernel_rfl) (by kernel_rfl) ?_
      refine Rg.does 9 (by rfl) (by kernel_rfl) (Does.read (show Oper.op _ = Op.call { callee := Callee.value (Operand.func 28), args := #[Operand.tmp 67], argTypes := #[3] } from rfl) Tryz.func28 (by kernel_rfl) (by kernel_rfl) (name_sl s (by omega)) (by rfl) (by rfl) ⟨laidIn 4 (by rfl), trivial⟩) (by rfl) (some 68) (by rfl) (by exact fun _ _ h => h) ?_
      rintro _ -
      skip
      refine Rg.tail 11 [12] (by rfl) (by kernel_rfl) (Does.call [1, 2, 3, 5, 0] (show Oper.op _ = Op.call { callee := Callee.value (Operand.func 34), args := #[Operand.tmp 63, Operand.tmp 68, Operand.tmp 69], argTypes := #[23, 9, 30] } from rfl) Tryz.func34 (by kernel_rfl) (by kernel_rfl) (append_sl h (nameP s) (nameP_good s) sA sc (sealL p) (by omega)) (by rfl) (by rfl) (by rfl)) (by rfl) (some 70) (by rfl) (by kernel_rfl) (by kernel_rfl) ?_
      rintro E' ⟨h2, hd2, hm2⟩
      skip
      refine Rg.tail 12 [] (by rfl) (by kernel_rfl) (Does.call [3, 0, 1, 2] (show Oper.op _ = Op.call { callee := Callee.value (Operand.func 33), args := #[Operand.tmp 59, Operand.tmp 70], argTypes := #[26, 27] } from rfl) Tryz.func33 (by kernel_rfl) (by kernel_rfl) (done_sl g D.d ⟨s, false⟩ (P.append (nameP s) (sealL p)).2) (by rfl) (by rfl) (by rfl)) (by rfl) (some 71) (by rfl) (by kernel_rfl) (by kernel_rfl) ?_
      rintro _ -
      refine Rg.ev 13 (by rfl) (fun _ h => h) (Ev.assign (show Oper.op _ = Op.assign (Operand.tmp 71) from rfl) (by rfl)) (by rfl) (some 4) (by rfl) (by kernel_rfl) (by kernel_rfl) (by kernel_rfl) (by kernel_rfl) ?_
      refine Rg.done (by kernel_rfl) ?_ _
      refine Cd.ret ?_
      refine Ent.ret (E') (⟨h2, hd2, hm2⟩) (Res.tmp (by rfl) (by rfl)) ?_ [0, 1, 2, 3] (by rfl) ?_
      · rfl
      · rfl
    · skip
      refine Ent.known 39 true (by rfl) (by exact (decide_eq_true (by omega))) ?_
      refine Ls.ev (some 40) (Ev.move (show Oper.op _ = Op.move (Operand.tmp 7) from rfl) (by rfl)) (by rfl) (by rfl) ?_
      refine Ls.ev (some 41) (Ev.move (show Oper.op _ = Op.move (Operand.tmp 5) from rfl) (by rfl)) (by rfl) (by rfl) ?_
      refine Ls.ev (some 42) (Ev.len (show Oper.op _ = Op.call { callee := Callee.builtin Builtin.len, args := #[Operand.tmp 41], argTypes := #[30] } from rfl) (by rfl) Tryz.underlying30) (by rfl) (by rfl) ?_
      refine Ls.ev (some 43) (Ev.addI (show Oper.op _ = Op.binOp BinOp.add 3 (Operand.tmp 40) (Operand.tmp 42) 3 from rfl) (by rfl) (by rfl) (by omega)) (by rfl) (by rfl) ?_
      refine Ls.ev (some 44) (Ev.gtr (show Oper.op _ = Op.binOp BinOp.gtr 3 (Operand.tmp 43) (Operand.const (Value.int IntKind.i64 1024)) 3 from rfl) (by rfl) (by rfl)) (by rfl) (by rfl) ?_
      refine Ls.ev (some 45) (Ev.pickT (show Oper.op _ = Op.pick (Operand.tmp 39) (Operand.tmp 44) (Operand.const (Value.bool false)) from rfl) (by rfl) (by rfl)) (by rfl) (by rfl) ?_
      refine Ls.nil ?_
      skip
      refine Cd.cond_false (by rfl) (decide_eq_false (by omega)) ?_
      refine Cd.skip ?_
      refine Cd.seq ?_
      refine Cd.seq ?_
      refine Cd.region ?_
      refine Ls.ev (some 54) (Ev.move (show Oper.op _ = Op.move (Operand.tmp 0) from rfl) (by rfl)) (by rfl) (by rfl) ?_
      refine Ls.ev (some 55) (Ev.nilCheck (show Oper.op _ = Op.nilCheck (Operand.tmp 54) from rfl) (by rfl)) (by rfl) (by rfl) ?_
      refine Ls.ev (some 56) (Ev.fieldAddr (k := 1) (show Oper.op _ = Op.fieldAddr 70 (Operand.tmp 55) 1 from rfl) (by rfl) (by kernel_rfl) (by rfl)) (by rfl) (by rfl) ?_
      refine Ls.ev (some 57) (Ev.load 0 (show Oper.op _ = Op.load 3 (Operand.tmp 56) from rfl) (by rfl) (by rfl) (by kernel_rfl) (by rfl)) (by rfl) (by rfl) ?_
      refine Ls.ev (some 58) (Ev.gtr (show Oper.op _ = Op.binOp BinOp.gtr 3 (Operand.tmp 57) (Operand.const (Value.int IntKind.i64 999999)) 3 from rfl) (by rfl) (by rfl)) (by rfl) (by rfl) ?_
      refine Ls.nil ?_
      refine Cd.cond_false (by rfl) (decide_eq_false (show ¬ ((999999 : Int) < (s : Int)) by omega)) ?_
      skip
      refine Cd.skip ?_
      refine Cd.seq ?_
      refine Cd.draw [11] (by kernel_rfl) ?_
      refine Rg.mv 0 (by rfl) (fun _ h => h) (show Oper.op _ = Op.move (Operand.tmp 0) from rfl) (by rfl) (by rfl) (some 59) (by rfl) (by kernel_rfl) (by kernel_rfl) (by kernel_rfl) (by kernel_rfl) ?_
      refine Rg.ev 1 (by rfl) (fun _ h => h) (Ev.move (show Oper.op _ = Op.move (Operand.tmp 0) from rfl) (by rfl)) (by rfl) (some 60) (by rfl) (by kernel_rfl) (by kernel_rfl) (by kernel_rfl) (by kernel_rfl) ?_
      refine Rg.ev 2 (by rfl) (fun _ h => h) (Ev.nilCheck (show Oper.op _ = Op.nilCheck (Operand.tmp 60) from rfl) (by rfl)) (by rfl) (some 61) (by rfl) (by kernel_rfl) (by kernel_rfl) (by kernel_rfl) (by kernel_rfl) ?_
      refine Rg.ev 3 (by rfl) (fun _ h => h) (Ev.fieldAddr (k := 0) (show Oper.op _ = Op.fieldAddr 70 (Operand.tmp 61) 0 from rfl) (by rfl) (by kernel_rfl) (by rfl)) (by rfl) (some 62) (by rfl) (by kernel_rfl) (by kernel_rfl) (by kernel_rfl) (by kernel_rfl) ?_
      refine Rg.ev 4 (by rfl) (fun _ h => h) (Ev.load 0 (show Oper.op _ = Op.load 23 (Operand.tmp 62) from rfl) (by rfl) (by rfl) (by kernel_rfl) (by rfl)) (by rfl) (some 63) (by rfl) (by kernel_rfl) (by kernel_rfl) (by kernel_rfl) (by kernel_rfl) ?_
      refine Rg.ev 5 (by rfl) (fun _ h => h) (Ev.move (show Oper.op _ = Op.move (Operand.tmp 0) from rfl) (by rfl)) (by rfl) (some 64) (by rfl) (by kernel_rfl) (by kernel_rfl) (by kernel_rfl) (by kernel_rfl) ?_
      refine Rg.ev 6 (by rfl) (fun _ h => h) (Ev.nilCheck (show Oper.op _ = Op.nilCheck (Operand.tmp 64) from rfl) (by rfl)) (by rfl) (some 65) (by rfl) (by kernel_rfl) (by kernel_rfl) (by kernel_rfl) (by kernel_rfl) ?_
      refine Rg.ev 7 (by rfl) (fun _ h => h) (Ev.fieldAddr (k := 1) (show Oper.op _ = Op.fieldAddr 70 (Operand.tmp 65) 1 from rfl) (by rfl) (by kernel_rfl) (by rfl)) (by rfl) (some 66) (by rfl) (by kernel_rfl) (by kernel_rfl) (by kernel_rfl) (by kernel_rfl) ?_
      refine Rg.ev 8 (by rfl) (fun _ h => h) (Ev.load 0 (show Oper.op _ = Op.load 3 (Operand.tmp 66) from rfl) (by rfl) (by rfl) (by kernel_rfl) (by rfl)) (by rfl) (some 67) (by rfl) (by kernel_rfl) (by kernel_rfl) (by kernel_rfl) (by kernel_rfl) ?_
      refine Rg.ev 10 (by rfl) (fun _ h => h) (Ev.move (show Oper.op _ = Op.move (Operand.tmp 5) from rfl) (by rfl)) (by rfl) (some 69) (by rfl) (by kernel_rfl) (by kernel_rfl) (by kernel_rfl) (by kernel_rfl) ?_
      refine Rg.does 9 (by rfl) (by kernel_rfl) (Does.read (show Oper.op _ = Op.call { callee := Callee.value (Operand.func 28), args := #[Operand.tmp 67], argTypes := #[3] } from rfl) Tryz.func28 (by kernel_rfl) (by kernel_rfl) (name_sl s (by omega)) (by rfl) (by rfl) ⟨laidIn 4 (by rfl), trivial⟩) (by rfl) (some 68) (by rfl) (by exact fun _ _ h => h) ?_
      rintro _ -
      skip
      refine Rg.tail 11 [12] (by rfl) (by kernel_rfl) (Does.call [1, 2, 3, 5, 0] (show Oper.op _ = Op.call { callee := Callee.value (Operand.func 34), args := #[Operand.tmp 63, Operand.tmp 68, Operand.tmp 69], argTypes := #[23, 9, 30] } from rfl) Tryz.func34 (by kernel_rfl) (by kernel_rfl) (append_sl h (nameP s) (nameP_good s) sA sc (sealL p) (by omega)) (by rfl) (by rfl) (by rfl)) (by rfl) (some 70) (by rfl) (by kernel_rfl) (by kernel_rfl) ?_
      rintro E' ⟨h2, hd2, hm2⟩
      skip
      refine Rg.tail 12 [] (by rfl) (by kernel_rfl) (Does.call [3, 0, 1, 2] (show Oper.op _ = Op.call { callee := Callee.value (Operand.func 33), args := #[Operand.tmp 59, Operand.tmp 70], argTypes := #[26, 27] } from rfl) Tryz.func33 (by kernel_rfl) (by kernel_rfl) (done_sl g D.d ⟨s, false⟩ (P.append (nameP s) (sealL p)).2) (by rfl) (by rfl) (by rfl)) (by rfl) (some 71) (by rfl) (by kernel_rfl) (by kernel_rfl) ?_
      rintro _ -
      refine Rg.ev 13 (by rfl) (fun _ h => h) (Ev.assign (show Oper.op _ = Op.assign (Operand.tmp 71) from rfl) (by rfl)) (by rfl) (some 4) (by rfl) (by kernel_rfl) (by kernel_rfl) (by kernel_rfl) (by kernel_rfl) ?_
      refine Rg.done (by kernel_rfl) ?_ _
      refine Cd.ret ?_
      refine Ent.ret (E') (⟨h2, hd2, hm2⟩) (Res.tmp (by rfl) (by rfl)) ?_ [0, 1, 2, 3] (by rfl) ?_
      · rfl
      · rfl
end Go.Proofs.YtceanciekadkeaaGreatDoor
/- walks: frame.Scan over pieces; wal.Open -/
namespace Go.Proofs.YtceanciekadkeaaGreatDoor
open Go.RowKit
/-- A slice of bytes as it lies. -/
structure ByS where
  A : Option Addr
  c : Nat
  l : List UInt8
  deriving Inhabited
abbrev ByS.v (s : ByS) : Value := .slice s.A s.l.length s.c
abbrev ByS.R (s : ByS) : Chunk := row s.A s.l.length s.c 5 1 (u8s s.l)
abbrev ByS.r (s : ByS) : Chunk := rd s.A s.l.length 1 (u8s s.l)
abbrev payW (A : Option Addr) (c : Nat) (S : List ByS) : Chunk := row A S.length c 30 1 (S.map ByS.v)
abbrev payX (S : List ByS) : Chunk := starx (S.map ByS.R)
theorem rows_of {w : World} {base : Nat} : ∀ {vs : List Value} {ls : List (List UInt8)}, OwnRows w base vs ls → ∃ S : List ByS, S.map ByS.l = ls ∧ S.map ByS.v = vs ∧ (∀ s ∈ S, Own w base 5 1 s.A s.l.length s.c (u8s s.l))
  | [], [], _ => ⟨[], rfl, rfl, fun _ h => absurd h List.not_mem_nil⟩
  | [], _ :: _, h => absurd h.len (by simp)
  | _ :: _, [], h => absurd h.len (by simp)
  | v :: vs, l :: ls, h => by
    obtain ⟨A, c, rfl, ho⟩ := h.row 0 v l rfl rfl
    obtain ⟨S, h1, h2, h3⟩ := rows_of (vs := vs) (ls := ls) ⟨by simpa using h.len, fun i v' l' hv hl => h.row (i + 1) v' l' (by simpa using hv) (by simpa using hl), fun i j v1 v2 g g' hij hv hv' => h.apart (i + 1) (j + 1) v1 v2 g g' (by omega) (by simpa using hv) (by simpa using hv')⟩
    exact ⟨⟨A, c, l⟩ :: S, by rw [List.map_cons, h1], by rw [List.map_cons, h2], fun s hs => (List.mem_cons.1 hs).elim (fun e => e ▸ ho) (h3 s)⟩
theorem sat_rows {w w' : World} {H : List Chunk} {A : Option Addr} {c : Nat} {vs : List Value} {ls : List (List UInt8)} (hb : Below w.heap.size w w') (ho : Own w' w.heap.size 30 1 A ls.length c vs) (hr : OwnRows w' w.heap.size vs ls) :
    ∃ S : List ByS, S.map ByS.l = ls ∧ Sat ⟨w, H⟩ [payW A c S, payX S] w' := by
  obtain ⟨S, rfl, rfl, h3⟩ := rows_of hr
  rw [List.length_map] at ho
  have hap : (S.map ByS.R).Pairwise apart := by
    rw [List.pairwise_iff_getElem]
    intro i j hi hj hij _ k hk hk'
    rw [List.length_map] at hi hj
    rw [List.getElem_map] at hk hk'
    have := hr.apart i j _ _ k k hij (show (S.map ByS.v)[i]? = some S[i].v by rw [List.getElem?_map, List.getElem?_eq_getElem hi]; rfl) (show (S.map ByS.v)[j]? = some S[j].v by rw [List.getElem?_map, List.getElem?_eq_getElem hj]; rfl) hk hk'
    exact absurd this (Nat.lt_irrefl _)
  refine ⟨S, rfl, Upd.of_below hb, ⟨fun D hD => ?_, List.pairwise_pair.2 fun _ k hk hk' => ?_⟩, fun D hD => ?_⟩
  · rcases List.mem_cons.1 hD with rfl | hD
    · exact ho.mono (Nat.zero_le _)
    · obtain rfl := List.mem_singleton.1 hD
      refine ⟨fun C hC => ?_, hap⟩
      obtain ⟨s, hs, rfl⟩ := List.mem_map.1 hC
      exact (h3 s hs).mono (Nat.zero_le _)
  · obtain ⟨C, hC, hk'⟩ := hk'
    obtain ⟨s, hs, rfl⟩ := List.mem_map.1 hC
    exact hr.off ho (by decide) (List.mem_map_of_mem hs) k hk' hk
  · rcases List.mem_cons.1 hD with rfl | hD
    · intro k hk hlt
      have := (ho.ge k hk).1
      dsimp only at hlt
      omega
    · obtain rfl := List.mem_singleton.1 hD
      rintro k ⟨C, hC, hk⟩ hlt
      obtain ⟨s, hs, rfl⟩ := List.mem_map.1 hC
      have := ((h3 s hs).ge k hk).1
      dsimp only at hlt
      omega
theorem scan_sl (A : Option Addr) (c : Nat) (l : List UInt8) (hl : l.length ≤ 1048576) (hc : l.length ≤ c ∧ c ≤ maxLen) : Fn Tryz.prog 29 #[.slice A l.length c] [rdB A l] ((Option Addr × Nat) × List ByS) (fun p => .tuple #[.slice p.1.1 p.2.length p.1.2, .int .i64 (scanF l).2]) (fun p => [payW p.1.1 p.1.2 p.2, payX p.2]) (fun p => p.2.map ByS.l = (scanF l).1) := fun w hs => by
  refine (scan_any A l.length c l w (sat_rd 0 rfl hs) hc.1 hc.2 (by omega)).mono ?_
  rintro e w' ⟨D, d, vs, rfl, ho, hr, hb⟩
  obtain ⟨S, h1, h2⟩ := sat_rows (H := [rdB A l]) hb ho hr
  refine ⟨((D, d), S), h1, ?_, h2⟩
  dsimp only
  rw [← h1, List.length_map]
section
variable {Γ : Ctx} {H : List Chunk} {w : World}
theorem starx_join {a b : List Chunk} (ha : ∀ C ∈ a, C.excl = true) (hb : ∀ C ∈ b, C.excl = true) (h : Sat Γ (starx a :: starx b :: H) w) : Sat Γ (starx (a ++ b) :: H) w := by
  have h1 := Sat.starx_open h
  have h2 : Sat Γ (starx b :: (a ++ H)) w := h1.perm (by
    show (a ++ ([starx b] ++ H)).Perm ([starx b] ++ (a ++ H))
    exact List.perm_append_comm_assoc _ _ _)
  have h3 := Sat.starx_open h2
  refine Sat.starx_close (fun C hC => (List.mem_append.1 hC).elim (ha C) (hb C)) (h3.perm ?_)
  rw [List.append_assoc]
  exact List.perm_append_comm_assoc _ _ _
theorem pay_join {a b : List ByS} (h : Sat Γ (payX a :: payX b :: H) w) : Sat Γ (payX (a ++ b) :: H) w := by
  show Sat Γ (starx ((a ++ b).map ByS.R) :: H) w
  rw [List.map_append]
  exact starx_join (fun C hC => by obtain ⟨_, _, rfl⟩ := List.mem_map.1 hC; rfl) (fun C hC => by obtain ⟨_, _, rfl⟩ := List.mem_map.1 hC; rfl) h
end
theorem elem_pay : Elem Tryz.prog 22 30 1 24 := elem_of (by kernel_rfl)
theorem one_pay (S : List ByS) : ∀ u ∈ S.map ByS.v, u.oneCell' = true := fun u hu => by
  obtain ⟨x, _, rfl⟩ := List.mem_map.1 hu
  rfl
theorem payN_snoc (P : DrP) (fr : Nat) (ns : List Nat) (n : Nat) : payN P fr (ns ++ [n]) = payN P fr ns ++ if fr ≤ n then P.segB n else [] := by
  unfold payN
  rw [List.flatMap_append, List.flatMap_singleton]
theorem open_bad (d : Value) (fr : Int) (hf : fr < 1 ∨ 999999 < fr) : Fn Tryz.prog 9 #[d, .int .i64 fr] [] Unit (fun _ => .tuple #[.pointer none, .slice none 0 0, .int .i64 1]) (fun _ => []) (fun _ => True) := by
  refine Fn.enter Tryz.func9 rfl Tryz.ntmps9 (by rfl) ?_
  intro w0
  refine Cd.seq ?_
  refine Cd.region ?_
  refine Ls.ev (some 4) (Ev.assign (show Oper.op _ = Op.assign (Operand.const (Value.pointer none)) from rfl) (by rfl)) (by rfl) (by rfl) ?_
  refine Ls.ev (some 5) (Ev.assign (show Oper.op _ = Op.assign (Operand.const (Value.slice none 0 0)) from rfl) (by rfl)) (by rfl) (by rfl) ?_
  refine Ls.ev (some 6) (Ev.assign (show Oper.op _ = Op.assign (Operand.const (Value.int IntKind.i64 0)) from rfl) (by rfl)) (by rfl) (by rfl) ?_
  refine Ls.nil ?_
  refine Cd.seq ?_
  refine Cd.seq ?_
  refine Cd.region ?_
  refine Ls.ev (some 15) (Ev.move (show Oper.op _ = Op.move (Operand.tmp 1) from rfl) (by rfl)) (by rfl) (by rfl) ?_
  refine Ls.ev (some 16) (Ev.lss (show Oper.op _ = Op.binOp BinOp.lss 3 (Operand.tmp 15) (Operand.const (Value.int IntKind.i64 1)) 3 from rfl) (by rfl) (by rfl)) (by rfl) (by rfl) ?_
  refine Ls.ev (some 17) (Ev.move (show Oper.op _ = Op.move (Operand.tmp 16) from rfl) (by rfl)) (by rfl) (by rfl) ?_
  by_cases h1 : fr < 1
  · skip
    refine Ent.known 17 true (by rfl) (by exact (decide_eq_true h1)) ?_
    refine Ls.pass (some 18) (by rfl) (by rfl) ?_
    refine Ls.pass (some 19) (by rfl) (by rfl) ?_
    refine Ls.ev (some 20) (Ev.pickT (show Oper.op _ = Op.pick (Operand.tmp 17) (Operand.const (Value.bool true)) (Operand.tmp 19) from rfl) (by rfl) (by rfl)) (by rfl) (by rfl) ?_
    refine Ls.nil ?_
    skip
    refine Cd.cond_true (by rfl) (rfl) ?_
    refine Cd.seq ?_
    refine Cd.region ?_
    refine Ls.ev (some 4) (Ev.assign (show Oper.op _ = Op.assign (Operand.const (Value.pointer none)) from rfl) (by rfl)) (by rfl) (by rfl) ?_
    refine Ls.ev (some 5) (Ev.assign (show Oper.op _ = Op.assign (Operand.const (Value.slice none 0 0)) from rfl) (by rfl)) (by rfl) (by rfl) ?_
    refine Ls.ev (some 6) (Ev.assign (show Oper.op _ = Op.assign (Operand.const (Value.int IntKind.i64 1)) from rfl) (by rfl)) (by rfl) (by rfl) ?_
    refine Ls.nil ?_
    refine Cd.ret ?_
    refine Ent.ret (()) (trivial) (Res.tmp3 (by rfl) (by rfl) (by rfl) (by rfl)) ?_ [] (by rfl) ?_
    · rfl
    · rfl
  · skip
    refine Ent.known 17 false (by rfl) (by exact (decide_eq_false h1)) ?_
    refine Ls.ev (some 18) (Ev.move (show Oper.op _ = Op.move (Operand.tmp 1) from rfl) (by rfl)) (by rfl) (by rfl) ?_
    refine Ls.ev (some 19) (Ev.gtr (show Oper.op _ = Op.binOp BinOp.gtr 3 (Operand.tmp 18) (Operand.const (Value.int IntKind.i64 999999)) 3 from rfl) (by rfl) (by rfl)) (by rfl) (by rfl) ?_
    refine Ls.ev (some 20) (Ev.pickF (show Oper.op _ = Op.pick (Operand.tmp 17) (Operand.const (Value.bool true)) (Operand.tmp 19) from rfl) (by rfl) (by rfl)) (by rfl) (by rfl) ?_
    refine Ls.nil ?_
    skip
    refine Cd.cond_true (by rfl) (decide_eq_true (hf.resolve_left h1)) ?_
    refine Cd.seq ?_
    refine Cd.region ?_
    refine Ls.ev (some 4) (Ev.assign (show Oper.op _ = Op.assign (Operand.const (Value.pointer none)) from rfl) (by rfl)) (by rfl) (by rfl) ?_
    refine Ls.ev (some 5) (Ev.assign (show Oper.op _ = Op.assign (Operand.const (Value.slice none 0 0)) from rfl) (by rfl)) (by rfl) (by rfl) ?_
    refine Ls.ev (some 6) (Ev.assign (show Oper.op _ = Op.assign (Operand.const (Value.int IntKind.i64 1)) from rfl) (by rfl)) (by rfl) (by rfl) ?_
    refine Ls.nil ?_
    refine Cd.ret ?_
    refine Ent.ret (()) (trivial) (Res.tmp3 (by rfl) (by rfl) (by rfl) (by rfl)) ?_ [] (by rfl) ?_
    · rfl
    · rfl
theorem open_sl {D : DrS} {P : DrP} (h : Drv D P) (fr : Nat) (hf1 : 1 ≤ fr) (hf2 : fr ≤ 999999) : Fn Tryz.prog 9 #[D.ptr, .int .i64 fr] [D.rB, D.rM, D.rF, laidC] (Nat × (Option Addr × Nat) × List ByS) (fun p => .tuple #[ptrV p.1, .slice p.2.1.1 p.2.2.length p.2.1.2, .int .i64 0]) (fun p => [lgB p.1 D.d ⟨P.seg fr, false⟩, payW p.2.1.1 p.2.1.2 p.2.2, payX p.2.2]) (fun p => p.2.2.map ByS.l = P.pay fr) := by
  have hsg := segs_sl h
  have hln : (segsP P).length ≤ 256 := by
    have := segsN_len (P.fs.map FiP.nm)
    rw [List.length_map] at this
    have h2 := h.ok.len
    show (segsN _).length ≤ _
    omega
  have hmem : ∀ n ∈ segsP P, 1 ≤ n ∧ n ≤ 999999 ∧ ∃ f, P.find (nameP n) = some f := fun n hn => by
    obtain ⟨a, b, hc⟩ := segsN_mem hn
    obtain ⟨f, hf, he⟩ := List.mem_map.1 hc
    exact ⟨a, b, f, by rw [← he]; exact findG_mem h.ok.rise hf⟩
  unfold DrP.seg DrP.pay
  generalize segsP P = ns at hsg hln hmem ⊢
  refine Fn.enter Tryz.func9 rfl Tryz.ntmps9 (by rfl) ?_
  intro w0
  refine Cd.seq ?_
  refine Cd.region ?_
  refine Ls.ev (some 4) (Ev.assign (show Oper.op _ = Op.assign (Operand.const (Value.pointer none)) from rfl) (by rfl)) (by rfl) (by rfl) ?_
  refine Ls.ev (some 5) (Ev.assign (show Oper.op _ = Op.assign (Operand.const (Value.slice none 0 0)) from rfl) (by rfl)) (by rfl) (by rfl) ?_
  refine Ls.ev (some 6) (Ev.assign (show Oper.op _ = Op.assign (Operand.const (Value.int IntKind.i64 0)) from rfl) (by rfl)) (by rfl) (by rfl) ?_
  refine Ls.nil ?_
  refine Cd.seq ?_
  refine Cd.seq ?_
  refine Cd.region ?_
  refine Ls.ev (some 15) (Ev.move (show Oper.op _ = Op.move (Operand.tmp 1) from rfl) (by rfl)) (by rfl) (by rfl) ?_
  refine Ls.ev (some 16) (Ev.lss (show Oper.op _ = Op.binOp BinOp.lss 3 (Operand.tmp 15) (Operand.const (Value.int IntKind.i64 1)) 3 from rfl) (by rfl) (by rfl)) (by rfl) (by rfl) ?_
  refine Ls.ev (some 17) (Ev.move (show Oper.op _ = Op.move (Operand.tmp 16) from rfl) (by rfl)) (by rfl) (by rfl) ?_
  refine Ent.known 17 false (by rfl) (by exact (decide_eq_false (by omega))) ?_
  refine Ls.ev (some 18) (Ev.move (show Oper.op _ = Op.move (Operand.tmp 1) from rfl) (by rfl)) (by rfl) (by rfl) ?_
  refine Ls.ev (some 19) (Ev.gtr (show Oper.op _ = Op.binOp BinOp.gtr 3 (Operand.tmp 18) (Operand.const (Value.int IntKind.i64 999999)) 3 from rfl) (by rfl) (by rfl)) (by rfl) (by rfl) ?_
  refine Ls.ev (some 20) (Ev.pickF (show Oper.op _ = Op.pick (Operand.tmp 17) (Operand.const (Value.bool true)) (Operand.tmp 19) from rfl) (by rfl) (by rfl)) (by rfl) (by rfl) ?_
  refine Ls.nil ?_
  skip
  refine Cd.cond_false (by rfl) (decide_eq_false (by omega)) ?_
  refine Cd.skip ?_
  refine Cd.seq ?_
  refine Cd.region ?_
  refine Ls.ev (some 21) (Ev.move (show Oper.op _ = Op.move (Operand.tmp 0) from rfl) (by rfl)) (by rfl) (by rfl) ?_
  refine Ls.ev (some 22) (Ev.move (show Oper.op _ = Op.move (Operand.tmp 1) from rfl) (by rfl)) (by rfl) (by rfl) ?_
  refine Ls.ev (some 23) (Ev.buildP (pl := [(0, 1), (1, 1), (2, 1)]) (zs := [.pointer none, .int .i64 0, .bool false]) (show Oper.op _ = Op.build 70 #[(0, Operand.tmp 21), (1, Operand.tmp 22)] from rfl) (by rfl) (by kernel_rfl) (by rfl)) (by rfl) (by rfl) ?_
  refine Ls.does (some 24) (Does.box (show Oper.op _ = Op.box 70 (Operand.tmp 23) from rfl) (by rfl)) (by rfl) (by rfl) ?_
  intro g1 _
  refine Ls.ev (some 7) (Ev.assign (show Oper.op _ = Op.assign (Operand.tmp 24) from rfl) (by rfl)) (by rfl) (by rfl) ?_
  refine Ls.nil ?_
  refine Cd.seq ?_
  refine Cd.region ?_
  refine Ls.ev (some 8) (Ev.assign (show Oper.op _ = Op.assign (Operand.const (Value.slice none 0 0)) from rfl) (by rfl)) (by rfl) (by rfl) ?_
  refine Ls.nil ?_
  refine Cd.seq ?_
  refine Cd.seq ?_
  refine Cd.region ?_
  refine Ls.ev (some 25) (Ev.move (show Oper.op _ = Op.move (Operand.tmp 0) from rfl) (by rfl)) (by rfl) (by rfl) ?_
  refine Ls.does (some 26) (Does.readN (show Oper.op _ = Op.call { callee := Callee.value (Operand.func 26), args := #[Operand.tmp 25], argTypes := #[23] } from rfl) Tryz.func26 (by kernel_rfl) (by kernel_rfl) (hsg) (by rfl) (by rfl) ⟨rblkIn 1 (by rfl), rmapIn_ 2 (by rfl), laidIn 4 (by rfl), trivial⟩ (fun _ => by rfl)) (by rfl) (by rfl) ?_
  rintro ⟨sA, sc⟩ -
  refine Ent.see 0 (by rfl) ?_
  refine Ent.nil 30 1 ?_
  refine Ent.map (fun w hs => hs.starx_nil) ?_
  refine Ent.pick [1, 0, 3, 2, 4, 5, 6, 7] (by rfl) ?_
  skip
  refine Ls.ev (some 27) (Ev.len (show Oper.op _ = Op.call { callee := Callee.builtin Builtin.len, args := #[Operand.tmp 26], argTypes := #[35] } from rfl) (by rfl) Tryz.underlying35) (by rfl) (by rfl) ?_
  refine Ls.ev (some 28) (Ev.move (show Oper.op _ = Op.move (Operand.const (Value.int IntKind.i64 0)) from rfl) (by rfl)) (by rfl) (by rfl) ?_
  refine Ls.nil ?_
  refine Cd.block ?_
  refine Cd.loop (ι := Nat × Nat × (Option Addr × Nat) × List ByS) (fun p => [(0, D.ptr), (1, .int .i64 fr), (7, ptrV g1), (8, .slice p.2.2.1.1 p.2.2.2.length p.2.2.1.2), (26, .slice sA ns.length sc), (27, .int .i64 ns.length), (28, .int .i64 p.1)]) (fun p => [payW p.2.2.1.1 p.2.2.1.2 p.2.2.2, payX p.2.2.2, lgB g1 D.d ⟨p.2.1, false⟩, rd sA ns.length 1 (nats ns), D.rB, D.rM, D.rF, laidC]) (fun p => p.1 ≤ ns.length ∧ p.2.1 = (ns.take p.1).foldl segA fr ∧ p.2.2.2.map ByS.l = payN P fr (ns.take p.1) ∧ p.2.2.2.length ≤ 60000 * p.1) (fun p => ns.length - p.1) ((0, fr, (none, 0), [])) (⟨Nat.zero_le _, rfl, rfl, Nat.le_refl _⟩) ?_ rfl ?_
  · (repeat (first | exact trivial | refine ⟨by rfl, ?_⟩))
  rintro ⟨k, sg, ⟨A, c⟩, S⟩ ⟨hk, hsg, hS, hSl⟩
  dsimp only at hk hsg hS hSl ⊢
  have hsb : sg ≤ 1000000 := by
    rw [hsg]
    exact (foldl_seg_le (by omega) (fun n hn => (hmem n (List.mem_of_mem_take hn)).2.1)).1
  refine Cd.seq ?_
  refine Cd.region ?_
  refine Ls.ev (some 29) (Ev.lss (show Oper.op _ = Op.binOp BinOp.lss 3 (Operand.tmp 28) (Operand.tmp 27) 3 from rfl) (by rfl) (by rfl)) (by rfl) (by rfl) ?_
  refine Ls.nil ?_
  refine Cd.seq ?_
  refine Cd.cond _ (by rfl) (fun h2 => ?_) (fun h2 => ?_)
  · skip
    have hlt : k < ns.length := by have := of_decide_eq_true h2; omega
    obtain ⟨n, hn⟩ := get_of_lt hlt
    obtain ⟨hn1, hn2, f, hfd⟩ := hmem n (List.mem_of_getElem? hn)
    have hst : (ns.take (k + 1)).foldl segA fr = segA sg n := by
      rw [List.take_add_one, hn, hsg]
      show (_ ++ [n]).foldl segA fr = _
      rw [List.foldl_append]
      rfl
    have hpt : payN P fr (ns.take (k + 1)) = S.map ByS.l ++ if fr ≤ n then P.segB n else [] := by
      rw [List.take_add_one, hn, hS]
      exact payN_snoc P fr _ n
    have hmx : (if (sg : Int) < ((n + 1 : Nat) : Int) then ((n + 1 : Nat) : Int) else (sg : Int)) = ((segA sg n : Nat) : Int) := by
      unfold segA
      split <;> omega
    refine Ent.rdSome 3 (by rfl) (by omega) (fun ad had => ?_)
    subst had
    refine Cd.skip ?_
    refine Cd.seq ?_
    refine Cd.block ?_
    refine Cd.seq ?_
    refine Cd.region ?_
    refine Ls.ev (some 30) (Ev.indexAt (sz := 1) (show Oper.op _ = Op.indexAddr 35 (Operand.tmp 26) (Operand.tmp 28) from rfl) (by rfl) (by rfl) Tryz.underlying35 (by kernel_rfl) (by omega)) (by rfl) (by rfl) ?_
    refine Ls.ev (some 31) (Ev.loadNat (show Oper.op _ = Op.load 3 (Operand.tmp 30) from rfl) (by rfl) (ReadsIn.rd 3 (by rfl)) (by kernel_rfl) hn) (by rfl) (by rfl) ?_
    refine Ls.ev (some 10) (Ev.assign (show Oper.op _ = Op.assign (Operand.tmp 31) from rfl) (by rfl)) (by rfl) (by rfl) ?_
    refine Ls.nil ?_
    refine Cd.seq ?_
    refine Cd.region ?_
    refine Ls.ev (some 32) (Ev.move (show Oper.op _ = Op.move (Operand.tmp 7) from rfl) (by rfl)) (by rfl) (by rfl) ?_
    refine Ls.ev (some 33) (Ev.move (show Oper.op _ = Op.move (Operand.tmp 7) from rfl) (by rfl)) (by rfl) (by rfl) ?_
    refine Ls.ev (some 34) (Ev.nilCheck (show Oper.op _ = Op.nilCheck (Operand.tmp 33) from rfl) (by rfl)) (by rfl) (by rfl) ?_
    refine Ls.ev (some 35) (Ev.fieldAddr (k := 1) (show Oper.op _ = Op.fieldAddr 70 (Operand.tmp 34) 1 from rfl) (by rfl) (by kernel_rfl) (by rfl)) (by rfl) (by rfl) ?_
    refine Ls.ev (some 36) (Ev.load 2 (show Oper.op _ = Op.load 3 (Operand.tmp 35) from rfl) (by rfl) (by rfl) (by kernel_rfl) (by rfl)) (by rfl) (by rfl) ?_
    refine Ls.ev (some 37) (Ev.move (show Oper.op _ = Op.move (Operand.tmp 10) from rfl) (by rfl)) (by rfl) (by rfl) ?_
    refine Ls.ev (some 38) (Ev.addN (b := 1) (show Oper.op _ = Op.binOp BinOp.add 3 (Operand.tmp 37) (Operand.const (Value.int IntKind.i64 1)) 3 from rfl) (by rfl) (by rfl) (by omega)) (by rfl) (by rfl) ?_
    refine Ls.ev (some 39) (Ev.max (show Oper.op _ = Op.call { callee := Callee.builtin Builtin.max, args := #[Operand.tmp 36, Operand.tmp 38], argTypes := #[3, 3] } from rfl) (by rfl) (by rfl)) (by rfl) (by rfl) ?_
    rw [hmx]
    refine Ls.ev (some 40) (Ev.nilCheck (show Oper.op _ = Op.nilCheck (Operand.tmp 32) from rfl) (by rfl)) (by rfl) (by rfl) ?_
    refine Ls.ev (some 41) (Ev.fieldAddr (k := 1) (show Oper.op _ = Op.fieldAddr 70 (Operand.tmp 40) 1 from rfl) (by rfl) (by kernel_rfl) (by rfl)) (by rfl) (by rfl) ?_
    refine Ls.does none (Does.store 2 (show Oper.op _ = Op.store 3 (Operand.tmp 41) (Operand.tmp 39) from rfl) (by rfl) (by rfl) (by rfl) (by kernel_rfl) (by rfl) (by kernel_rfl) (by rfl)) (by rfl) (by rfl) ?_
    intro _ _
    refine Ls.nil ?_
    refine Cd.seq ?_
    refine Cd.region ?_
    refine Ls.ev (some 42) (Ev.move (show Oper.op _ = Op.move (Operand.tmp 10) from rfl) (by rfl)) (by rfl) (by rfl) ?_
    refine Ls.ev (some 43) (Ev.move (show Oper.op _ = Op.move (Operand.tmp 1) from rfl) (by rfl)) (by rfl) (by rfl) ?_
    refine Ls.ev (some 44) (Ev.geq (show Oper.op _ = Op.binOp BinOp.geq 3 (Operand.tmp 42) (Operand.tmp 43) 3 from rfl) (by rfl) (by rfl)) (by rfl) (by rfl) ?_
    refine Ls.nil ?_
    by_cases hfn : fr ≤ n
    · skip
      rw [if_pos hfn] at hpt
      have hb : P.bytes (nameP n) = f.b := by unfold DrP.bytes; rw [hfd]
      have hfb := h.ok.size f (findG_some hfd).1
      refine Cd.cond_true (by rfl) (decide_eq_true (by omega)) ?_
      refine Cd.seq ?_
      refine Cd.region ?_
      refine Ls.ev (some 46) (Ev.move (show Oper.op _ = Op.move (Operand.tmp 0) from rfl) (by rfl)) (by rfl) (by rfl) ?_
      refine Ls.ev (some 47) (Ev.move (show Oper.op _ = Op.move (Operand.tmp 10) from rfl) (by rfl)) (by rfl) (by rfl) ?_
      refine Ls.does (some 48) (Does.read (show Oper.op _ = Op.call { callee := Callee.value (Operand.func 28), args := #[Operand.tmp 47], argTypes := #[3] } from rfl) Tryz.func28 (by kernel_rfl) (by kernel_rfl) (name_sl n hn2) (by rfl) (by rfl) ⟨laidIn 7 (by rfl), trivial⟩) (by rfl) (by rfl) ?_
      rintro _ -
      skip
      refine Ls.does (some 49) (Does.readN (show Oper.op _ = Op.call { callee := Callee.value (Operand.func 27), args := #[Operand.tmp 46, Operand.tmp 48], argTypes := #[23, 9] } from rfl) Tryz.func27 (by kernel_rfl) (by kernel_rfl) (read_sl h (nameP n) (nameP_good n) hfd) (by rfl) (by rfl) ⟨rblkIn 4 (by rfl), rmapIn_ 5 (by rfl), filRin 6 (by rfl), trivial⟩ (fun _ => by rfl)) (by rfl) (by rfl) ?_
      rintro ⟨bA, bc⟩ -
      refine Ent.fact 0 (by rfl) (p := f.b.length ≤ bc ∧ bc ≤ maxLen) (fun w hw => ⟨Own.le hw, Own.capLe hw⟩) (fun hbc => ?_)
      refine Ent.see 0 (by rfl) ?_
      refine Ls.ev (some 45) (Ev.move (show Oper.op _ = Op.move (Operand.tmp 49) from rfl) (by rfl)) (by rfl) (by rfl) ?_
      refine Ls.ev (some 50) (Ev.extract (show Oper.op _ = Op.extract (Operand.tmp 45) 0 from rfl) (by rfl) (by rfl)) (by rfl) (by rfl) ?_
      refine Ls.ev (some 51) (Ev.extract (show Oper.op _ = Op.extract (Operand.tmp 45) 1 from rfl) (by rfl) (by rfl)) (by rfl) (by rfl) ?_
      refine Ls.ev (some 11) (Ev.assign (show Oper.op _ = Op.assign (Operand.tmp 50) from rfl) (by rfl)) (by rfl) (by rfl) ?_
      refine Ls.ev (some 12) (Ev.assign (show Oper.op _ = Op.assign (Operand.tmp 51) from rfl) (by rfl)) (by rfl) (by rfl) ?_
      refine Ls.nil ?_
      refine Cd.seq ?_
      refine Cd.region ?_
      refine Ls.ev (some 53) (Ev.move (show Oper.op _ = Op.move (Operand.tmp 11) from rfl) (by rfl)) (by rfl) (by rfl) ?_
      refine Ls.does (some 54) (Does.readN (show Oper.op _ = Op.call { callee := Callee.value (Operand.func 29), args := #[Operand.tmp 53], argTypes := #[30] } from rfl) Tryz.func29 (by kernel_rfl) (by kernel_rfl) (scan_sl bA bc f.b (by omega) hbc) (by rfl) (by rfl) ⟨ReadsIn.rd 0 (by rfl), trivial⟩ (fun _ => by rfl)) (by rfl) (by rfl) ?_
      rintro ⟨⟨qA, qc⟩, S2⟩ hS2
      dsimp only at hS2 ⊢
      have hS2l : S2.length ≤ 60000 := by
        have h1 := (scanF_size f.b)
        have h2 : S2.length = (scanF f.b).1.length := by rw [← hS2, List.length_map]
        omega
      refine Ent.see 0 (by rfl) ?_
      refine Ls.ev (some 52) (Ev.move (show Oper.op _ = Op.move (Operand.tmp 54) from rfl) (by rfl)) (by rfl) (by rfl) ?_
      refine Ls.ev (some 55) (Ev.extract (show Oper.op _ = Op.extract (Operand.tmp 52) 0 from rfl) (by rfl) (by rfl)) (by rfl) (by rfl) ?_
      refine Ls.ev (some 56) (Ev.extract (show Oper.op _ = Op.extract (Operand.tmp 52) 1 from rfl) (by rfl) (by rfl)) (by rfl) (by rfl) ?_
      refine Ls.ev (some 13) (Ev.assign (show Oper.op _ = Op.assign (Operand.tmp 55) from rfl) (by rfl)) (by rfl) (by rfl) ?_
      refine Ls.ev (some 14) (Ev.assign (show Oper.op _ = Op.assign (Operand.tmp 56) from rfl) (by rfl)) (by rfl) (by rfl) ?_
      refine Ls.nil ?_
      refine Cd.region ?_
      refine Ls.ev (some 57) (Ev.move (show Oper.op _ = Op.move (Operand.tmp 8) from rfl) (by rfl)) (by rfl) (by rfl) ?_
      refine Ls.ev (some 58) (Ev.move (show Oper.op _ = Op.move (Operand.tmp 13) from rfl) (by rfl)) (by rfl) (by rfl) ?_
      refine Ls.does (some 59) (Does.app (xs := S.map ByS.v) (news := S2.map ByS.v) 3 (show Oper.op _ = Op.call { callee := Callee.builtin Builtin.append, args := #[Operand.tmp 57, Operand.tmp 58], argTypes := #[22, 22] } from rfl) (by rfl) (by rfl) (by rfl) (ReadsIn.rd 0 (by rfl)) elem_pay (one_pay _) (by omega)) (by rfl) (by rfl) ?_
      rintro r -
      refine Ls.ev (some 8) (Ev.assign (show Oper.op _ = Op.assign (Operand.tmp 59) from rfl) (by rfl)) (by rfl) (by rfl) ?_
      refine Ls.nil ?_
      refine Cd.region ?_
      refine Ls.ev (some 60) (Ev.addN (b := 1) (show Oper.op _ = Op.binOp BinOp.add 3 (Operand.tmp 28) (Operand.const (Value.int IntKind.i64 1)) 3 from rfl) (by rfl) (by rfl) (by omega)) (by rfl) (by rfl) ?_
      refine Ls.ev (some 28) (Ev.move (show Oper.op _ = Op.move (Operand.tmp 60) from rfl) (by rfl)) (by rfl) (by rfl) ?_
      refine Ls.nil ?_
      refine Ent.pick [4, 1, 3, 5, 6, 7, 8, 9, 10] (by rfl) ?_
      refine Ent.map (fun w hs => pay_join hs) ?_
      refine Ent.pick [1, 0, 2, 3, 4, 5, 6, 7] (by rfl) ?_
      refine Ent.inv ((k + 1, segA sg n, (r.1, r.2), S ++ S2)) ?_ ?_ ?_
      · (try dsimp only); exact ⟨⟨hlt, hst.symm, by rw [List.map_append, hS2, hpt, DrP.segB, hb], by rw [List.length_append]; omega⟩, by omega⟩
      · (repeat (first | exact trivial | refine ⟨by rfl, ?_⟩ | refine ⟨by simp only [List.length_append, List.length_cons, List.length_nil]; rfl, ?_⟩ | refine ⟨by push_cast; rfl, ?_⟩ | refine ⟨by (show some (Value.slice _ _ _) = some (Value.slice _ _ _); rw [List.length_append]; rfl), ?_⟩))
      · (show [_, _, _, _, _, _, _, _] = [_, _, _, _, _, _, _, _]; dsimp only [payW]; rw [List.length_append, List.map_append]; rfl)
    · skip
      rw [if_neg hfn, List.append_nil] at hpt
      refine Cd.cond_false (by rfl) (decide_eq_false (by omega)) ?_
      refine Cd.skip ?_
      refine Cd.region ?_
      refine Ls.ev (some 60) (Ev.addN (b := 1) (show Oper.op _ = Op.binOp BinOp.add 3 (Operand.tmp 28) (Operand.const (Value.int IntKind.i64 1)) 3 from rfl) (by rfl) (by rfl) (by omega)) (by rfl) (by rfl) ?_
      refine Ls.ev (some 28) (Ev.move (show Oper.op _ = Op.move (Operand.tmp 60) from rfl) (by rfl)) (by rfl) (by rfl) ?_
      refine Ls.nil ?_
      refine Ent.inv ((k + 1, segA sg n, (A, c), S)) ?_ ?_ ?_
      · (try dsimp only); exact ⟨⟨hlt, hst.symm, hpt.symm, by omega⟩, by omega⟩
      · (repeat (first | exact trivial | refine ⟨by rfl, ?_⟩ | refine ⟨by simp only [List.length_append, List.length_cons, List.length_nil]; rfl, ?_⟩ | refine ⟨by push_cast; rfl, ?_⟩))
      · rfl
  · skip
    have hge : ns.length ≤ k := by have := of_decide_eq_false h2; omega
    rw [List.take_of_length_le hge] at hsg hS
    subst hsg
    refine Cd.exit ?_
    refine Cd.seq ?_
    refine Cd.region ?_
    refine Ls.ev (some 61) (Ev.move (show Oper.op _ = Op.move (Operand.tmp 7) from rfl) (by rfl)) (by rfl) (by rfl) ?_
    refine Ls.ev (some 62) (Ev.move (show Oper.op _ = Op.move (Operand.tmp 8) from rfl) (by rfl)) (by rfl) (by rfl) ?_
    refine Ls.ev (some 4) (Ev.assign (show Oper.op _ = Op.assign (Operand.tmp 61) from rfl) (by rfl)) (by rfl) (by rfl) ?_
    refine Ls.ev (some 5) (Ev.assign (show Oper.op _ = Op.assign (Operand.tmp 62) from rfl) (by rfl)) (by rfl) (by rfl) ?_
    refine Ls.ev (some 6) (Ev.assign (show Oper.op _ = Op.assign (Operand.const (Value.int IntKind.i64 0)) from rfl) (by rfl)) (by rfl) (by rfl) ?_
    refine Ls.nil ?_
    refine Cd.ret ?_
    refine Ent.ret ((g1, (A, c), S)) (hS) (Res.tmp3 (by rfl) (by rfl) (by rfl) (by rfl)) ?_ [2, 0, 1] (by rfl) ?_
    · rfl
    · rfl
end Go.Proofs.YtceanciekadkeaaGreatDoor
/- One's own lent to be read, and had back. -/
namespace Go.Proofs.YtceanciekadkeaaGreatDoor
section
variable {P : Program} {f : FuncId} {args : Array Value} {ι : Type} {res : ι → Value} {φ : ι → Prop}
/-- A function that reads r, and answers only with what is its own, leaves alone what r is a part of. -/
theorem Fn.lend {Hp : List Chunk} {R r : Chunk} {H' : ι → List Chunk} (h : Fn P f args (Hp ++ [r]) ι res H' φ) (hex : ∀ i, φ i → ∀ C ∈ H' i, C.excl = true) (hr : r.excl = false) (hR : R.excl = true) (hh : ∀ w, R.holds w → r.holds w) (hf : ∀ k, r.foot k → R.foot k) :
    Fn P f args (Hp ++ [R]) ι res (fun i => H' i ++ [R]) φ := fun w hs => by
  obtain ⟨s1, s2, s3⟩ := sat0_append.1 hs
  have hRw : R.holds w := s2.1 R (List.mem_singleton.2 rfl)
  have hap : ∀ C ∈ Hp, ∀ k, C.foot k → ¬ R.foot k := fun C hC => s3 C hC R (List.mem_singleton.2 rfl) (.inr hR)
  have hs0 : Sat0 (Hp ++ [r]) w := sat0_append.2 ⟨s1, ⟨fun C hC => by rw [List.mem_singleton.1 hC]; exact hh w hRw, List.pairwise_singleton _ _⟩, fun C hC D hD _ k hk hk' => by
    rw [List.mem_singleton.1 hD] at hk'
    exact hap C hC k hk (hf k hk')⟩
  refine (h w hs0).mono ?_
  rintro e w' ⟨i, hi, he, hs'⟩
  have hS : ∀ k, Ctx.S ⟨w, Hp ++ [r]⟩ k → ∃ D ∈ Hp, D.excl = true ∧ D.foot k := fun k ⟨D, hD, hx, hk⟩ => by
    rcases List.mem_append.1 hD with hD | hD
    · exact ⟨D, hD, hx, hk⟩
    · rw [List.mem_singleton.1 hD, hr] at hx
      cases hx
  have hS2 : ∀ k, Ctx.S ⟨w, Hp ++ [r]⟩ k → Ctx.S ⟨w, Hp ++ [R]⟩ k := fun k hk => by
    obtain ⟨D, hD, hx, hk⟩ := hS k hk
    exact ⟨D, List.mem_append_left _ hD, hx, hk⟩
  have hO : ∀ k, Ctx.old ⟨w, Hp ++ [r]⟩ k → Ctx.old ⟨w, Hp ++ [R]⟩ k := fun k ⟨D, hD, hk⟩ => by
    rcases List.mem_append.1 hD with hD | hD
    · exact ⟨D, List.mem_append_left _ hD, hk⟩
    · rw [List.mem_singleton.1 hD] at hk
      exact ⟨R, List.mem_append_right _ (List.mem_singleton.2 rfl), hf k hk⟩
  have hblk : ∀ k, R.foot k → w'.heap[k]? = w.heap[k]? := fun k hk => hs'.upd.block k (R.lt w k hRw hk) fun hc => by
    obtain ⟨D, hD, _, hk'⟩ := hS k hc
    exact hap D hD k hk' hk
  refine ⟨i, hi, he, ⟨hs'.upd.os, hs'.upd.tape, hs'.upd.output, hs'.upd.size, fun k hk hn => hs'.upd.block k hk fun hc => hn (hS2 k hc)⟩, sat0_append.2 ⟨hs'.sat, ⟨fun C hC => by rw [List.mem_singleton.1 hC]; exact R.loc w w' hs'.upd.size hblk hRw, List.pairwise_singleton _ _⟩, fun C hC D hD _ k hk hk' => ?_⟩, fun C hC => ?_⟩
  · rw [List.mem_singleton.1 hD] at hk'
    obtain ⟨D', hD', _, hk2⟩ := hS k ((hs'.fits C hC k hk (R.lt w k hRw hk')).2 (hex i hi C hC))
    exact hap D' hD' k hk2 hk'
  · rcases List.mem_append.1 hC with hC | hC
    · intro k hk hlt
      obtain ⟨o1, o2⟩ := hs'.fits C hC k hk hlt
      exact ⟨hO k o1, fun hx => hS2 k (o2 hx)⟩
    · rw [List.mem_singleton.1 hC]
      intro k hk _
      exact ⟨⟨R, List.mem_append_right _ (List.mem_singleton.2 rfl), hk⟩, fun _ => ⟨R, List.mem_append_right _ (List.mem_singleton.2 rfl), hR, hk⟩⟩
end
end Go.Proofs.YtceanciekadkeaaGreatDoor
/- walks: the law's awake, cut; lists of payloads held against each other -/
namespace Go.Proofs.YtceanciekadkeaaGreatDoor
open Go.RowKit
abbrev rdV (A : Option Addr) (S : List ByS) : Chunk := rd A S.length 1 (S.map ByS.v)
abbrev payR (S : List ByS) : Chunk := stars (S.map ByS.r)
theorem payIn {Γ : Ctx} {H : List Chunk} {S : List ByS} (i : Nat) (hi : H[i]? = some (payX S)) : ∀ w, Sat Γ H w → (payR S).holds w := fun w hs C hC => by
  have hw := hs.mem hi
  obtain ⟨s, hsm, rfl⟩ := List.mem_map.1 hC
  exact ⟨rfl, row_rd.1 w (hw.1 s.R (List.mem_map_of_mem hsm))⟩
theorem rpayIn {Γ : Ctx} {H : List Chunk} {S : List ByS} (i : Nat) (hi : H[i]? = some (payR S)) : ∀ w, Sat Γ H w → (payR S).holds w := fun _ hs => hs.mem hi
theorem rows_r {w : World} {S : List ByS} (h : (payR S).holds w) : RowsR w (S.map ByS.v) (S.map ByS.l) := ⟨by simp, fun i v l hv hl => by
  rw [List.getElem?_map] at hv hl
  cases hi : S[i]? with
  | none => rw [hi] at hv; cases hv
  | some s =>
    rw [hi] at hv hl
    obtain rfl := Option.some.inj hv
    obtain rfl := Option.some.inj hl
    exact ⟨s.A, s.c, rfl, (h s.r (List.mem_map_of_mem (List.mem_of_getElem? hi))).2⟩⟩
theorem same_sl (A B : Option Addr) (c d : Nat) (S U : List ByS) (hS : S.length ≤ 17592186044415) (hU : U.length ≤ 17592186044415) : Fn Tryz.prog 12 #[.slice A S.length c, .slice B U.length d] [rdV A S, payR S, rdV B U, payR U] Unit (fun _ => .bool (decide (S.map ByS.l = U.map ByS.l))) (fun _ => []) (fun _ => True) :=
  Fn.of_below fun w hs => same_any A B S.length c U.length d (S.map ByS.v) (U.map ByS.v) (S.map ByS.l) (U.map ByS.l) w (sat_rd 0 rfl hs) (rows_r (hs.1 _ (by simp))) (sat_rd 2 rfl hs) (rows_r (hs.1 _ (by simp))) hS hU
/-- What of a payload is taken. -/
def cutP (p : List UInt8) : List UInt8 := p.take 700
theorem cutP_len (p : List UInt8) : (cutP p).length ≤ 700 := by
  rw [cutP, List.length_take]
  omega
theorem rd_cut {w : World} {B : Nat} {A : Option Addr} {l : List UInt8} (h : Reads w B 1 A l.length (u8s l)) : Reads w B 1 A (min l.length 700) (u8s (l.take 700)) := by
  have := h.take (k := min l.length 700) (Nat.min_le_left _ _)
  rw [Nat.mul_one] at this
  rwa [show u8s (l.take 700) = (u8s l).take (min l.length 700) by
    unfold u8s
    rw [← List.map_take]
    congr 1
    rcases Nat.le_total l.length 700 with h | h
    · rw [Nat.min_eq_left h, List.take_of_length_le h, List.take_length]
    · rw [Nat.min_eq_right h]]
theorem cutb_sl (A : Option Addr) (c : Nat) (l : List UInt8) (hc : l.length ≤ c) : Fn Tryz.prog 10 #[.slice A l.length c] [rdB A l] (Option Addr × Nat) (fun p => .slice p.1 (cutP l).length p.2) (fun p => [rowB p.1 p.2 (cutP l)]) (fun _ => True) := by
  have hl : (cutP l).length = 0 + min l.length 700 := by
    rw [cutP, List.length_take]
    omega
  refine Fn.enter Tryz.func10 rfl Tryz.ntmps10 (by rfl) ?_
  intro w0
  refine Cd.seq ?_
  refine Cd.region ?_
  refine Ls.ev (some 2) (Ev.assign (show Oper.op _ = Op.assign (Operand.const (Value.slice none 0 0)) from rfl) (by rfl)) (by rfl) (by rfl) ?_
  refine Ls.nil ?_
  refine Cd.seq ?_
  refine Cd.region ?_
  refine Ls.does (some 3) (Does.lit0 (sz := 1) (show Oper.op _ = Op.buildSlice 30 0 #[] from rfl) Tryz.underlying30 (by kernel_rfl)) (by rfl) (by rfl) ?_
  intro g1 _
  refine Ls.ev (some 4) (Ev.move (show Oper.op _ = Op.move (Operand.tmp 0) from rfl) (by rfl)) (by rfl) (by rfl) ?_
  refine Ls.ev (some 5) (Ev.move (show Oper.op _ = Op.move (Operand.tmp 0) from rfl) (by rfl)) (by rfl) (by rfl) ?_
  refine Ls.ev (some 6) (Ev.len (show Oper.op _ = Op.call { callee := Callee.builtin Builtin.len, args := #[Operand.tmp 5], argTypes := #[30] } from rfl) (by rfl) Tryz.underlying30) (by rfl) (by rfl) ?_
  refine Ls.ev (some 7) (Ev.minN (show Oper.op _ = Op.call { callee := Callee.builtin Builtin.min, args := #[Operand.tmp 6, Operand.const (Value.int IntKind.i64 700)], argTypes := #[3, 3] } from rfl) (by rfl) (by rfl) rfl) (by rfl) (by rfl) ?_
  refine Ls.ev (some 8) (Ev.sliceHn (sz := 1) (show Oper.op _ = Op.slice 30 (Operand.tmp 4) none (some (Operand.tmp 7)) none from rfl) (by rfl) (by rfl) Tryz.underlying30 (by kernel_rfl) (by omega)) (by rfl) (by rfl) ?_
  refine Ls.does (some 9) (Does.app (news := u8s (cutP l)) 0 (show Oper.op _ = Op.call { callee := Callee.builtin Builtin.append, args := #[Operand.tmp 3, Operand.tmp 8], argTypes := #[30, 30] } from rfl) (by rfl) (by rfl) (by rfl) (fun w hs => rd_cut (ReadsIn.rd 1 (by rfl) w hs)) elem_b (u8s_one _) (by omega)) (by rfl) (by rfl) ?_
  rintro q -
  refine Ls.ev (some 2) (Ev.assign (show Oper.op _ = Op.assign (Operand.tmp 9) from rfl) (by rfl)) (by rfl) (by rfl) ?_
  refine Ls.nil ?_
  refine Cd.ret ?_
  refine Ent.ret (q) (trivial) (Res.tmp (by rfl) (by rfl)) ?_ [0] (by rfl) ?_
  · rw [hl]
  · dsimp only [rowB]
    rw [hl]
    rfl
/-- A log that was fed these payloads, one behind the other. -/
def Fed (P : DrP) (L : LgP) (qs : List (List UInt8)) : Prop := ∃ C G k, Liv P L [] 1 C G k ∧ allP C G = qs ∧ C.length ≤ qs.length ∧ L.dead = false ∧ P.left = none
theorem Fed.start : Fed DrP.new ⟨1, false⟩ [] :=
  ⟨[], [], 0, Liv.open_ (P := DrP.new) (N := 0) DrP.new_ok (fun _ h => absurd h List.not_mem_nil) (by omega) (fun _ h => absurd h List.not_mem_nil), rfl, Nat.le_refl _, rfl, rfl⟩
theorem Fed.seg {P : DrP} {L : LgP} {qs : List (List UInt8)} (h : Fed P L qs) : 1 ≤ L.seg ∧ L.seg ≤ qs.length + 1 := by
  obtain ⟨C, G, k, h1, _, h3, _, _⟩ := h
  have := h1.seg
  omega
theorem Fed.app {P : DrP} {L : LgP} {qs : List (List UInt8)} {p : List UInt8} (h : Fed P L qs) (hq : qs.length ≤ 200) (hp : p.length ≤ 4000) : (appL P L p).2.2 = 0 ∧ Fed (appL P L p).1 (appL P L p).2.1 (qs ++ [p]) := by
  have hsg := h.seg
  obtain ⟨C, G, k, h1, h2, h3, h4, h5⟩ := h
  have hsl : (sealL p).length ≤ 4110 := sealL_len p (by omega)
  obtain ⟨C', G', k', k1, k2, _, k4 | k4⟩ := h1.app (p := p) (by omega) h4 (by omega) (by rw [List.length_nil]; omega) hsl
  · obtain ⟨a, b, c, d, _⟩ := k4
    exact ⟨a, C', G', k', k1, by rw [b, h2], by rw [List.length_append, List.length_singleton]; omega, c, d h5⟩
  · exact absurd h5 k4.2.2.2
theorem Fed.pay {P : DrP} {L : LgP} {qs : List (List UInt8)} (h : Fed P L qs) (hq : qs.length ≤ 900000) : P.pay 1 = qs := by
  have hsg := h.seg
  obtain ⟨C, G, k, h1, h2, _⟩ := h
  rw [h1.pay (by omega), h2]
  rfl
theorem aw1 : appL DrP.new ⟨DrP.new.seg 1, false⟩ [1, 2, 3] = ((appL DrP.new ⟨DrP.new.seg 1, false⟩ [1, 2, 3]).1, ⟨DrP.new.seg 1, false⟩, 0) := by kernel_rfl
theorem aw2 : (appL DrP.new ⟨DrP.new.seg 1, false⟩ [1, 2, 3]).1.pay 1 = [[1, 2, 3]] := by kernel_rfl
theorem aw3 : (appL DrP.new ⟨DrP.new.seg 1, false⟩ [1, 2, 3]).1.loose [119, 97, 108, 45, 48, 48, 48, 48, 48, 49] = 8 := by kernel_rfl
theorem segment_sl (g d : Nat) (L : LgP) : Fn Tryz.prog 19 #[ptrV g] [rlgB g d L] Unit (fun _ => .int .i64 L.seg) (fun _ => []) (fun _ => True) := by
  refine Fn.enter Tryz.func19 rfl Tryz.ntmps19 (by rfl) ?_
  intro w0
  skip
  refine Cd.seq ?_
  refine Cd.region ?_
  refine Ls.ev (some 2) (Ev.assign (show Oper.op _ = Op.assign (Operand.const (Value.int IntKind.i64 0)) from rfl) (by rfl)) (by rfl) (by rfl) ?_
  refine Ls.nil ?_
  refine Cd.seq ?_
  refine Cd.region ?_
  refine Ls.ev (some 3) (Ev.move (show Oper.op _ = Op.move (Operand.tmp 0) from rfl) (by rfl)) (by rfl) (by rfl) ?_
  refine Ls.ev (some 4) (Ev.nilCheck (show Oper.op _ = Op.nilCheck (Operand.tmp 3) from rfl) (by rfl)) (by rfl) (by rfl) ?_
  refine Ls.ev (some 5) (Ev.fieldAddr (k := 1) (show Oper.op _ = Op.fieldAddr 70 (Operand.tmp 4) 1 from rfl) (by rfl) (by kernel_rfl) (by rfl)) (by rfl) (by rfl) ?_
  refine Ls.ev (some 6) (Ev.loadB 0 (show Oper.op _ = Op.load 3 (Operand.tmp 5) from rfl) (by rfl) (by rfl) (by kernel_rfl) (by rfl)) (by rfl) (by rfl) ?_
  refine Ls.ev (some 2) (Ev.assign (show Oper.op _ = Op.assign (Operand.tmp 6) from rfl) (by rfl)) (by rfl) (by rfl) ?_
  refine Ls.nil ?_
  refine Cd.ret ?_
  refine Ent.ret (()) (trivial) (Res.tmp (by rfl) (by rfl)) ?_ [] (by rfl) ?_
  · rfl
  · rfl
theorem pay_one {S : List ByS} {l : List UInt8} (h : S.map ByS.l = [l]) : ∃ A c, S = [⟨A, c, l⟩] := by
  cases S with
  | nil => cases h
  | cons s S =>
    cases S with
    | nil =>
      obtain ⟨A, c, l'⟩ := s
      obtain rfl : l' = l := by simpa using h
      exact ⟨A, c, rfl⟩
    | cons _ _ => simp at h
theorem Ev.loadV {Γ : Ctx} {N : Frm} {P : Program} {E : Env} {H : List Chunk} {o : Oper} {x : Operand} {t n k : Nat} {ad : Addr} {S : List ByS} {s : ByS} (ho : o.op = .load t x) (hx : E.ev x = some (.pointer (some (ad.add (k * 1))))) (hi : ReadsIn Γ H 1 (some ad) n (S.map ByS.v)) (ht : one P t = true) (hu : S[k]? = some s) : Ev Γ N P E H o s.v :=
  .loadOf ho hx fun w hs => by
    have hh : Reads w w.heap.size 1 (some ad) n (S.map ByS.v) := hi w hs
    have hk : k < S.length := (List.getElem?_eq_some_iff.1 hu).1
    have := hh.1
    exact run_loadVar_one ht (rd_cell hh (by simp at this; omega) (show (S.map ByS.v)[k * 1]? = some s.v by rw [Nat.mul_one, List.getElem?_map, hu]; rfl))
theorem payGet {Γ : Ctx} {H : List Chunk} {w : World} {S : List ByS} {s : ByS} (i : Nat) (hi : H[i]? = some (payR S)) (hs : s ∈ S) (h : Sat Γ H w) : Sat Γ (s.r :: H) w := Sat.stars_get hi (List.mem_map_of_mem hs) h
theorem paySee {Γ : Ctx} {H : List Chunk} {w : World} {S : List ByS} (i : Nat) (hi : H[i]? = some (payX S)) (h : Sat Γ H w) : Sat Γ (H.set i (payR S)) w := h.see hi rfl (fun w hw C hC => by
    obtain ⟨s, hsm, rfl⟩ := List.mem_map.1 hC
    exact ⟨rfl, row_rd.1 w (hw.1 s.R (List.mem_map_of_mem hsm))⟩) (fun k ⟨C, hC, hk⟩ => by
    obtain ⟨s, hsm, rfl⟩ := List.mem_map.1 hC
    exact ⟨s.R, List.mem_map_of_mem hsm, hk.2⟩)
theorem awake_sl : Fn Tryz.prog 8 #[] [laidC] Unit (fun _ => .bool true) (fun _ => []) (fun _ => True) := by
  have hP := DrP.new_ok.append
  refine Fn.enter Tryz.func8 rfl Tryz.ntmps8 (by rfl) ?_
  intro w0
  refine Cd.seq ?_
  refine Cd.region ?_
  refine Ls.ev (some 0) (Ev.assign (show Oper.op _ = Op.assign (Operand.const (Value.bool false)) from rfl) (by rfl)) (by rfl) (by rfl) ?_
  refine Ls.nil ?_
  refine Cd.seq ?_
  refine Cd.region ?_
  refine Ls.does (some 5) (Does.call [0] (show Oper.op _ = Op.call { callee := Callee.value (Operand.func 7), args := #[], argTypes := #[] } from rfl) Tryz.func7 (by kernel_rfl) (by kernel_rfl) (new_sl) (by rfl) (by rfl) (by rfl)) (by rfl) (by rfl) ?_
  rintro D hD
  refine Ls.ev (some 1) (Ev.assign (show Oper.op _ = Op.assign (Operand.tmp 5) from rfl) (by rfl)) (by rfl) (by rfl) ?_
  refine Ls.nil ?_
  refine Cd.seq ?_
  refine Cd.seq ?_
  refine Cd.region ?_
  refine Ls.ev (some 6) (Ev.move (show Oper.op _ = Op.move (Operand.tmp 1) from rfl) (by rfl)) (by rfl) (by rfl) ?_
  refine Ls.ev (some 7) (Ev.ptrNil (show Oper.op _ = Op.binOp BinOp.eql 23 (Operand.tmp 6) (Operand.const (Value.pointer none)) 23 from rfl) (by rfl) (by rfl) Tryz.underlying23) (by rfl) (by rfl) ?_
  refine Ls.nil ?_
  refine Cd.cond_false (by rfl) (rfl) ?_
  refine Cd.skip ?_
  refine Cd.seq ?_
  refine Cd.region ?_
  refine Ls.ev (some 9) (Ev.move (show Oper.op _ = Op.move (Operand.tmp 1) from rfl) (by rfl)) (by rfl) (by rfl) ?_
  refine Ls.does (some 10) (Does.readN (show Oper.op _ = Op.call { callee := Callee.value (Operand.func 9), args := #[Operand.tmp 9, Operand.const (Value.int IntKind.i64 1)], argTypes := #[23, 3] } from rfl) Tryz.func9 (by kernel_rfl) (by kernel_rfl) (open_sl hD 1 (by omega) (by omega)) (by rfl) (by rfl) ⟨blkIn 0 (by rfl), mapIn 1 (by rfl), filIn 2 (by rfl), laidIn 3 (by rfl), trivial⟩ (fun _ => by rfl)) (by rfl) (by rfl) ?_
  rintro ⟨g, ⟨pA, pc⟩, S⟩ hS
  obtain rfl : S = [] := by
    have : S.map ByS.l = [] := hS
    simpa using this
  refine Ls.ev (some 8) (Ev.move (show Oper.op _ = Op.move (Operand.tmp 10) from rfl) (by rfl)) (by rfl) (by rfl) ?_
  refine Ls.ev (some 11) (Ev.extract (show Oper.op _ = Op.extract (Operand.tmp 8) 0 from rfl) (by rfl) (by rfl)) (by rfl) (by rfl) ?_
  refine Ls.ev (some 12) (Ev.extract (show Oper.op _ = Op.extract (Operand.tmp 8) 1 from rfl) (by rfl) (by rfl)) (by rfl) (by rfl) ?_
  refine Ls.ev (some 13) (Ev.extract (show Oper.op _ = Op.extract (Operand.tmp 8) 2 from rfl) (by rfl) (by rfl)) (by rfl) (by rfl) ?_
  refine Ls.ev (some 2) (Ev.assign (show Oper.op _ = Op.assign (Operand.tmp 11) from rfl) (by rfl)) (by rfl) (by rfl) ?_
  refine Ls.ev (some 3) (Ev.assign (show Oper.op _ = Op.assign (Operand.tmp 12) from rfl) (by rfl)) (by rfl) (by rfl) ?_
  refine Ls.ev (some 4) (Ev.assign (show Oper.op _ = Op.assign (Operand.tmp 13) from rfl) (by rfl)) (by rfl) (by rfl) ?_
  refine Ls.nil ?_
  refine Cd.seq ?_
  refine Cd.seq ?_
  refine Cd.region ?_
  refine Ls.ev (some 14) (Ev.move (show Oper.op _ = Op.move (Operand.tmp 2) from rfl) (by rfl)) (by rfl) (by rfl) ?_
  refine Ls.ev (some 15) (Ev.ptrNil (show Oper.op _ = Op.binOp BinOp.eql 26 (Operand.tmp 14) (Operand.const (Value.pointer none)) 26 from rfl) (by rfl) (by rfl) Tryz.underlying26) (by rfl) (by rfl) ?_
  refine Ls.ev (some 16) (Ev.move (show Oper.op _ = Op.move (Operand.tmp 15) from rfl) (by rfl)) (by rfl) (by rfl) ?_
  refine Ent.known 16 false (by rfl) (by exact (rfl)) ?_
  refine Ls.ev (some 17) (Ev.move (show Oper.op _ = Op.move (Operand.tmp 4) from rfl) (by rfl)) (by rfl) (by rfl) ?_
  refine Ls.ev (some 18) (Ev.neq (show Oper.op _ = Op.binOp BinOp.neq 27 (Operand.tmp 17) (Operand.const (Value.int IntKind.i64 0)) 27 from rfl) (by rfl) (by rfl)) (by rfl) (by rfl) ?_
  refine Ls.ev (some 19) (Ev.pickF (show Oper.op _ = Op.pick (Operand.tmp 16) (Operand.const (Value.bool true)) (Operand.tmp 18) from rfl) (by rfl) (by rfl)) (by rfl) (by rfl) ?_
  refine Ls.ev (some 20) (Ev.move (show Oper.op _ = Op.move (Operand.tmp 19) from rfl) (by rfl)) (by rfl) (by rfl) ?_
  skip
  refine Ent.known 20 false (by rfl) (by exact (decide_eq_false (show ¬ ((0 : Int) ≠ 0) from fun h => h rfl))) ?_
  refine Ls.ev (some 21) (Ev.move (show Oper.op _ = Op.move (Operand.tmp 3) from rfl) (by rfl)) (by rfl) (by rfl) ?_
  refine Ls.ev (some 22) (Ev.len (show Oper.op _ = Op.call { callee := Callee.builtin Builtin.len, args := #[Operand.tmp 21], argTypes := #[22] } from rfl) (by rfl) Tryz.underlying22) (by rfl) (by rfl) ?_
  refine Ls.ev (some 23) (Ev.neq (show Oper.op _ = Op.binOp BinOp.neq 3 (Operand.tmp 22) (Operand.const (Value.int IntKind.i64 0)) 3 from rfl) (by rfl) (by rfl)) (by rfl) (by rfl) ?_
  refine Ls.ev (some 24) (Ev.pickF (show Oper.op _ = Op.pick (Operand.tmp 20) (Operand.const (Value.bool true)) (Operand.tmp 23) from rfl) (by rfl) (by rfl)) (by rfl) (by rfl) ?_
  refine Ls.ev (some 25) (Ev.move (show Oper.op _ = Op.move (Operand.tmp 24) from rfl) (by rfl)) (by rfl) (by rfl) ?_
  skip
  refine Ent.known 25 false (by rfl) (by exact (decide_eq_false (show ¬ (((0 : Nat) : Int) ≠ 0) from fun h => h rfl))) ?_
  refine Ls.ev (some 26) (Ev.move (show Oper.op _ = Op.move (Operand.tmp 2) from rfl) (by rfl)) (by rfl) (by rfl) ?_
  skip
  refine Ls.does (some 27) (Does.read (show Oper.op _ = Op.call { callee := Callee.value (Operand.func 19), args := #[Operand.tmp 26], argTypes := #[26] } from rfl) Tryz.func19 (by kernel_rfl) (by kernel_rfl) (segment_sl g D.d ⟨DrP.new.seg 1, false⟩) (by rfl) (by rfl) ⟨blkIn 0 (by rfl), trivial⟩) (by rfl) (by rfl) ?_
  rintro _ -
  refine Ls.ev (some 28) (Ev.neq (show Oper.op _ = Op.binOp BinOp.neq 3 (Operand.tmp 27) (Operand.const (Value.int IntKind.i64 1)) 3 from rfl) (by rfl) (by rfl)) (by rfl) (by rfl) ?_
  refine Ls.ev (some 29) (Ev.pickF (show Oper.op _ = Op.pick (Operand.tmp 25) (Operand.const (Value.bool true)) (Operand.tmp 28) from rfl) (by rfl) (by rfl)) (by rfl) (by rfl) ?_
  refine Ls.ev (some 30) (Ev.move (show Oper.op _ = Op.move (Operand.tmp 29) from rfl) (by rfl)) (by rfl) (by rfl) ?_
  refine Ent.known 30 false (by rfl) (by exact (decide_eq_false (show ¬ ((((DrP.new.seg 1 : Nat)) : Int) ≠ 1) from fun h => h rfl))) ?_
  refine Ls.ev (some 31) (Ev.move (show Oper.op _ = Op.move (Operand.tmp 2) from rfl) (by rfl)) (by rfl) (by rfl) ?_
  refine Ls.does (some 32) (Does.lit (sz := 1) (show Oper.op _ = Op.buildSlice 30 3 #[(0, Operand.const (Value.int IntKind.u8 1)), (1, Operand.const (Value.int IntKind.u8 2)), (2, Operand.const (Value.int IntKind.u8 3))] from rfl) (by rfl) Tryz.underlying30 (by kernel_rfl) (by rfl) (by kernel_rfl)) (by rfl) (by rfl) ?_; intro g1 _
  skip
  refine Ent.pick [1, 4, 5, 6, 7, 0] (by rfl) ?_
  refine Ent.see 5 (by rfl) ?_
  refine Ls.does (some 33) (Does.call [0, 1, 2, 3, 4, 5, 4] (show Oper.op _ = Op.call { callee := Callee.value (Operand.func 11), args := #[Operand.tmp 31, Operand.tmp 32], argTypes := #[26, 30] } from rfl) Tryz.func11 (by kernel_rfl) (by kernel_rfl) (lappend_sl hD g ⟨DrP.new.seg 1, false⟩ (show 1 ≤ 1000000 by omega) _ 3 [1, 2, 3]) (by rfl) (by rfl) (by rfl)) (by rfl) (by rfl) ?_
  rintro D1 ⟨hD1, hd1, hm1⟩
  refine Ls.ev (some 34) (Ev.neq (show Oper.op _ = Op.binOp BinOp.neq 27 (Operand.tmp 33) (Operand.const (Value.int IntKind.i64 0)) 27 from rfl) (by rfl) (by rfl)) (by rfl) (by rfl) ?_
  refine Ls.ev (some 35) (Ev.pickF (show Oper.op _ = Op.pick (Operand.tmp 30) (Operand.const (Value.bool true)) (Operand.tmp 34) from rfl) (by rfl) (by rfl)) (by rfl) (by rfl) ?_
  refine Ls.nil ?_
  refine Cd.cond_false (by rfl) ((by rw [show (appL DrP.new ⟨DrP.new.seg 1, false⟩ [1, 2, 3]).2.2 = 0 from congrArg (fun x => x.2.2) aw1]; rfl)) ?_
  refine Cd.skip ?_
  refine Cd.seq ?_
  refine Cd.region ?_
  refine Ls.ev (some 37) (Ev.move (show Oper.op _ = Op.move (Operand.tmp 1) from rfl) (by rfl)) (by rfl) (by rfl) ?_
  have hp1 : D1.ptr = D.ptr := by rw [DrS.ptr, hd1]
  have ho1 := open_sl hD1 1 (by omega) (by omega)
  have hl1 := loose_sl hD1 [119, 97, 108, 45, 48, 48, 48, 48, 48, 49] (by decide)
  rw [hp1] at ho1 hl1
  rw [aw3] at hl1
  refine Ls.does (some 38) (Does.readN (show Oper.op _ = Op.call { callee := Callee.value (Operand.func 9), args := #[Operand.tmp 37, Operand.const (Value.int IntKind.i64 1)], argTypes := #[23, 3] } from rfl) Tryz.func9 (by kernel_rfl) (by kernel_rfl) (ho1) (by rfl) (by rfl) ⟨blkIn 1 (by rfl), mapIn 2 (by rfl), filIn 3 (by rfl), laidIn 4 (by rfl), trivial⟩ (fun _ => by rfl)) (by rfl) (by rfl) ?_
  rintro ⟨g2, ⟨qA, qc⟩, S2⟩ hS2
  obtain ⟨rA, rc, rfl⟩ := pay_one (hS2.trans aw2)
  dsimp only
  refine Ls.ev (some 36) (Ev.move (show Oper.op _ = Op.move (Operand.tmp 38) from rfl) (by rfl)) (by rfl) (by rfl) ?_
  refine Ls.ev (some 39) (Ev.extract (show Oper.op _ = Op.extract (Operand.tmp 36) 0 from rfl) (by rfl) (by rfl)) (by rfl) (by rfl) ?_
  refine Ls.ev (some 40) (Ev.extract (show Oper.op _ = Op.extract (Operand.tmp 36) 1 from rfl) (by rfl) (by rfl)) (by rfl) (by rfl) ?_
  refine Ls.ev (some 41) (Ev.extract (show Oper.op _ = Op.extract (Operand.tmp 36) 2 from rfl) (by rfl) (by rfl)) (by rfl) (by rfl) ?_
  refine Ls.ev (some 3) (Ev.assign (show Oper.op _ = Op.assign (Operand.tmp 40) from rfl) (by rfl)) (by rfl) (by rfl) ?_
  refine Ls.ev (some 4) (Ev.assign (show Oper.op _ = Op.assign (Operand.tmp 41) from rfl) (by rfl)) (by rfl) (by rfl) ?_
  refine Ls.nil ?_
  refine Cd.seq ?_
  refine Cd.region ?_
  refine Ls.ev (some 42) (Ev.move (show Oper.op _ = Op.move (Operand.tmp 4) from rfl) (by rfl)) (by rfl) (by rfl) ?_
  refine Ls.ev (some 43) (Ev.eql (show Oper.op _ = Op.binOp BinOp.eql 27 (Operand.tmp 42) (Operand.const (Value.int IntKind.i64 0)) 27 from rfl) (by rfl) (by rfl)) (by rfl) (by rfl) ?_
  refine Ls.ev (some 44) (Ev.move (show Oper.op _ = Op.move (Operand.tmp 43) from rfl) (by rfl)) (by rfl) (by rfl) ?_
  refine Ent.known 44 true (by rfl) (by exact (decide_eq_true (show (0 : Int) = 0 from rfl))) ?_
  refine Ls.ev (some 45) (Ev.move (show Oper.op _ = Op.move (Operand.tmp 3) from rfl) (by rfl)) (by rfl) (by rfl) ?_
  refine Ls.ev (some 46) (Ev.len (show Oper.op _ = Op.call { callee := Callee.builtin Builtin.len, args := #[Operand.tmp 45], argTypes := #[22] } from rfl) (by rfl) Tryz.underlying22) (by rfl) (by rfl) ?_
  refine Ls.ev (some 47) (Ev.eql (show Oper.op _ = Op.binOp BinOp.eql 3 (Operand.tmp 46) (Operand.const (Value.int IntKind.i64 1)) 3 from rfl) (by rfl) (by rfl)) (by rfl) (by rfl) ?_
  refine Ls.ev (some 48) (Ev.pickT (show Oper.op _ = Op.pick (Operand.tmp 44) (Operand.tmp 47) (Operand.const (Value.bool false)) from rfl) (by rfl) (by rfl)) (by rfl) (by rfl) ?_
  refine Ls.ev (some 49) (Ev.move (show Oper.op _ = Op.move (Operand.tmp 48) from rfl) (by rfl)) (by rfl) (by rfl) ?_
  skip
  refine Ent.rowSome 1 (by rfl) (by simp) (fun ad had => ?_)
  obtain rfl : qA = some ad := had
  refine Ent.map (fun w hs => paySee 2 rfl hs) ?_
  refine Ent.map (fun w hs => payGet 2 rfl List.mem_cons_self hs) ?_
  skip
  refine Ent.known 49 true (by rfl) (by exact (decide_eq_true (show ((1 : Nat) : Int) = 1 from rfl))) ?_
  refine Ls.ev (some 50) (Ev.move (show Oper.op _ = Op.move (Operand.tmp 3) from rfl) (by rfl)) (by rfl) (by rfl) ?_
  refine Ls.ev (some 51) (Ev.indexAt (k := 0) (sz := 1) (show Oper.op _ = Op.indexAddr 22 (Operand.tmp 50) (Operand.const (Value.int IntKind.i64 0)) from rfl) (by rfl) (by rfl) Tryz.underlying22 (by kernel_rfl) (by simp)) (by rfl) (by rfl) ?_
  refine Ls.ev (some 52) (Ev.loadV (show Oper.op _ = Op.load 30 (Operand.tmp 51) from rfl) (by rfl) (ReadsIn.row 2 (by rfl)) (by kernel_rfl) (by rfl)) (by rfl) (by rfl) ?_
  refine Ls.ev (some 53) (Ev.textOf (show Oper.op _ = Op.convert 30 9 (Operand.tmp 52) from rfl) (by rfl) (ReadsIn.rd 0 (by rfl)) Tryz.underlying30 Tryz.underlying5 Tryz.underlying9) (by rfl) (by rfl) ?_
  refine Ls.ev (some 54) (Ev.eqlS (show Oper.op _ = Op.binOp BinOp.eql 9 (Operand.tmp 53) (Operand.const (Value.string { data := #[1, 2, 3] })) 9 from rfl) (by rfl) (by rfl)) (by rfl) (by rfl) ?_
  refine Ls.ev (some 55) (Ev.pickT (show Oper.op _ = Op.pick (Operand.tmp 49) (Operand.tmp 54) (Operand.const (Value.bool false)) from rfl) (by rfl) (by rfl)) (by rfl) (by rfl) ?_
  refine Ls.ev (some 56) (Ev.move (show Oper.op _ = Op.move (Operand.tmp 55) from rfl) (by rfl)) (by rfl) (by rfl) ?_
  refine Ent.known 56 true (by rfl) (by exact (decide_eq_true (show txt [1, 2, 3] = ⟨#[1, 2, 3]⟩ from rfl))) ?_
  refine Ls.ev (some 57) (Ev.move (show Oper.op _ = Op.move (Operand.tmp 1) from rfl) (by rfl)) (by rfl) (by rfl) ?_
  skip
  refine Ls.does (some 58) (Does.read (show Oper.op _ = Op.call { callee := Callee.value (Operand.func 25), args := #[Operand.tmp 57, Operand.const (Value.string { data := #[119, 97, 108, 45, 48, 48, 48, 48, 48, 49] })], argTypes := #[23, 9] } from rfl) Tryz.func25 (by kernel_rfl) (by kernel_rfl) (hl1) (by rfl) (by rfl) ⟨blkIn 5 (by rfl), mapIn 6 (by rfl), filIn 7 (by rfl), trivial⟩) (by rfl) (by rfl) ?_
  rintro _ -
  refine Ls.ev (some 59) (Ev.gtr (show Oper.op _ = Op.binOp BinOp.gtr 3 (Operand.tmp 58) (Operand.const (Value.int IntKind.i64 0)) 3 from rfl) (by rfl) (by rfl)) (by rfl) (by rfl) ?_
  refine Ls.ev (some 60) (Ev.pickT (show Oper.op _ = Op.pick (Operand.tmp 56) (Operand.tmp 59) (Operand.const (Value.bool false)) from rfl) (by rfl) (by rfl)) (by rfl) (by rfl) ?_
  refine Ls.ev (some 0) (Ev.assign (show Oper.op _ = Op.assign (Operand.tmp 60) from rfl) (by rfl)) (by rfl) (by rfl) ?_
  refine Ls.nil ?_
  refine Cd.ret ?_
  refine Ent.ret (()) (trivial) (Res.tmp (by rfl) (by rfl)) ?_ [] (by rfl) ?_
  · rfl
  · rfl
end Go.Proofs.YtceanciekadkeaaGreatDoor
/-
  Arguments: lists of numbers and of texts, wherever they lie.
-/
namespace Go.Proofs.YtceanciekadkeaaGreatDoor
open Go.RowKit
section
variable {P : Program} {w : World}
theorem wf_bd {x : Int} (h : (Lit.int .i64 x).wf = true) : -9223372036854775808 ≤ x ∧ x ≤ 9223372036854775807 := by
  have h1 : IntKind.i64.min = -9223372036854775808 := by decide
  have h2 : IntKind.i64.max = 9223372036854775807 := by decide
  simpa only [Lit.wf, h1, h2, Bool.and_eq_true, decide_eq_true_eq] using h
theorem cel_slice1 {α : Type} [Inhabited α] {f : α → Value} {Q : α → Prop} {n : Nat} {t e : TypeId} {cs : List Value} (ht : P.underlying t = some (.slice e)) (hm : P.cellsOf e = 1) (hcel : ∀ (n : Nat) (cs : List Value), Cel P w n e cs → ∃ a, cs = [f a] ∧ Q a) (h : Cel P w n t cs) :
    ∃ A c l, cs = [.slice A (List.length l) c] ∧ Reads w w.heap.size 1 A l.length (l.map f) ∧ (∀ a ∈ l, Q a) ∧ l.length ≤ c ∧ c * P.bytesOf e ≤ reachBytes := by
  rcases cel_slice ht h with rfl | ⟨a, len, cap, rfl, hl, hmx, hb, hc⟩
  · exact ⟨none, 0, [], rfl, Reads.none_, by simp, Nat.le_refl _, by simp⟩
  · rw [hm] at hc
    have hrow : ∀ i, i < len → ∃ x : α, w.cell? (a.add i) = some (f x) ∧ Q x := by
      intro i hi
      obtain ⟨k, cs, h1, h2, h3⟩ := hc i (by omega)
      obtain ⟨x, rfl, hx⟩ := hcel k cs h3
      have := h2 0 (by omega)
      rw [add_of_add] at this
      exact ⟨x, by simpa using this, hx⟩
    obtain ⟨xs, hxl, hx⟩ := choose_rows hrow
    subst hxl
    refine ⟨some a, cap, xs, rfl, ⟨by simp, fun hn => ⟨a, rfl, ?_, fun j u hu => ?_⟩⟩, fun y hy => ?_, hl, hb⟩
    · obtain ⟨x, _, h1, _⟩ := hx 0 hn
      have := World.block_lt_of_cell? w _ h1
      rwa [block_of_add] at this
    · rw [List.getElem?_map] at hu
      obtain ⟨y, hy, rfl⟩ := Option.map_eq_some_iff.1 hu
      obtain ⟨x, h1, h2, _⟩ := hx j (List.getElem?_eq_some_iff.1 hy).1
      rw [hy] at h1
      injection h1 with h1
      rw [h1, h2]
    · obtain ⟨i, hi⟩ := List.mem_iff_getElem?.1 hy
      obtain ⟨x, h1, _, h2⟩ := hx i (List.getElem?_eq_some_iff.1 hi).1
      rw [hi] at h1
      injection h1 with h1
      rw [h1]
      exact h2
theorem cel_ints {n : Nat} {t e : TypeId} {cs : List Value} (ht : P.underlying t = some (.slice e)) (he : P.underlying e = some (.int .i64)) (hm : P.cellsOf e = 1) (hb : P.bytesOf e = 8) (h : Cel P w n t cs) :
    ∃ A c xs, cs = [.slice A (List.length xs) c] ∧ Reads w w.heap.size 1 A xs.length (ints xs) ∧ (∀ x ∈ xs, -9223372036854775808 ≤ x ∧ x ≤ 9223372036854775807) ∧ xs.length ≤ 17592186044415 := by
  obtain ⟨A, c, l, rfl, hr, hq, hc, hbb⟩ := cel_slice1 (f := Value.int .i64) (Q := fun x => -9223372036854775808 ≤ x ∧ x ≤ 9223372036854775807) ht hm (fun n cs h => by
    obtain ⟨m, rfl, hw⟩ := cel_int he h
    exact ⟨m, rfl, wf_bd hw⟩) h
  rw [hb] at hbb
  unfold reachBytes at hbb
  exact ⟨A, c, l, rfl, hr, hq, by omega⟩
theorem cel_strs {n : Nat} {t e : TypeId} {cs : List Value} (ht : P.underlying t = some (.slice e)) (he : P.underlying e = some .string) (hm : P.cellsOf e = 1) (hb : P.bytesOf e = 16) (h : Cel P w n t cs) :
    ∃ A c xs, cs = [.slice A (List.length xs) c] ∧ Reads w w.heap.size 1 A xs.length (strs xs) ∧ (∀ x ∈ xs, ByteArray.size x ≤ reachBytes) ∧ xs.length ≤ 8796093022207 := by
  obtain ⟨A, c, l, rfl, hr, hq, hc, hbb⟩ := cel_slice1 (f := Value.string) (Q := fun x => ByteArray.size x ≤ reachBytes) ht hm (fun n cs h => by
    obtain ⟨m, rfl, _, hw⟩ := cel_string he h
    exact ⟨m, rfl, hw⟩) h
  rw [hb] at hbb
  unfold reachBytes at hbb
  exact ⟨A, c, l, rfl, hr, hq, by omega⟩
theorem seg_ {cs v : List Value} {off s off' : Nat} (h : (cs.drop off).take s = v) (ho : off + s = off') : cs.drop off = v ++ cs.drop off' := by
  rw [← h, ← ho, ← List.drop_drop, List.take_append_drop]
/-- A slice of structs that is handed in, as a list. -/
theorem val_list {α : Type} [Inhabited α] {f : α → List Value} {Q : World → α → Prop} {t e : TypeId} {m : Nat} {v : Value} (ht : P.underlying t = some (.slice e)) (hm : P.cellsOf e = m) (hm0 : 0 < m) (hf : ∀ a, (f a).length = m)
    (hcel : ∀ (n : Nat) (cs : List Value), Cel P w n e cs → ∃ a, cs = f a ∧ Q w a) (h : Val P w t v) :
    ∃ A c l, v = .slice A (List.length l) c ∧ Reads w w.heap.size m A l.length (l.flatMap f) ∧ (∀ a ∈ l, Q w a) ∧ l.length ≤ c ∧ c * P.bytesOf e ≤ reachBytes := by
  obtain ⟨A, n, c, l, rfl, hr, hq, hnc, _, hb⟩ := val_flat ht hm hm0 hf hcel h
  have e1 : flat f l = l.flatMap f := by
    clear hr hq
    induction l with
    | nil => rfl
    | cons a l ih => simp [flat, List.flatMap_cons] at ih ⊢
  have hl : l.length = n := by
    have := hr.1
    rw [e1, flatMap_len hf] at this
    exact Nat.eq_of_mul_eq_mul_right hm0 this
  subst hl
  exact ⟨A, c, l, rfl, e1 ▸ hr, hq, hnc, hb⟩
theorem val_cel {t e : TypeId} {v : Value} (ht : P.underlying t = some (.slice e)) (h : Val P w t v) : ∃ n, Cel P w n t [v] := by
  simp only [Val, ht] at h
  exact h.2
theorem val_celS {t : TypeId} {fs : Array Field} {v : Value} (ht : P.underlying t = some (.struct fs)) (h : Val P w t v) : ∃ (cs : Array Value) (n : Nat), v = .agg cs ∧ Cel P w n t cs.toList := by
  simp only [Val, ht] at h
  exact h
theorem val_ints {t e : TypeId} {v : Value} (ht : P.underlying t = some (.slice e)) (he : P.underlying e = some (.int .i64)) (hm : P.cellsOf e = 1) (hb : P.bytesOf e = 8) (h : Val P w t v) :
    ∃ A c xs, v = .slice A (List.length xs) c ∧ Reads w w.heap.size 1 A xs.length (ints xs) ∧ (∀ x ∈ xs, -9223372036854775808 ≤ x ∧ x ≤ 9223372036854775807) ∧ xs.length ≤ 17592186044415 := by
  obtain ⟨n, h⟩ := val_cel ht h
  obtain ⟨A, c, xs, e1, h1⟩ := cel_ints ht he hm hb h
  exact ⟨A, c, xs, by simpa using e1, h1⟩
end
end Go.Proofs.YtceanciekadkeaaGreatDoor
/- bytes out of a slice; a slice's front -/
namespace Go.Proofs.YtceanciekadkeaaGreatDoor
open Go.RowKit
theorem Ev.loadU8 {Γ : Ctx} {N : Frm} {P : Program} {E : Env} {H : List Chunk} {o : Oper} {x : Operand} {t n k : Nat} {ad : Addr} {xs : List UInt8} {u : UInt8} (ho : o.op = .load t x) (hx : E.ev x = some (.pointer (some (ad.add (k * 1))))) (hi : ReadsIn Γ H 1 (some ad) n (u8s xs)) (ht : one P t = true) (hu : xs[k]? = some u) : Ev Γ N P E H o (.int .u8 u.toNat) :=
  .loadOf ho hx fun w hs => by
    have hh : Reads w w.heap.size 1 (some ad) n (u8s xs) := hi w hs
    have hk : k < xs.length := (List.getElem?_eq_some_iff.1 hu).1
    have := hh.1
    exact run_loadVar_one ht (rd_cell hh (by rw [u8s_length] at this; omega) (by rw [Nat.mul_one, u8s_get, hu]; rfl))
theorem ReadsIn.preB {Γ : Ctx} {H : List Chunk} {A : Option Addr} {c : Nat} {l r : List UInt8} (i : Nat) (hi : H[i]? = some (rowB A c (l ++ r))) : ReadsIn Γ H 1 A l.length (u8s l) := fun w hs => by
  have ho : Own w 0 5 1 A (l ++ r).length c (u8s (l ++ r)) := hs.mem hi
  have := ho.reads.take (k := l.length) (by rw [List.length_append]; omega)
  rw [Nat.mul_one, u8s_append, List.take_left' (u8s_length l)] at this
  exact this
end Go.Proofs.YtceanciekadkeaaGreatDoor
