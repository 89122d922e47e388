/-
  Texts joined: JdT.
-/
import Derived.Test.YtegjoabfoddadaaMJdL1i
import Derived.Test.YtegjoabfoddadaaMJdL1k
/- the walk of JudgeTells -/
namespace Go.Proofs.Ytegjoabfoddadaa
open Go.RowKit
set_option maxRecDepth 20000 in
set_option maxHeartbeats 2000000 in
theorem tells_sl (W : World) (m : MapP) (A : Option Addr) (c : Nat) (hl : m.bl.length ≤ 17592186044415) (hm : Reads W W.heap.size 1 A m.bl.length (ints m.bl)) (EA : Option Addr) (ec : Nat) (l : List EvS) (he : Reads W W.heap.size 12 EA l.length (l.flatMap EvS.enc)) (hx : ∀ x ∈ l, x.At W) :
    Fn Try.prog 3 #[.agg (mapV m A c).toArray, .slice EA l.length ec] [argc W] Unit (fun _ => .bool true) (fun _ => []) (fun _ => True) := by
  refine Fn.enter Try.func3 rfl Try.ntmps3 (by rfl) ?_
  intro w0
  refine Cd.seq ?_
  refine Cd.region ?_
  refine Ls.does (some 2) (Does.box (show Oper.op _ = Op.box 24 (Operand.tmp 0) from rfl) (by rfl)) (by rfl) (by rfl) ?_
  intro g1 _
  refine Ls.ev (some 4) (Ev.assign (show Oper.op _ = Op.assign (Operand.const (Value.bool false)) from rfl) (by rfl)) (by rfl) (by rfl) ?_
  refine Ls.nil ?_
  refine Cd.seq ?_
  refine Cd.seq ?_
  refine Cd.region ?_
  refine Ls.does (some 9) (Does.read (show Oper.op _ = Op.call { callee := Callee.value (Operand.func 6), args := #[], argTypes := #[] } from rfl) Try.func6 (by kernel_rfl) (by kernel_rfl) (awake_sl) (by rfl) (by rfl) trivial) (by rfl) (by rfl) ?_
  rintro _ -
  refine Ls.ev (some 10) (Ev.not (show Oper.op _ = Op.unOp UnOp.not 4 (Operand.tmp 9) from rfl) (by rfl)) (by rfl) (by rfl) ?_
  refine Ls.nil ?_
  refine Cd.cond_false (by rfl) (rfl) ?_
  refine Cd.skip ?_
  refine Cd.seq ?_
  refine Cd.region ?_
  refine Ls.ev (some 11) (Ev.move (show Oper.op _ = Op.move (Operand.tmp 1) from rfl) (by rfl)) (by rfl) (by rfl) ?_
  refine Ent.arg 1 (by rfl) he ?_
  refine Ent.map (fun w hs => Sat.starf_arg (F := fun k : Nat => (l.getD k noE).call.rt.rd) (i := 2) rfl (fun k => (ev_fam hx k).1) hs) ?_
  refine Ent.map (fun w hs => Sat.starf_arg (F := fun k : Nat => (l.getD k noE).reply.rt.rd) (i := 3) rfl (fun k => (ev_fam hx k).2) hs) ?_
  refine Ls.does (some 12) (Does.call [2, 1, 0, 3, 4] (show Oper.op _ = Op.call { callee := Callee.value (Operand.func 7), args := #[Operand.tmp 11], argTypes := #[25] } from rfl) Try.func7 (by kernel_rfl) (by kernel_rfl) (own23_sl EA ec l (fun x h => (hx x h).pre)) (by rfl) (by rfl) (by rfl)) (by rfl) (by rfl) ?_
  rintro ⟨D, d, o⟩ ⟨ho, hok⟩
  dsimp only at ho hok
  have hol := own_len ho
  refine Ent.see 0 (by rfl) ?_
  refine Ls.ev (some 1) (Ev.assign (show Oper.op _ = Op.assign (Operand.tmp 12) from rfl) (by rfl)) (by rfl) (by rfl) ?_
  refine Ls.nil ?_
  refine Cd.seq ?_
  refine Ent.arg 4 (by rfl) hm ?_
  refine Ent.pick [4, 0, 1, 2, 3] (by rfl) ?_
  refine Ent.norm ([(1, .slice D o.length d), (2, .pointer (some ⟨g1, 0, none⟩)), (4, .bool false)]) ([blk g1 24 (mapV m A c), rdI A m.bl, evR D o, evC o, evD o]) (by repeat (first | exact trivial | refine ⟨by rfl, ?_⟩ | refine ⟨by simp only [List.length_append, List.length_cons, List.length_nil]; rfl, ?_⟩ | refine ⟨by push_cast; rfl, ?_⟩)) (by rfl) ?_
  refine Cd.draw [8] (by kernel_rfl) ?_
  refine Rg.ev 0 (by rfl) (fun _ h => h) (Ev.loads 0 (show Oper.op _ = Op.load 24 (Operand.tmp 2) from rfl) (by rfl) (by rfl) (n := 4) (by kernel_rfl) (by rfl) (by rfl)) (by rfl) (some 14) (by rfl) (by kernel_rfl) (by kernel_rfl) (by kernel_rfl) (by kernel_rfl) ?_
  refine Rg.ev 1 (by rfl) (fun _ h => h) (Ev.move (show Oper.op _ = Op.move (Operand.tmp 1) from rfl) (by rfl)) (by rfl) (some 15) (by rfl) (by kernel_rfl) (by kernel_rfl) (by kernel_rfl) (by kernel_rfl) ?_
  skip
  refine Rg.float1 7 (ι := Nat) (some 5) (fun g => .pointer (some ⟨g, 0, none⟩)) (fun g => blk g 29 [.int .i64 0, .int .i64 0]) ?_
  skip
  skip
  refine RgF.does 2 (by rfl) (by rfl) (.inr (by kernel_rfl)) (by kernel_rfl) (Does.alloc (cs := [.int .i64 0, .int .i64 0]) (show Oper.op _ = Op.alloc 29 from rfl) (ZeroIs.mk (.agg #[.int .i64 0, .int .i64 0]) (by kernel_rfl) (by rfl))) (by rfl) (some 5) (by rfl) (fun _ => by repeat (first | exact trivial | refine ⟨by rfl, ?_⟩ | refine ⟨by simp only [List.length_append, List.length_cons, List.length_nil]; rfl, ?_⟩ | refine ⟨by push_cast; rfl, ?_⟩)) (by exact fun _ _ h => h.last) (by exact fun _ _ h => h.pick [0, 1, 2, 3, 4] (by rfl)) (Does.call [2, 3, 4, 0, 1, 2, 3, 4] (show Oper.op _ = Op.call { callee := Callee.value (Operand.func 7), args := #[Operand.tmp 15], argTypes := #[25] } from rfl) Try.func7 (by kernel_rfl) (by kernel_rfl) (own23_sl D d o (fun x h => (hok x h).2)) (by rfl) (by rfl) (by rfl)) (by rfl) (some 16) (by rfl) (by exact fun _ _ h => h.pick [3, 4, 5, 6, 7] (by rfl)) (fun _ => Does.call [2, 3, 4, 0, 1, 2, 3, 4, 5] (show Oper.op _ = Op.call { callee := Callee.value (Operand.func 7), args := #[Operand.tmp 15], argTypes := #[25] } from rfl) Try.func7 (by kernel_rfl) (by kernel_rfl) (own23_sl D d o (fun x h => (hok x h).2)) (by rfl) (by rfl) (by rfl)) (fun _ => by rfl) (by exact fun _ _ _ h => h.pick [3, 4, 5, 6, 7] (by rfl)) ?_
  rintro ⟨D1, d1, o1⟩ ⟨ho1, hok1⟩
  dsimp only at ho1 hok1
  have hol1 := own_len ho1
  have hoo : o1.map EvS.p = o.map EvS.p := by rw [ho1, ho, own_own]
  skip
  refine RgF.does 3 (by rfl) (by rfl) (.inr (by kernel_rfl)) (by kernel_rfl) (Does.alloc (cs := [.int .i64 0, .int .i64 0]) (show Oper.op _ = Op.alloc 29 from rfl) (ZeroIs.mk (.agg #[.int .i64 0, .int .i64 0]) (by kernel_rfl) (by rfl))) (by rfl) (some 5) (by rfl) (fun _ => by repeat (first | exact trivial | refine ⟨by rfl, ?_⟩ | refine ⟨by simp only [List.length_append, List.length_cons, List.length_nil]; rfl, ?_⟩ | refine ⟨by push_cast; rfl, ?_⟩)) (by exact fun _ _ h => h.last) (by exact fun _ _ h => h.pick [3, 4, 5, 6, 7] (by rfl)) (Does.read (show Oper.op _ = Op.call { callee := Callee.value (Operand.func 8), args := #[Operand.tmp 14, Operand.tmp 16], argTypes := #[24, 25] } from rfl) Try.func8 (by kernel_rfl) (by kernel_rfl) (jcheck_sl m A c hl o1 (by omega) (fun x h => (hok1 x h).1) D1 d1) (by rfl) (by rfl) ⟨ReadsIn.rd 4 (by rfl), ReadsIn.row 0 (by rfl), anyIn 1 (by rfl), anyIn 2 (by rfl), trivial⟩) (by rfl) (some 17) (by rfl) (by exact fun _ _ h => h.pick [3, 4, 5, 6, 7] (by rfl)) (fun _ => Does.read (show Oper.op _ = Op.call { callee := Callee.value (Operand.func 8), args := #[Operand.tmp 14, Operand.tmp 16], argTypes := #[24, 25] } from rfl) Try.func8 (by kernel_rfl) (by kernel_rfl) (jcheck_sl m A c hl o1 (by omega) (fun x h => (hok1 x h).1) D1 d1) (by rfl) (by rfl) ⟨ReadsIn.rd 4 (by rfl), ReadsIn.row 0 (by rfl), anyIn 1 (by rfl), anyIn 2 (by rfl), trivial⟩) (fun _ => by rfl) (by exact fun _ _ _ h => h.pick [3, 4, 5, 6, 7] (by rfl)) ?_
  rintro _ -
  rw [hoo]
  refine RgF.ev 4 (by rfl) (by exact fun _ h => h.pick [3, 4, 5, 6, 7] (by rfl)) (by exact fun _ _ h => h.pick [3, 4, 5, 6, 7] (by rfl)) (Ev.move (show Oper.op _ = Op.move (Operand.tmp 17) from rfl) (by rfl)) (fun _ => Ev.move (show Oper.op _ = Op.move (Operand.tmp 17) from rfl) (by rfl)) (by rfl) (fun _ => by rfl) (some 13) (by rfl) (by kernel_rfl) (by kernel_rfl) (by kernel_rfl) (by kernel_rfl) ?_
  refine RgF.ev 5 (by rfl) (by exact fun _ h => h.pick [3, 4, 5, 6, 7] (by rfl)) (by exact fun _ _ h => h.pick [3, 4, 5, 6, 7] (by rfl)) (Ev.extract (show Oper.op _ = Op.extract (Operand.tmp 13) 0 from rfl) (by rfl) (by rfl)) (fun _ => Ev.extract (show Oper.op _ = Op.extract (Operand.tmp 13) 0 from rfl) (by rfl) (by rfl)) (by rfl) (fun _ => by rfl) (some 18) (by rfl) (by kernel_rfl) (by kernel_rfl) (by kernel_rfl) (by kernel_rfl) ?_
  refine RgF.pv 6 (by rfl) (by exact fun _ h => h.pick [3, 4, 5, 6, 7] (by rfl)) (by exact fun _ _ h => h.pick [3, 4, 5, 6, 7] (by rfl)) (fun _ => Ev.extract (show Oper.op _ = Op.extract (Operand.tmp 13) 1 from rfl) (by rfl) (by rfl)) (fun _ _ => Ev.extract (show Oper.op _ = Op.extract (Operand.tmp 13) 1 from rfl) (by rfl) (by rfl)) (by rfl) (fun _ => by rfl) (some 19) (by rfl) (by kernel_rfl) (by kernel_rfl) (by kernel_rfl) (by kernel_rfl) ?_
  refine RgF.land (by rfl) (by kernel_rfl) (Does.alloc (cs := [.int .i64 0, .int .i64 0]) (show Oper.op _ = Op.alloc 29 from rfl) (ZeroIs.mk (.agg #[.int .i64 0, .int .i64 0]) (by kernel_rfl) (by rfl))) (by rfl) (some 5) (by rfl) (fun _ => by repeat (first | exact trivial | refine ⟨by rfl, ?_⟩ | refine ⟨by simp only [List.length_append, List.length_cons, List.length_nil]; rfl, ?_⟩ | refine ⟨by push_cast; rfl, ?_⟩)) (by exact fun _ _ h => h.last) (by exact fun _ _ h => h.pick [3, 4, 5, 6, 7] (by rfl)) ?_
  intro g2
  skip
  refine Rg.one 8 (by kernel_rfl) ?_; refine RgO.tail 8 (by rfl) (Does.store 8 (show Oper.op _ = Op.store 29 (Operand.tmp 5) (Operand.tmp 18) from rfl) (by rfl) (by rfl) (by rfl) (by kernel_rfl) (by rfl) (by kernel_rfl) (by rfl)) (by rfl) none (by rfl) (by kernel_rfl) (by kernel_rfl) ?_
  intro _ _
  skip
  refine Rg.ev 9 (by rfl) (fun _ h => h.pick [] (by rfl)) (Ev.assign (show Oper.op _ = Op.assign (Operand.tmp 19) from rfl) (by rfl)) (by rfl) (some 6) (by rfl) (by kernel_rfl) (by kernel_rfl) (by kernel_rfl) (by kernel_rfl) ?_
  refine Rg.done (by kernel_rfl) ?_ _
  refine Cd.seq ?_
  refine Cd.seq ?_
  refine Ent.pick [8, 3, 4, 5, 6, 7] (by rfl) ?_
  refine Ent.norm ([(1, .slice D o.length d), (2, .pointer (some ⟨g1, 0, none⟩)), (4, .bool false), (5, .pointer (some ⟨g2, 0, none⟩)), (6, .int .i64 (codeP m))]) ([blk g2 29 [.int .i64 (verdP m (o.map EvS.p)).1, .int .i64 (verdP m (o.map EvS.p)).2], blk g1 24 (mapV m A c), rdI A m.bl, evR D o, evC o, evD o]) (by repeat (first | exact trivial | refine ⟨by rfl, ?_⟩ | refine ⟨by simp only [List.length_append, List.length_cons, List.length_nil]; rfl, ?_⟩ | refine ⟨by push_cast; rfl, ?_⟩)) (by rfl) ?_
  refine Cd.region ?_
  refine Ls.ev (some 20) (Ev.loads 1 (show Oper.op _ = Op.load 24 (Operand.tmp 2) from rfl) (by rfl) (by rfl) (n := 4) (by kernel_rfl) (by rfl) (by rfl)) (by rfl) (by rfl) ?_
  refine Ls.does (some 21) (Does.read (show Oper.op _ = Op.call { callee := Callee.value (Operand.func 9), args := #[Operand.tmp 20], argTypes := #[24] } from rfl) Try.func9 (by kernel_rfl) (by kernel_rfl) (dGood_sl m A c hl) (by rfl) (by rfl) ⟨ReadsIn.rd 2 (by rfl), trivial⟩) (by rfl) (by rfl) ?_
  rintro _ -
  refine Ls.ev (some 22) (Ev.not (show Oper.op _ = Op.unOp UnOp.not 4 (Operand.tmp 21) from rfl) (by rfl)) (by rfl) (by rfl) ?_
  refine Ls.nil ?_
  refine Cd.cond _ (by rfl) (fun h => ?_) (fun h => ?_)
  · skip
    have hgm : goodM m = false := by simpa using h
    have hv : verdP m (o.map EvS.p) = (0, 0) := by unfold verdP; rw [hgm]; rfl
    have hc : codeP m = 120 := by unfold codeP; rw [hgm]; rfl
    rw [hv, hc]
    refine Cd.seq ?_
    refine Cd.region ?_
    refine Ls.ev (some 23) (Ev.move (show Oper.op _ = Op.move (Operand.tmp 6) from rfl) (by rfl)) (by rfl) (by rfl) ?_
    refine Ls.ev (some 24) (Ev.eql (show Oper.op _ = Op.binOp BinOp.eql 30 (Operand.tmp 23) (Operand.const (Value.int IntKind.i64 120)) 30 from rfl) (by rfl) (by rfl)) (by rfl) (by rfl) ?_
    refine Ls.ev (some 25) (Ev.move (show Oper.op _ = Op.move (Operand.tmp 24) from rfl) (by rfl)) (by rfl) (by rfl) ?_
    refine Ls.ev (some 26) (Ev.loads 0 (show Oper.op _ = Op.load 29 (Operand.tmp 5) from rfl) (by rfl) (by rfl) (n := 2) (by kernel_rfl) (by rfl) (by rfl)) (by rfl) (by rfl) ?_
    refine Ls.ev (some 27) (Ev.buildP (pl := [(0, 1), (1, 1)]) (zs := [.int .i64 0, .int .i64 0]) (show Oper.op _ = Op.build 29 #[] from rfl) (by rfl) (by kernel_rfl) (by rfl)) (by rfl) (by rfl) ?_
    refine Ls.ev (some 28) (Ev.eqlG (r := true) (show Oper.op _ = Op.binOp BinOp.eql 29 (Operand.tmp 26) (Operand.tmp 27) 29 from rfl) (by rfl) (by rfl) (fun w => by kernel_rfl) (fun w => verd_eql w _ _)) (by rfl) (by rfl) ?_
    refine Ls.ev (some 29) (Ev.pickT (show Oper.op _ = Op.pick (Operand.tmp 25) (Operand.tmp 28) (Operand.const (Value.bool false)) from rfl) (by rfl) (by rfl)) (by rfl) (by rfl) ?_
    refine Ls.ev (some 4) (Ev.assign (show Oper.op _ = Op.assign (Operand.tmp 29) from rfl) (by rfl)) (by rfl) (by rfl) ?_
    refine Ls.nil ?_
    refine Cd.ret ?_
    refine Ent.ret (()) (trivial) (Res.tmp (by rfl) (by rfl)) ?_ [] (by rfl) ?_
    · rfl
    · rfl
  · skip
    have hgm : goodM m = true := by simpa using h
    have hv : verdP m (o.map EvS.p) = refCheckP m (o.map EvS.p) := by unfold verdP; rw [hgm]; exact check_eq hgm _
    have hc : codeP m = 0 := by unfold codeP; rw [hgm]; rfl
    rw [hv, hc]
    refine Cd.skip ?_
    refine Cd.seq ?_
    refine Cd.region ?_
    refine Ls.ev (some 31) (Ev.loads 1 (show Oper.op _ = Op.load 24 (Operand.tmp 2) from rfl) (by rfl) (by rfl) (n := 4) (by kernel_rfl) (by rfl) (by rfl)) (by rfl) (by rfl) ?_
    refine Ls.ev (some 32) (Ev.move (show Oper.op _ = Op.move (Operand.tmp 1) from rfl) (by rfl)) (by rfl) (by rfl) ?_
    refine Ls.does (some 33) (Does.read (show Oper.op _ = Op.call { callee := Callee.value (Operand.func 10), args := #[Operand.tmp 31, Operand.tmp 32], argTypes := #[24, 25] } from rfl) Try.func10 (by kernel_rfl) (by kernel_rfl) (dCheck23_sl m hgm A c hl o (by omega) (fun x h => (hok x h).1) D d) (by rfl) (by rfl) ⟨ReadsIn.rd 2 (by rfl), ReadsIn.rd 3 (by rfl), anyIn 4 (by rfl), anyIn 5 (by rfl), trivial⟩) (by rfl) (by rfl) ?_
    rintro _ -
    refine Ls.ev (some 30) (Ev.move (show Oper.op _ = Op.move (Operand.tmp 33) from rfl) (by rfl)) (by rfl) (by rfl) ?_
    refine Ls.ev (some 34) (Ev.extract (show Oper.op _ = Op.extract (Operand.tmp 30) 0 from rfl) (by rfl) (by rfl)) (by rfl) (by rfl) ?_
    refine Ls.ev (some 35) (Ev.extract (show Oper.op _ = Op.extract (Operand.tmp 30) 1 from rfl) (by rfl) (by rfl)) (by rfl) (by rfl) ?_
    refine Ls.ev (some 7) (Ev.assign (show Oper.op _ = Op.assign (Operand.tmp 34) from rfl) (by rfl)) (by rfl) (by rfl) ?_
    refine Ls.ev (some 8) (Ev.assign (show Oper.op _ = Op.assign (Operand.tmp 35) from rfl) (by rfl)) (by rfl) (by rfl) ?_
    refine Ls.nil ?_
    refine Cd.seq ?_
    refine Cd.region ?_
    refine Ls.ev (some 36) (Ev.move (show Oper.op _ = Op.move (Operand.tmp 6) from rfl) (by rfl)) (by rfl) (by rfl) ?_
    refine Ls.ev (some 37) (Ev.eql (show Oper.op _ = Op.binOp BinOp.eql 30 (Operand.tmp 36) (Operand.const (Value.int IntKind.i64 0)) 30 from rfl) (by rfl) (by rfl)) (by rfl) (by rfl) ?_
    refine Ls.ev (some 38) (Ev.move (show Oper.op _ = Op.move (Operand.tmp 37) from rfl) (by rfl)) (by rfl) (by rfl) ?_
    refine Ls.ev (some 39) (Ev.fieldAddr (k := 0) (show Oper.op _ = Op.fieldAddr 29 (Operand.tmp 5) 0 from rfl) (by rfl) (by kernel_rfl) (by rfl)) (by rfl) (by rfl) ?_
    refine Ls.ev (some 40) (Ev.load 0 (show Oper.op _ = Op.load 3 (Operand.tmp 39) from rfl) (by rfl) (by rfl) (by kernel_rfl) (by rfl)) (by rfl) (by rfl) ?_
    refine Ls.ev (some 41) (Ev.move (show Oper.op _ = Op.move (Operand.tmp 7) from rfl) (by rfl)) (by rfl) (by rfl) ?_
    refine Ls.ev (some 42) (Ev.eql (show Oper.op _ = Op.binOp BinOp.eql 3 (Operand.tmp 40) (Operand.tmp 41) 3 from rfl) (by rfl) (by rfl)) (by rfl) (by rfl) ?_
    refine Ls.ev (some 43) (Ev.pickT (show Oper.op _ = Op.pick (Operand.tmp 38) (Operand.tmp 42) (Operand.const (Value.bool false)) from rfl) (by rfl) (by rfl)) (by rfl) (by rfl) ?_
    refine Ls.ev (some 44) (Ev.move (show Oper.op _ = Op.move (Operand.tmp 43) from rfl) (by rfl)) (by rfl) (by rfl) ?_
    refine Ent.known 44 true (by rfl) (by exact (decide_eq_true rfl)) ?_
    refine Ls.ev (some 45) (Ev.fieldAddr (k := 1) (show Oper.op _ = Op.fieldAddr 29 (Operand.tmp 5) 1 from rfl) (by rfl) (by kernel_rfl) (by rfl)) (by rfl) (by rfl) ?_
    refine Ls.ev (some 46) (Ev.load 0 (show Oper.op _ = Op.load 3 (Operand.tmp 45) from rfl) (by rfl) (by rfl) (by kernel_rfl) (by rfl)) (by rfl) (by rfl) ?_
    refine Ls.ev (some 47) (Ev.move (show Oper.op _ = Op.move (Operand.tmp 8) from rfl) (by rfl)) (by rfl) (by rfl) ?_
    refine Ls.ev (some 48) (Ev.eql (show Oper.op _ = Op.binOp BinOp.eql 3 (Operand.tmp 46) (Operand.tmp 47) 3 from rfl) (by rfl) (by rfl)) (by rfl) (by rfl) ?_
    refine Ls.ev (some 49) (Ev.pickT (show Oper.op _ = Op.pick (Operand.tmp 44) (Operand.tmp 48) (Operand.const (Value.bool false)) from rfl) (by rfl) (by rfl)) (by rfl) (by rfl) ?_
    refine Ls.ev (some 4) (Ev.assign (show Oper.op _ = Op.assign (Operand.tmp 49) from rfl) (by rfl)) (by rfl) (by rfl) ?_
    refine Ls.nil ?_
    skip
    refine Cd.ret ?_
    refine Ent.ret (()) (trivial) (Res.tmp (by rfl) (by rfl)) ?_ [] (by rfl) ?_
    · rw [decide_eq_true rfl]
    · rfl
end Go.Proofs.Ytegjoabfoddadaa
