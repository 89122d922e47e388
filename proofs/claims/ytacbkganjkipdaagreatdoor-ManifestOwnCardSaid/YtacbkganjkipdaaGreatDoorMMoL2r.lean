/-
  Texts joined: RfB, RfE, RfH, RfK, RfL, MoI, MoJ, MnX, SlV, MoV, MoK.
-/
import Derived.Test.YtacbkganjkipdaaGreatDoorMMoL2a
import Derived.Test.YtacbkganjkipdaaGreatDoorMMoL2m
import Derived.Test.YtacbkganjkipdaaGreatDoorMMoL2n
import Derived.Test.YtacbkganjkipdaaGreatDoorMMoL2o
import Derived.Test.YtacbkganjkipdaaGreatDoorMMoL2p
import Derived.Test.YtacbkganjkipdaaGreatDoorMMoL2q
import Derived.Sort.Walk0
/- the document's drives over pieces: a file put -/
namespace Go.Proofs.YtacbkganjkipdaaGreatDoor
open Go.RowKit
section
variable {Γ : Ctx} {N : Frm} {P : Program} {E : Env} {H : List Chunk} {o : Oper} {x y : Operand}
end
end Go.Proofs.YtacbkganjkipdaaGreatDoor
/- the document's log over pieces: names and numbers of segments -/
namespace Go.Proofs.YtacbkganjkipdaaGreatDoor
open Go.RowKit
end Go.Proofs.YtacbkganjkipdaaGreatDoor
/- the document's drives over pieces: bytes put behind a file's -/
namespace Go.Proofs.YtacbkganjkipdaaGreatDoor
open Go.RowKit
end Go.Proofs.YtacbkganjkipdaaGreatDoor
/- the document's drives over pieces: a name that no file has -/
namespace Go.Proofs.YtacbkganjkipdaaGreatDoor
open Go.RowKit
end Go.Proofs.YtacbkganjkipdaaGreatDoor
/- all that is told of a drive is the document's -/
namespace Go.Proofs.YtacbkganjkipdaaGreatDoor
open Go.RowKit
theorem bool_f {p : Prop} [Decidable p] (h : ¬ p) : Value.bool (decide p) = Value.bool false := congrArg Value.bool (decide_eq_false h)
end Go.Proofs.YtacbkganjkipdaaGreatDoor
/- versions and edits held against each other; the law's cut -/
namespace Go.Proofs.YtacbkganjkipdaaGreatDoor
open Go.RowKit
theorem stood_tb : Tryz.prog.stoodInHeld 42 = false := by kernel_rfl
theorem guard_tb : Tryz.prog.eqGuardType Tryz.prog.depth 42 = false := by kernel_rfl
theorem fields_tb : fieldRows Tryz.prog 42 = [(true, 3, 0), (true, 3, 1), (true, 9, 2), (true, 9, 3)] := by kernel_rfl
theorem tb_equal (a b : TbP) (w : World) : (Op.equalIn 10000 42 (.agg a.enc.toArray) (.agg b.enc.toArray)).run Tryz.prog w = .ok (decide (a = b)) w := by
  have hd : decide (a = b) = (a.num == b.num && (a.lev == b.lev && ((txt a.fst).toList == (txt b.fst).toList && (txt a.lst).toList == (txt b.lst).toList))) := by
    rw [Bool.eq_iff_iff, decide_eq_true_iff]
    simp only [toList_txt, Bool.and_eq_true, beq_iff_eq]
    constructor
    · rintro rfl
      exact ⟨rfl, rfl, rfl, rfl⟩
    · rintro ⟨h1, h2, h3, h4⟩
      cases a
      cases b
      simp_all
  rw [hd]
  unfold TbP.enc
  rw [run_equal_rows w 9999 42 _ _ (by kernel_rfl) stood_tb fields_tb]
  simp only [eqRows]
  cases h1 : (a.num == b.num) <;> cases h2 : (a.lev == b.lev) <;> cases h3 : ((txt a.fst).toList == (txt b.fst).toList) <;> cases h4 : ((txt a.lst).toList == (txt b.lst).toList) <;>
    simp [go_sem, *]
theorem Ev.neqTb {Γ : Ctx} {N : Frm} {E : Env} {H : List Chunk} {o : Oper} {x y : Operand} {t' : TypeId} (a : TbP) (ho : o.op = .binOp .neq 42 x y t') (hx : E.ev x = some (.agg a.enc.toArray)) (hy : E.ev y = some (.agg a.enc.toArray)) : Ev Γ N Tryz.prog E H o (.bool false) := by
  have : Ev Γ N Tryz.prog E H o (.bool (!decide (a = a))) := .neqG ho hx hy (fun w => run_eqGuard_agg w _ _ _ _ _ _ guard_tb) (fun w => run_neq_of (tb_equal a a w))
  rwa [decide_eq_true rfl] at this
theorem first_sl : Fn Tryz.prog 16 #[] [] Unit (fun _ => .agg #[.slice none 0 0, .int .i64 1, .int .i64 1, .int .i64 0]) (fun _ => []) (fun _ => True) := by
  refine Fn.enter Tryz.func16 rfl Tryz.ntmps16 (by rfl) ?_
  intro w0
  refine Cd.seq ?_
  refine Cd.region ?_
  refine Ls.does (some 0) (Does.alloc (cs := [.slice none 0 0, .int .i64 0, .int .i64 0, .int .i64 0]) rfl (ZeroIs.mk (.agg #[.slice none 0 0, .int .i64 0, .int .i64 0, .int .i64 0]) (by kernel_rfl) (by rfl))) (by rfl) (by rfl) ?_
  intro g1 _
  refine Ls.nil ?_
  refine Cd.seq ?_
  refine Cd.region ?_
  refine Ls.qE 1 (Ev.buildP (pl := [(0, 1), (1, 1), (2, 1), (3, 1)]) (zs := [.slice none 0 0, .int .i64 0, .int .i64 0, .int .i64 0]) rfl (by rfl) (by kernel_rfl) (by rfl)) ?_
  refine Ls.qD (Does.store 0 rfl (by rfl) (by rfl) (by rfl) (by kernel_rfl) (by rfl) (by kernel_rfl) (by rfl)) ?_
  intro _ _
  refine Ls.nil ?_
  refine Cd.ret ?_
  refine Ent.ret (()) (trivial) (Res.cell 0 (by rfl) (by rfl) (by rfl) (n := 4) (by kernel_rfl) (by rfl) (by rfl)) ?_ [] (by rfl) ?_
  · rfl
  · rfl
theorem same_sl (v : VsP) (A B : Option Addr) (c d : Nat) (hn : v.tbs.length ≤ 1000000000) : Fn Tryz.prog 11 #[.agg (v.val A c).toArray, .agg (v.val B d).toArray] [rdT A v.tbs, rdT B v.tbs] Unit (fun _ => .bool true) (fun _ => []) (fun _ => True) := by
  obtain ⟨l, nx, lg, sq⟩ := v
  dsimp only [VsP.val] at hn ⊢
  refine Fn.enter Tryz.func11 rfl Tryz.ntmps11 (by rfl) ?_
  intro w0
  refine Cd.seq ?_
  refine Cd.region ?_
  refine Ls.does (some 2) (Does.box rfl (by rfl)) (by rfl) (by rfl) ?_
  intro g1 _
  refine Ls.does (some 3) (Does.box rfl (by rfl)) (by rfl) (by rfl) ?_
  intro g2 _
  refine Ls.qA 4 ?_
  refine Ls.nil ?_
  refine Cd.seq ?_
  refine Cd.seq ?_
  refine Cd.region ?_
  refine Ls.qF 6 1 ?_
  refine Ls.qL 7 1 ?_
  refine Ls.qF 8 1 ?_
  refine Ls.qL 9 0 ?_
  refine Ls.qE 10 (Ev.to (Ev.neq rfl (by rfl) (by rfl)) (bool_f (fun h => h rfl))) ?_
  refine Ls.qM 11 ?_
  refine Ls.qF 12 2 ?_
  refine Ls.qL 13 1 ?_
  refine Ls.qF 14 2 ?_
  refine Ls.qL 15 0 ?_
  refine Ls.qE 16 (Ev.to (Ev.neq rfl (by rfl) (by rfl)) (bool_f (fun h => h rfl))) ?_
  refine Ls.qN 17 ?_
  refine Ls.qM 18 ?_
  refine Ls.qF 19 3 ?_
  refine Ls.qL 20 1 ?_
  refine Ls.qF 21 3 ?_
  refine Ls.qL 22 0 ?_
  refine Ls.qE 23 (Ev.to (Ev.neq rfl (by rfl) (by rfl)) (bool_f (fun h => h rfl))) ?_
  refine Ls.qN 24 ?_
  refine Ls.qM 25 ?_
  refine Ls.qF 26 0 ?_
  refine Ls.qL 27 1 ?_
  refine Ls.qE 28 (Ev.len rfl (by rfl) Tryz.underlying22) ?_
  refine Ls.qF 29 0 ?_
  refine Ls.qL 30 0 ?_
  refine Ls.qE 31 (Ev.len rfl (by rfl) Tryz.underlying22) ?_
  refine Ls.qE 32 (Ev.to (Ev.neq rfl (by rfl) (by rfl)) (bool_f (fun h => h rfl))) ?_
  refine Ls.qN 33 ?_
  refine Ls.nil ?_
  refine Cd.cond_false (by rfl) (rfl) ?_
  skip
  refine Cd.skip ?_
  refine Cd.seq ?_
  refine Cd.seq ?_
  refine Cd.region ?_
  refine Ls.qF 34 0 ?_
  refine Ls.qL 35 1 ?_
  refine Ls.qE 36 (Ev.len rfl (by rfl) Tryz.underlying22) ?_
  refine Ls.qM 37 ?_
  refine Ls.nil ?_
  refine Cd.block ?_
  refine Ent.pick [1, 0, 2, 3] (by rfl) ?_
  refine Cd.loop (ι := Nat) (fun k => [(2, .pointer (some ⟨g1, 0, none⟩)), (3, .pointer (some ⟨g2, 0, none⟩)), (36, .int .i64 l.length), (37, .int .i64 k)]) (fun _ => [blk g1 24 [.slice A l.length c, .int .i64 nx, .int .i64 lg, .int .i64 sq], blk g2 24 [.slice B l.length d, .int .i64 nx, .int .i64 lg, .int .i64 sq], rdT A l, rdT B l]) (fun k => k ≤ l.length) (fun k => l.length - k) (0) (Nat.zero_le _) ?_ rfl ?_
  · (repeat (first | exact trivial | refine ⟨by rfl, ?_⟩))
  rintro k hk
  refine Cd.seq ?_
  refine Cd.region ?_
  refine Ls.qE 38 (Ev.lss rfl (by rfl) (by rfl)) ?_
  refine Ls.nil ?_
  refine Cd.seq ?_
  refine Cd.cond _ (by rfl) (fun h2 => ?_) (fun h2 => ?_)
  · skip
    have hlt : k < l.length := by have := of_decide_eq_true h2; omega
    obtain ⟨t, ht⟩ := get_of_lt hlt
    refine Ent.rdSome 2 (by rfl) (by omega) (fun ad had => ?_)
    subst had
    refine Ent.rdSome 3 (by rfl) (by omega) (fun bd hbd => ?_)
    subst hbd
    refine Cd.skip ?_
    refine Cd.seq ?_
    refine Cd.block ?_
    refine Cd.seq ?_
    refine Cd.region ?_
    refine Ls.qM 39 ?_
    refine Ls.qA 5 ?_
    refine Ls.nil ?_
    refine Cd.seq ?_
    refine Cd.draw [] (by kernel_rfl) ?_
    refine Rg.qE 0 40 (by rfl) (Ev.fieldAddr (k := 0) rfl (by rfl) (by kernel_rfl) (by rfl)) ?_
    refine Rg.qE 1 41 (by rfl) (Ev.load 0 rfl (by rfl) (by rfl) (by kernel_rfl) (by rfl)) ?_
    refine Rg.qE 2 42 (by rfl) (Ev.move rfl (by rfl)) ?_
    refine Rg.qE 3 43 (by rfl) (Ev.indexAt (sz := 4) rfl (by rfl) (by rfl) Tryz.underlying22 (by kernel_rfl) (by omega)) ?_
    refine Rg.qE 4 44 (by rfl) (Ev.loadEl (enc := TbP.enc) (sz := 4) rfl (by rfl) (ReadsIn.rd 2 (by rfl)) (by kernel_rfl) (fun _ => rfl) ht) ?_
    refine Rg.qE 5 45 (by rfl) (Ev.fieldAddr (k := 0) rfl (by rfl) (by kernel_rfl) (by rfl)) ?_
    refine Rg.qE 6 46 (by rfl) (Ev.load 1 rfl (by rfl) (by rfl) (by kernel_rfl) (by rfl)) ?_
    refine Rg.qE 7 47 (by rfl) (Ev.move rfl (by rfl)) ?_
    refine Rg.qE 8 48 (by rfl) (Ev.indexAt (sz := 4) rfl (by rfl) (by rfl) Tryz.underlying22 (by kernel_rfl) (by omega)) ?_
    refine Rg.qE 9 49 (by rfl) (Ev.loadEl (enc := TbP.enc) (sz := 4) rfl (by rfl) (ReadsIn.rd 3 (by rfl)) (by kernel_rfl) (fun _ => rfl) ht) ?_
    refine Rg.qE 10 50 (by rfl) (Ev.neqTb t rfl (by rfl) (by rfl)) ?_
    refine Rg.done (by kernel_rfl) ?_ _
    refine Cd.cond_false (by rfl) (rfl) ?_
    refine Cd.skip ?_
    refine Cd.region ?_
    refine Ls.qE 51 (Ev.addN (b := 1) rfl (by rfl) (by rfl) (by omega)) ?_
    refine Ls.qM 37 ?_
    refine Ls.nil ?_
    refine Ent.inv (k + 1) ?_ ?_ ?_
    · (try dsimp only); exact ⟨hlt, by omega⟩
    · (repeat (first | exact trivial | refine ⟨by rfl, ?_⟩ | refine ⟨by simp only [List.length_append, List.length_cons, List.length_nil]; rfl, ?_⟩ | refine ⟨by push_cast; rfl, ?_⟩))
    · rfl
  · skip
    refine Cd.exit ?_
    refine Cd.seq ?_
    refine Cd.region ?_
    refine Ls.qA 4 ?_
    refine Ls.nil ?_
    refine Cd.ret ?_
    refine Ent.ret (()) (trivial) (Res.tmp (by rfl) (by rfl)) ?_ [] (by rfl) ?_
    · rfl
    · rfl
theorem rints_sl (A B : Option Addr) (c d : Nat) (l : List Int) (hn : l.length ≤ 1000000000) : Fn Tryz.prog 58 #[.slice A l.length c, .slice B l.length d] [rd A l.length 1 (ints l), rd B l.length 1 (ints l)] Unit (fun _ => .bool true) (fun _ => []) (fun _ => True) := by
  refine Fn.enter Tryz.func58 rfl Tryz.ntmps58 (by rfl) ?_
  intro w0
  refine Cd.seq ?_
  refine Cd.region ?_
  refine Ls.qA 4 ?_
  refine Ls.nil ?_
  refine Cd.seq ?_
  refine Cd.seq ?_
  refine Cd.region ?_
  refine Ls.qM 6 ?_
  refine Ls.qE 7 (Ev.len rfl (by rfl) Tryz.underlying25) ?_
  refine Ls.qM 8 ?_
  refine Ls.qE 9 (Ev.len rfl (by rfl) Tryz.underlying25) ?_
  refine Ls.qE 10 (Ev.to (Ev.neq rfl (by rfl) (by rfl)) (bool_f (fun h => h rfl))) ?_
  refine Ls.nil ?_
  refine Cd.cond_false (by rfl) (rfl) ?_
  skip
  refine Cd.skip ?_
  refine Cd.seq ?_
  refine Cd.seq ?_
  refine Cd.region ?_
  refine Ls.qM 11 ?_
  refine Ls.qE 12 (Ev.len rfl (by rfl) Tryz.underlying25) ?_
  refine Ls.qM 13 ?_
  refine Ls.nil ?_
  refine Cd.block ?_
  refine Cd.loop (ι := Nat) (fun k => [(0, .slice A l.length c), (1, .slice B l.length d), (12, .int .i64 l.length), (13, .int .i64 k)]) (fun _ => [rd A l.length 1 (ints l), rd B l.length 1 (ints l)]) (fun k => k ≤ l.length) (fun k => l.length - k) (0) (Nat.zero_le _) ?_ rfl ?_
  · (repeat (first | exact trivial | refine ⟨by rfl, ?_⟩))
  rintro k hk
  refine Cd.seq ?_
  refine Cd.region ?_
  refine Ls.qE 14 (Ev.lss rfl (by rfl) (by rfl)) ?_
  refine Ls.nil ?_
  refine Cd.seq ?_
  refine Cd.cond _ (by rfl) (fun h2 => ?_) (fun h2 => ?_)
  · skip
    have hlt : k < l.length := by have := of_decide_eq_true h2; omega
    obtain ⟨t, ht⟩ := get_of_lt hlt
    refine Ent.rdSome 0 (by rfl) (by omega) (fun ad had => ?_)
    subst had
    refine Ent.rdSome 1 (by rfl) (by omega) (fun bd hbd => ?_)
    subst hbd
    refine Cd.skip ?_
    refine Cd.seq ?_
    refine Cd.block ?_
    refine Cd.seq ?_
    refine Cd.region ?_
    refine Ls.qM 15 ?_
    refine Ls.qA 5 ?_
    refine Ls.nil ?_
    refine Cd.seq ?_
    refine Cd.draw [] (by kernel_rfl) ?_
    refine Rg.qE 0 16 (by rfl) (Ev.move rfl (by rfl)) ?_
    refine Rg.qE 1 17 (by rfl) (Ev.move rfl (by rfl)) ?_
    refine Rg.qE 2 18 (by rfl) (Ev.indexAt (sz := 1) rfl (by rfl) (by rfl) Tryz.underlying25 (by kernel_rfl) (by omega)) ?_
    refine Rg.qE 3 19 (by rfl) (Ev.loadInt rfl (by rfl) (ReadsIn.rd 0 (by rfl)) (by kernel_rfl) ht) ?_
    refine Rg.qE 4 20 (by rfl) (Ev.move rfl (by rfl)) ?_
    refine Rg.qE 5 21 (by rfl) (Ev.move rfl (by rfl)) ?_
    refine Rg.qE 6 22 (by rfl) (Ev.indexAt (sz := 1) rfl (by rfl) (by rfl) Tryz.underlying25 (by kernel_rfl) (by omega)) ?_
    refine Rg.qE 7 23 (by rfl) (Ev.loadInt rfl (by rfl) (ReadsIn.rd 1 (by rfl)) (by kernel_rfl) ht) ?_
    refine Rg.qE 8 24 (by rfl) (Ev.to (Ev.neq rfl (by rfl) (by rfl)) (bool_f (fun h => h rfl))) ?_
    refine Rg.done (by kernel_rfl) ?_ _
    refine Cd.cond_false (by rfl) (rfl) ?_
    refine Cd.skip ?_
    refine Cd.region ?_
    refine Ls.qE 25 (Ev.addN (b := 1) rfl (by rfl) (by rfl) (by omega)) ?_
    refine Ls.qM 13 ?_
    refine Ls.nil ?_
    refine Ent.inv (k + 1) ?_ ?_ ?_
    · (try dsimp only); exact ⟨hlt, by omega⟩
    · (repeat (first | exact trivial | refine ⟨by rfl, ?_⟩ | refine ⟨by simp only [List.length_append, List.length_cons, List.length_nil]; rfl, ?_⟩ | refine ⟨by push_cast; rfl, ?_⟩))
    · rfl
  · skip
    refine Cd.exit ?_
    refine Cd.seq ?_
    refine Cd.region ?_
    refine Ls.qA 4 ?_
    refine Ls.nil ?_
    refine Cd.ret ?_
    refine Ent.ret (()) (trivial) (Res.tmp (by rfl) (by rfl)) ?_ [] (by rfl) ?_
    · rfl
    · rfl
theorem sameE_sl (e : EdP) (A B C D : Option Addr) (a b c d : Nat) (hn : e.add.length ≤ 1000000000) (hd : e.drop.length ≤ 1000000000) : Fn Tryz.prog 15 #[.agg (e.val A a B b).toArray, .agg (e.val C c D d).toArray] [rdT A e.add, rd B e.drop.length 1 (ints e.drop), rdT C e.add, rd D e.drop.length 1 (ints e.drop)] Unit (fun _ => .bool true) (fun _ => []) (fun _ => True) := by
  obtain ⟨l, dr, nx, lg, sq⟩ := e
  dsimp only [EdP.val] at hn hd ⊢
  refine Fn.enter Tryz.func15 rfl Tryz.ntmps15 (by rfl) ?_
  intro w0
  refine Cd.seq ?_
  refine Cd.region ?_
  refine Ls.does (some 2) (Does.box rfl (by rfl)) (by rfl) (by rfl) ?_
  intro g1 _
  refine Ls.does (some 3) (Does.box rfl (by rfl)) (by rfl) (by rfl) ?_
  intro g2 _
  refine Ls.qA 4 ?_
  refine Ls.nil ?_
  refine Cd.seq ?_
  refine Cd.seq ?_
  refine Cd.region ?_
  refine Ls.qF 6 2 ?_
  refine Ls.qL 7 1 ?_
  refine Ls.qF 8 2 ?_
  refine Ls.qL 9 0 ?_
  refine Ls.qE 10 (Ev.to (Ev.neq rfl (by rfl) (by rfl)) (bool_f (fun h => h rfl))) ?_
  refine Ls.qM 11 ?_
  refine Ls.qF 12 3 ?_
  refine Ls.qL 13 1 ?_
  refine Ls.qF 14 3 ?_
  refine Ls.qL 15 0 ?_
  refine Ls.qE 16 (Ev.to (Ev.neq rfl (by rfl) (by rfl)) (bool_f (fun h => h rfl))) ?_
  refine Ls.qN 17 ?_
  refine Ls.qM 18 ?_
  refine Ls.qF 19 4 ?_
  refine Ls.qL 20 1 ?_
  refine Ls.qF 21 4 ?_
  refine Ls.qL 22 0 ?_
  refine Ls.qE 23 (Ev.to (Ev.neq rfl (by rfl) (by rfl)) (bool_f (fun h => h rfl))) ?_
  refine Ls.qN 24 ?_
  refine Ls.qM 25 ?_
  refine Ls.qF 26 0 ?_
  refine Ls.qL 27 1 ?_
  refine Ls.qE 28 (Ev.len rfl (by rfl) Tryz.underlying22) ?_
  refine Ls.qF 29 0 ?_
  refine Ls.qL 30 0 ?_
  refine Ls.qE 31 (Ev.len rfl (by rfl) Tryz.underlying22) ?_
  refine Ls.qE 32 (Ev.to (Ev.neq rfl (by rfl) (by rfl)) (bool_f (fun h => h rfl))) ?_
  refine Ls.qN 33 ?_
  refine Ls.qM 34 ?_
  refine Ls.qF 35 1 ?_
  refine Ls.qL 36 1 ?_
  refine Ls.qF 37 1 ?_
  refine Ls.qL 38 0 ?_
  refine Ls.does (some 39) (Does.read rfl Tryz.func58 (by kernel_rfl) (by kernel_rfl) (rints_sl B D b d dr hd) (by rfl) (by rfl) ⟨ReadsIn.rd 3 (by rfl), ReadsIn.rd 5 (by rfl), trivial⟩) (by rfl) (by rfl) ?_
  rintro _ -
  refine Ls.qE 40 (Ev.not rfl (by rfl)) ?_
  refine Ls.qN 41 ?_
  refine Ls.nil ?_
  refine Cd.cond_false (by rfl) (rfl) ?_
  skip
  refine Cd.skip ?_
  refine Cd.seq ?_
  refine Cd.seq ?_
  refine Cd.region ?_
  refine Ls.qF 42 0 ?_
  refine Ls.qL 43 1 ?_
  refine Ls.qE 44 (Ev.len rfl (by rfl) Tryz.underlying22) ?_
  refine Ls.qM 45 ?_
  refine Ls.nil ?_
  refine Cd.block ?_
  refine Ent.pick [1, 0, 2, 4] (by rfl) ?_
  refine Cd.loop (ι := Nat) (fun k => [(2, .pointer (some ⟨g1, 0, none⟩)), (3, .pointer (some ⟨g2, 0, none⟩)), (44, .int .i64 l.length), (45, .int .i64 k)]) (fun _ => [blk g1 27 [.slice A l.length a, .slice B dr.length b, .int .i64 nx, .int .i64 lg, .int .i64 sq], blk g2 27 [.slice C l.length c, .slice D dr.length d, .int .i64 nx, .int .i64 lg, .int .i64 sq], rdT A l, rdT C l]) (fun k => k ≤ l.length) (fun k => l.length - k) (0) (Nat.zero_le _) ?_ rfl ?_
  · (repeat (first | exact trivial | refine ⟨by rfl, ?_⟩))
  rintro k hk
  refine Cd.seq ?_
  refine Cd.region ?_
  refine Ls.qE 46 (Ev.lss rfl (by rfl) (by rfl)) ?_
  refine Ls.nil ?_
  refine Cd.seq ?_
  refine Cd.cond _ (by rfl) (fun h2 => ?_) (fun h2 => ?_)
  · skip
    have hlt : k < l.length := by have := of_decide_eq_true h2; omega
    obtain ⟨t, ht⟩ := get_of_lt hlt
    refine Ent.rdSome 2 (by rfl) (by omega) (fun ad had => ?_)
    subst had
    refine Ent.rdSome 3 (by rfl) (by omega) (fun bd hbd => ?_)
    subst hbd
    refine Cd.skip ?_
    refine Cd.seq ?_
    refine Cd.block ?_
    refine Cd.seq ?_
    refine Cd.region ?_
    refine Ls.qM 47 ?_
    refine Ls.qA 5 ?_
    refine Ls.nil ?_
    refine Cd.seq ?_
    refine Cd.draw [] (by kernel_rfl) ?_
    refine Rg.qE 0 48 (by rfl) (Ev.fieldAddr (k := 0) rfl (by rfl) (by kernel_rfl) (by rfl)) ?_
    refine Rg.qE 1 49 (by rfl) (Ev.load 0 rfl (by rfl) (by rfl) (by kernel_rfl) (by rfl)) ?_
    refine Rg.qE 2 50 (by rfl) (Ev.move rfl (by rfl)) ?_
    refine Rg.qE 3 51 (by rfl) (Ev.indexAt (sz := 4) rfl (by rfl) (by rfl) Tryz.underlying22 (by kernel_rfl) (by omega)) ?_
    refine Rg.qE 4 52 (by rfl) (Ev.loadEl (enc := TbP.enc) (sz := 4) rfl (by rfl) (ReadsIn.rd 2 (by rfl)) (by kernel_rfl) (fun _ => rfl) ht) ?_
    refine Rg.qE 5 53 (by rfl) (Ev.fieldAddr (k := 0) rfl (by rfl) (by kernel_rfl) (by rfl)) ?_
    refine Rg.qE 6 54 (by rfl) (Ev.load 1 rfl (by rfl) (by rfl) (by kernel_rfl) (by rfl)) ?_
    refine Rg.qE 7 55 (by rfl) (Ev.move rfl (by rfl)) ?_
    refine Rg.qE 8 56 (by rfl) (Ev.indexAt (sz := 4) rfl (by rfl) (by rfl) Tryz.underlying22 (by kernel_rfl) (by omega)) ?_
    refine Rg.qE 9 57 (by rfl) (Ev.loadEl (enc := TbP.enc) (sz := 4) rfl (by rfl) (ReadsIn.rd 3 (by rfl)) (by kernel_rfl) (fun _ => rfl) ht) ?_
    refine Rg.qE 10 58 (by rfl) (Ev.neqTb t rfl (by rfl) (by rfl)) ?_
    refine Rg.done (by kernel_rfl) ?_ _
    refine Cd.cond_false (by rfl) (rfl) ?_
    refine Cd.skip ?_
    refine Cd.region ?_
    refine Ls.qE 59 (Ev.addN (b := 1) rfl (by rfl) (by rfl) (by omega)) ?_
    refine Ls.qM 45 ?_
    refine Ls.nil ?_
    refine Ent.inv (k + 1) ?_ ?_ ?_
    · (try dsimp only); exact ⟨hlt, by omega⟩
    · (repeat (first | exact trivial | refine ⟨by rfl, ?_⟩ | refine ⟨by simp only [List.length_append, List.length_cons, List.length_nil]; rfl, ?_⟩ | refine ⟨by push_cast; rfl, ?_⟩))
    · rfl
  · skip
    refine Cd.exit ?_
    refine Cd.seq ?_
    refine Cd.region ?_
    refine Ls.qA 4 ?_
    refine Ls.nil ?_
    refine Cd.ret ?_
    refine Ent.ret (()) (trivial) (Res.tmp (by rfl) (by rfl)) ?_ [] (by rfl) ?_
    · rfl
    · rfl
theorem reads_front {Γ : Ctx} {H : List Chunk} {A : Option Addr} {n sz k : Nat} {xs : List Value} (i : Nat) (hi : H[i]? = some (rd A n sz xs)) (hk : k ≤ n) : ReadsIn Γ H sz A k (xs.take (k * sz)) := fun w hs => by
  have h : Reads w w.heap.size sz A n xs := hs.mem hi
  exact h.take hk
/-- The law's cut. -/
def cutE (e : EdP) : EdP := { e with add := e.add.take 60, drop := e.drop.take 200 }
theorem cutlaw_sl (e : EdP) (A B : Option Addr) (a b : Nat) (hn : e.add.length ≤ a ∧ a ≤ maxLen) (hd : e.drop.length ≤ b ∧ b ≤ maxLen) : Fn Tryz.prog 8 #[.agg (e.val A a B b).toArray] [rdT A e.add, rd B e.drop.length 1 (ints e.drop)] ((Option Addr × Nat) × (Option Addr × Nat)) (fun p => .agg ((cutE e).val p.1.1 p.1.2 p.2.1 p.2.2).toArray) (fun p => [rowTb p.1.1 (cutE e).add.length p.1.2 (cutE e).add, rowI p.2.1 (cutE e).drop.length p.2.2 (cutE e).drop]) (fun _ => True) := by
  have hmx1 : e.add.length ≤ 9223372036854775807 := by have := hn.1; have := hn.2; unfold maxLen at this; omega
  obtain ⟨l, dr, nx, lg, sq⟩ := e
  dsimp only [EdP.val, cutE] at hn hd hmx1 ⊢
  refine Fn.enter Tryz.func8 rfl Tryz.ntmps8 (by rfl) ?_
  intro w0
  skip
  refine Cd.seq ?_
  refine Cd.region ?_
  refine Ls.does (some 1) (Does.box rfl (by rfl)) (by rfl) (by rfl) ?_
  intro g1 _
  refine Ls.does (some 2) (Does.alloc (cs := [.slice none 0 0, .slice none 0 0, .int .i64 0, .int .i64 0, .int .i64 0]) rfl (ZeroIs.mk (.agg #[.slice none 0 0, .slice none 0 0, .int .i64 0, .int .i64 0, .int .i64 0]) (by kernel_rfl) (by rfl))) (by rfl) (by rfl) ?_
  intro g2 _
  refine Ls.nil ?_
  refine Cd.seq ?_
  refine Cd.region ?_
  refine Ls.does (some 3) (Does.lit0 (sz := 4) rfl Tryz.underlying22 (by kernel_rfl)) (by rfl) (by rfl) ?_
  intro g3 _
  refine Ls.qF 4 0 ?_
  refine Ls.qL 5 2 ?_
  refine Ls.qF 6 0 ?_
  refine Ls.qL 7 2 ?_
  refine Ls.qE 8 (Ev.len rfl (by rfl) Tryz.underlying22) ?_
  refine Ls.qE 9 (Ev.minN (m := min l.length 60) rfl (by rfl) (by rfl) rfl) ?_
  obtain ⟨m, hm⟩ : ∃ m, m = min l.length 60 := ⟨_, rfl⟩
  have hml : (l.take 60).length = m := by rw [List.length_take, hm]; omega
  have hmt : tbs (l.take 60) = (tbs l).take (m * 4) := by
    rw [tbs_take, hm]
    congr 1
    rcases Nat.le_total l.length 60 with h | h
    · rw [Nat.min_eq_left h, List.take_of_length_le h, List.take_length]
    · rw [Nat.min_eq_right h]
  rw [← hm]
  refine Ls.qE 10 (Ev.sliceHn (h := m) (sz := 4) rfl (by rfl) (by rfl) Tryz.underlying22 (by kernel_rfl) (by omega)) ?_
  refine Ls.does (some 11) (Does.app (xs := []) (news := (tbs l).take (m * 4)) 0 rfl (by rfl) (by rfl) (by rfl) (reads_front 3 (by rfl) (by omega)) elem_tb (by rw [← hmt]; exact one_tb _) (show (0 + m) * 48 ≤ 140737488355328 by omega)) (by rfl) (by rfl) ?_
  rintro ⟨qA, qc⟩ -
  have hr1 : row qA (0 + m) qc 42 4 ([] ++ (tbs l).take (m * 4)) = rowTb qA (l.take 60).length qc (l.take 60) := by
    rw [List.nil_append, ← hmt, Nat.zero_add, hml]
  refine Ls.qF 12 0 ?_
  refine Ls.qD (Does.store 2 rfl (by rfl) (by rfl) (by rfl) (by kernel_rfl) (by rfl) (by kernel_rfl) (by rfl)) ?_
  intro _ _
  refine Ls.nil ?_
  refine Cd.seq ?_
  refine Cd.region ?_
  refine Ls.does (some 13) (Does.lit0 (sz := 1) rfl Tryz.underlying25 (by kernel_rfl)) (by rfl) (by rfl) ?_
  intro g4 _
  refine Ls.qF 14 1 ?_
  refine Ls.qL 15 3 ?_
  refine Ls.qF 16 1 ?_
  refine Ls.qL 17 3 ?_
  refine Ls.qE 18 (Ev.len rfl (by rfl) Tryz.underlying25) ?_
  obtain ⟨m2, hm2⟩ : ∃ m2, min dr.length 200 = m2 := ⟨_, rfl⟩
  have hml2 : (dr.take 200).length = m2 := by rw [List.length_take, ← hm2]; omega
  have hmt2 : ints (dr.take 200) = (ints dr).take (m2 * 1) := by
    unfold ints
    rw [← List.map_take, ← hm2, Nat.mul_one]
    congr 1
    rcases Nat.le_total dr.length 200 with h | h
    · rw [Nat.min_eq_left h, List.take_of_length_le h, List.take_length]
    · rw [Nat.min_eq_right h]
  refine Ls.qE 19 (Ev.minN rfl (by rfl) (by rfl) hm2) ?_
  refine Ls.qE 20 (Ev.sliceHn (h := m2) (sz := 1) rfl (by rfl) (by rfl) Tryz.underlying25 (by kernel_rfl) (by omega)) ?_
  refine Ls.does (some 21) (Does.app (xs := []) (news := (ints dr).take (m2 * 1)) 0 rfl (by rfl) (by rfl) (by rfl) (reads_front 5 (by rfl) (by omega)) elem_int (by rw [← hmt2]; exact one_ints _) (show (0 + m2) * 8 ≤ 140737488355328 by omega)) (by rfl) (by rfl) ?_
  rintro ⟨rA, rc⟩ -
  have hr2 : row rA (0 + m2) rc 3 1 ([] ++ (ints dr).take (m2 * 1)) = rowI rA (dr.take 200).length rc (dr.take 200) := by
    dsimp only [rowI]
    rw [List.nil_append, ← hmt2, Nat.zero_add, hml2]
  refine Ls.qF 22 1 ?_
  refine Ls.qD (Does.store 3 rfl (by rfl) (by rfl) (by rfl) (by kernel_rfl) (by rfl) (by kernel_rfl) (by rfl)) ?_
  intro _ _
  refine Ls.nil ?_
  refine Cd.seq ?_
  refine Cd.region ?_
  refine Ls.qE 23 (Ev.loads 3 rfl (by rfl) (by rfl) (n := 5) (by kernel_rfl) (by rfl) (by rfl)) ?_
  refine Ls.qD (Does.store 2 rfl (by rfl) (by rfl) (by rfl) (by kernel_rfl) (by rfl) (by kernel_rfl) (by rfl)) ?_
  intro _ _
  refine Ls.nil ?_
  refine Cd.ret ?_
  refine Ent.ret (((qA, qc), (rA, rc))) (trivial) (Res.cell 2 (by rfl) (by rfl) (by rfl) (n := 5) (by kernel_rfl) (by rfl) (by rfl)) ?_ [1, 0] (by rfl) ?_
  · dsimp only
    rw [hml, hml2]
    simp only [Nat.zero_add]
    rfl
  · dsimp only
    rw [← hr1, ← hr2]
    rfl
end Go.Proofs.YtacbkganjkipdaaGreatDoor
/- the document's example -/
namespace Go.Proofs.YtacbkganjkipdaaGreatDoor
open Go.RowKit
def awT : TbP := ⟨1, 0, [97], [99]⟩
def awE (n : Int) : EdP := ⟨[awT], [], n, 0, 0⟩
def awV : VsP := ⟨[awT], 2, 1, 0⟩
theorem open_new : openP DrP.new = ⟨firstV, 1, false, false⟩ := by
  have hb : ∀ q, DrP.new.bytes q = [] := fun q => rfl
  have hn : nowP DrP.new = [] := by
    unfold nowP
    rw [hb, numK_nil, if_pos (.inl rfl)]
  unfold openP
  rw [hn, hb, show (scanF []).1 = [] from rfl]
  rfl
theorem aw_out (n : Int) (hn : 0 ≤ n) : outP firstV (awE n) = ⟨[awT], max 1 n, 1, 0⟩ := by
  unfold outP
  have h1 : keptT firstV (awE n).drop = [] := rfl
  rw [h1]
  have h2 : sortT ([] ++ (awE n).add) = [awT] := by
    unfold sortT
    simp [awE]
  rw [h2]
  rfl
theorem awV_good : goodP awV := by
  refine ⟨⟨by decide, by decide, by decide, by decide⟩, fun i t h => ?_⟩
  match i, h with
  | 0, h =>
    obtain rfl : awT = t := Option.some.inj h
    exact ⟨⟨.inl rfl, by decide, by decide, by decide, by decide, by decide, by decide⟩, fun j u hj => absurd hj (Nat.not_lt_zero _), fun u h => absurd h (by decide)⟩
  | i + 1, h => simp [awV] at h
theorem aw_no : ¬ FitOk firstV (awE 0) := fun h => by
  have hg := h.out
  rw [aw_out 0 (by decide)] at hg
  have := (hg.tab awT List.mem_cons_self).next
  revert this
  decide
theorem aw_yes : FitOk firstV (awE 2) := by
  refine ⟨firstV_good, ⟨by decide, by decide, by decide⟩, DropOk.nil _, ?_⟩
  rw [aw_out 2 (by decide)]
  exact awV_good
theorem aw_in (n : Int) (hn : 0 ≤ n ∧ n ≤ 100) : EdIn (awE n) where
  add := show 1 ≤ 10000000 by decide
  drl := show 0 ≤ 1000000000 by decide
  fine := fun t ht => by
    rw [List.mem_singleton.1 ht]
    exact ⟨by decide, by decide, by decide, by decide⟩
  ints := fun x hx => absurd hx List.not_mem_nil
  nx := ⟨show (-9223372036854775808 : Int) ≤ n by omega, show n ≤ 9223372036854775807 by omega⟩
  lg := ⟨show (-9223372036854775808 : Int) ≤ 0 by decide, show (0 : Int) ≤ 9223372036854775807 by decide⟩
  sq := ⟨show (-9223372036854775808 : Int) ≤ 0 by decide, show (0 : Int) ≤ 9223372036854775807 by decide⟩
theorem aw_short : (edB (awE 2)).length ≤ 4096 := by
  have h1 := uintL_len64 (n := 0) (by decide)
  have h2 := uintL_len64 (n := 0 + 1) (by decide)
  have h4 := uintL_len64 (n := (2 : Int).toNat) (by decide)
  have h3 := tabB_le (t := awT) ⟨by decide, by decide, by decide, by decide⟩
  unfold edB awE
  simp only [List.length_append, List.flatMap_nil, List.flatMap_cons, List.length_nil, List.length_cons]
  have e0 : (0 : Int).toNat = 0 := rfl
  rw [e0]
  omega
abbrev awL : List UInt8 := nameK kMan 1
/-- A new drive, and bytes that are made the current log. -/
theorem run_new (b : List UInt8) (h0 : b ≠ []) (hb : b.length ≤ 262144) : (runP (swapL DrP.new awL b) DrP.new).2 = 0 ∧ 0 < ((runP (swapL DrP.new awL b) DrP.new).1.bytes awL).length := by
  have hg : Good awL := kMan_good 1
  have hs : swapL DrP.new awL b = [fun P => P.append awL b, fun P => P.sync awL, fun P => P.append qTmp awL, fun P => P.sync qTmp, fun P => P.rename qTmp qCur] := rfl
  rw [hs]
  have hbl : 0 < b.length := List.length_pos_iff.2 h0
  obtain ⟨s1, hs1⟩ : ∃ s1, s1 = DrP.new.step.steps := ⟨_, rfl⟩
  have e1 : DrP.new.append awL b = (⟨[⟨awL, b, 0⟩], s1, none⟩, 0) := by
    unfold DrP.append
    rw [if_neg (fun k => k hg), if_neg (fun k => k.elim (fun k => absurd k.2 (by decide)) fun k => (by
      have : (DrP.new.bytes awL).length = 0 := rfl
      omega)), if_neg (show ¬ DrP.new.dead = true by decide), hs1]
    rfl
  have e2 : (⟨[⟨awL, b, 0⟩], s1, none⟩ : DrP).sync awL = (⟨[⟨awL, b, b.length⟩], IntKind.i64.wrap (s1 + 1), none⟩, 0) := rfl
  generalize IntKind.i64.wrap (s1 + 1) = s2 at e2
  have e3 : (⟨[⟨awL, b, b.length⟩], s2, none⟩ : DrP).append qTmp awL = (⟨[⟨qTmp, awL, 0⟩, ⟨awL, b, b.length⟩], IntKind.i64.wrap (s2 + 1), none⟩, 0) := rfl
  generalize IntKind.i64.wrap (s2 + 1) = s3 at e3
  have e4 : (⟨[⟨qTmp, awL, 0⟩, ⟨awL, b, b.length⟩], s3, none⟩ : DrP).sync qTmp = (⟨[⟨qTmp, awL, 15⟩, ⟨awL, b, b.length⟩], IntKind.i64.wrap (s3 + 1), none⟩, 0) := rfl
  generalize IntKind.i64.wrap (s3 + 1) = s4 at e4
  have e5 : (⟨[⟨qTmp, awL, 15⟩, ⟨awL, b, b.length⟩], s4, none⟩ : DrP).rename qTmp qCur = (⟨[⟨qCur, awL, 15⟩, ⟨awL, b, b.length⟩], IntKind.i64.wrap (s4 + 1), none⟩, 0) := rfl
  simp only [runP, e1, e2, e3, e4, e5]
  exact ⟨rfl, hbl⟩
theorem snap_ne {v : VsP} : snapB v ≠ [] := by
  unfold snapB snapE
  rw [List.flatMap_cons]
  intro h
  have h1 := (List.append_eq_nil_iff.1 h).1
  have h2 := congrArg List.length h1
  rw [sealL_length] at h2
  simp at h2
theorem aw_snap : (snapB awV).length ≤ 262144 := by
  have h1 := flat_le (g := fun e => sealL (edB e)) (b := 4110) (l := snapE awV) (fun e he => sealL_le (snap_enc awV_good he).2.2)
  exact Nat.le_trans h1 (by decide)
/-- The example's second change. -/
theorem aw_chg : ∃ Q, chgP DrP.new ⟨firstV, 1, false, false⟩ (awE 2) = (Q, ⟨awV, 1, true, false⟩, 0) ∧ 0 < (Q.bytes awL).length := by
  obtain ⟨h1, h2⟩ := run_new (snapB awV) snap_ne aw_snap
  refine ⟨(runP (swapL DrP.new awL (snapB awV)) DrP.new).1, ?_, h2⟩
  have ho := aw_out 2 (by decide)
  have hv : (⟨[awT], max 1 2, 1, 0⟩ : VsP) = awV := rfl
  rw [hv] at ho
  have hs := aw_short
  unfold chgP
  rw [if_neg (fun k => k aw_yes), if_neg (by omega), if_neg (by decide), if_neg (by decide)]
  dsimp only
  rw [if_neg Bool.false_ne_true, ho, if_neg (fun k => k h1)]
theorem Sat.rdNilT {Γ : Ctx} {H : List Chunk} {w : World} (h : Sat Γ H w) : Sat Γ (rdT none [] :: H) w :=
  h.free rfl (fun k hk => absurd hk.1 (Nat.lt_irrefl 0)) ⟨rfl, fun hn => absurd hn (Nat.lt_irrefl 0)⟩
set_option maxHeartbeats 4000000 in
theorem awake_sl : Fn Tryz.prog 7 #[] [laidC] Unit (fun _ => .bool true) (fun _ => []) (fun _ => True) := by
  obtain ⟨Q, hQ, hQb⟩ := aw_chg
  refine Fn.enter Tryz.func7 rfl Tryz.ntmps7 (by rfl) ?_
  intro w0
  refine Cd.seq ?_
  refine Cd.region ?_
  refine Ls.qA 0 ?_
  refine Ls.nil ?_
  refine Cd.seq ?_
  refine Cd.region ?_
  refine Ls.does (some 4) (Does.call [0] rfl Tryz.func12 (by kernel_rfl) (by kernel_rfl) (new_sl) (by rfl) (by rfl) (by rfl)) (by rfl) (by rfl) ?_
  rintro D hD
  refine Ls.qA 1 ?_
  refine Ls.nil ?_
  refine Cd.seq ?_
  refine Cd.seq ?_
  refine Cd.region ?_
  refine Ls.qM 5 ?_
  refine Ls.qE 6 (Ev.ptrNil rfl (by rfl) (by rfl) Tryz.underlying37) ?_
  refine Ls.nil ?_
  refine Cd.cond_false (by rfl) (rfl) ?_
  refine Cd.skip ?_
  refine Cd.seq ?_
  refine Cd.region ?_
  refine Ls.qM 7 ?_
  have hop := mopen_sl hD
  rw [open_new] at hop
  refine Ls.does (some 8) (Does.readN rfl Tryz.func13 (by kernel_rfl) (by kernel_rfl) (hop) (by rfl) (by rfl) ⟨blkIn 0 (by rfl), mapIn 1 (by rfl), filIn 2 (by rfl), laidIn 3 (by rfl), trivial⟩ (fun _ => by rfl)) (by rfl) (by rfl) ?_
  rintro ⟨g, ⟨A, c⟩⟩ -
  dsimp only
  refine Ls.qA 2 ?_
  refine Ls.nil ?_
  refine Cd.seq ?_
  refine Cd.seq ?_
  refine Cd.region ?_
  refine Ls.qM 9 ?_
  refine Ls.qE 10 (Ev.ptrNil rfl (by rfl) (by rfl) Tryz.underlying39) ?_
  refine Ls.qM 11 ?_
  refine Ent.known 11 false (by rfl) (by exact (rfl)) ?_
  refine Ls.qM 12 ?_
  skip
  refine Ls.does (some 13) (Does.readN rfl Tryz.func17 (by kernel_rfl) (by kernel_rfl) (mversion_sl g D.d A c ⟨firstV, 1, false, false⟩ (by decide)) (by rfl) (by rfl) ⟨blkIn 0 (by rfl), ReadsIn.row 1 (by rfl), trivial⟩ (fun _ => by rfl)) (by rfl) (by rfl) ?_
  rintro ⟨qA, qc⟩ -
  skip
  refine Ls.does (some 14) (Does.read rfl Tryz.func16 (by kernel_rfl) (by kernel_rfl) (first_sl) (by rfl) (by rfl) trivial) (by rfl) (by rfl) ?_
  rintro _ -
  refine Ent.map (fun w hs => hs.rdNilT) ?_
  skip
  refine Ls.does (some 15) (Does.read rfl Tryz.func11 (by kernel_rfl) (by kernel_rfl) (same_sl firstV qA none qc 0 (by decide)) (by rfl) (by rfl) ⟨ReadsIn.row 1 (by rfl), ReadsIn.rd 0 (by rfl), trivial⟩) (by rfl) (by rfl) ?_
  rintro _ -
  refine Ls.qE 16 (Ev.not rfl (by rfl)) ?_
  refine Ls.qN 17 ?_
  refine Ls.qM 18 ?_
  refine Ent.known 18 false (by rfl) (by exact (rfl)) ?_
  refine Ls.qM 19 ?_
  skip
  refine Ls.does (some 20) (Does.read rfl Tryz.func26 (by kernel_rfl) (by kernel_rfl) (steps_sl hD) (by rfl) (by rfl) ⟨blkIn 4 (by rfl), trivial⟩) (by rfl) (by rfl) ?_
  rintro _ -
  refine Ls.qE 21 (Ev.neq rfl (by rfl) (by rfl)) ?_
  refine Ls.qN 22 ?_
  refine Ls.nil ?_
  refine Cd.cond_false (by rfl) (decide_eq_false (show ¬ (DrP.new.steps ≠ 0) from fun h => h rfl)) ?_
  refine Cd.skip ?_
  refine Cd.seq ?_
  refine Cd.region ?_
  refine Ls.qE 23 (Ev.buildP (pl := [(0, 1), (1, 1), (2, 1), (3, 1)]) (zs := [.int .i64 0, .int .i64 0, .string ⟨#[]⟩, .string ⟨#[]⟩]) rfl (by rfl) (by kernel_rfl) (by rfl)) ?_
  refine Ls.does (some 3) (Does.alloc (cs := [.int .i64 0, .int .i64 0, .string ⟨#[]⟩, .string ⟨#[]⟩]) rfl (ZeroIs.mk (.agg #[.int .i64 0, .int .i64 0, .string ⟨#[]⟩, .string ⟨#[]⟩]) (by kernel_rfl) (by rfl))) (by rfl) (by rfl) ?_
  intro g1 _
  refine Ls.qD (Does.store 0 rfl (by rfl) (by rfl) (by rfl) (by kernel_rfl) (by rfl) (by kernel_rfl) (by rfl)) ?_
  intro _ _
  refine Ls.nil ?_
  refine Cd.seq ?_
  refine Cd.region ?_
  refine Ls.qM 24 ?_
  refine Ls.qE 25 (Ev.loads 0 rfl (by rfl) (by rfl) (n := 4) (by kernel_rfl) (by rfl) (by rfl)) ?_
  refine Ls.does (some 26) (Does.lit (sz := 4) rfl (by rfl) Tryz.underlying22 (by kernel_rfl) (by rfl) (by kernel_rfl)) (by rfl) (by rfl) ?_
  intro g2 _
  refine Ls.qE 27 (Ev.buildP (pl := [(0, 1), (1, 1), (2, 1), (3, 1), (4, 1)]) (zs := [.slice none 0 0, .slice none 0 0, .int .i64 0, .int .i64 0, .int .i64 0]) rfl (by rfl) (by kernel_rfl) (by rfl)) ?_
  refine Ent.map (fun w hs => hs.rdNilI) ?_
  refine Ent.see 1 (by rfl) ?_
  have hno : chgP DrP.new ⟨firstV, 1, false, false⟩ (awE 0) = (DrP.new, ⟨firstV, 1, false, false⟩, 80) := by
    unfold chgP
    rw [if_pos aw_no]
  have c1 := mchange_sl hD g A c ⟨firstV, 1, false, false⟩ firstV_good (show 1 ≤ 1000000 by decide) (awE 0) (aw_in 0 (by decide)) (some ⟨g2, 0, none⟩) none 1 0
  rw [hno] at c1
  dsimp only [chgC] at c1
  refine Ls.does (some 28) (Does.call [5, 6, 1, 0, 10, 7, 8, 9, 2, 0, 10] rfl Tryz.func14 (by kernel_rfl) (by kernel_rfl) (c1) (by rfl) (by rfl) (by rfl)) (by rfl) (by rfl) ?_
  rintro ⟨D1, ⟨A1, a1⟩⟩ ⟨hD1, hd1, hm1⟩
  dsimp only at hD1 hd1 hm1 ⊢
  refine Ls.qE 29 (Ev.eql rfl (by rfl) (by rfl)) ?_
  refine Ls.qM 30 ?_
  refine Ent.known 30 true (by rfl) (by exact (decide_eq_true rfl)) ?_
  refine Ls.qM 31 ?_
  refine Ls.qE 32 (Ev.loads 5 rfl (by rfl) (by rfl) (n := 4) (by kernel_rfl) (by rfl) (by rfl)) ?_
  refine Ls.does (some 33) (Does.lit (sz := 4) rfl (by rfl) Tryz.underlying22 (by kernel_rfl) (by rfl) (by kernel_rfl)) (by rfl) (by rfl) ?_; intro g3 _
  refine Ls.qE 34 (Ev.buildP (pl := [(0, 1), (1, 1), (2, 1), (3, 1), (4, 1)]) (zs := [.slice none 0 0, .slice none 0 0, .int .i64 0, .int .i64 0, .int .i64 0]) rfl (by rfl) (by kernel_rfl) (by rfl)) ?_
  skip
  refine Ent.see 0 (by rfl) ?_
  have c2 := mchange_sl hD1 g A1 a1 ⟨firstV, 1, false, false⟩ firstV_good (show 1 ≤ 1000000 by decide) (awE 2) (aw_in 2 (by decide)) (some ⟨g3, 0, none⟩) none 1 0
  rw [hQ, hd1] at c2
  dsimp only [chgC] at c2
  refine Ls.does (some 35) (Does.call [1, 2, 0, 7, 8, 3, 4, 5] rfl Tryz.func14 (by kernel_rfl) (by kernel_rfl) (c2) (by rfl) (by rfl) (by rfl)) (by rfl) (by rfl) ?_
  rintro ⟨D2, ⟨A2, a2⟩⟩ ⟨hD2, hd2, hm2⟩
  dsimp only at hD2 hd2 hm2 ⊢
  have hsz := size_sl hD2 awL (by decide)
  have hp2 : D2.ptr = D.ptr := by rw [DrS.ptr, hd2]
  rw [hp2] at hsz
  refine Ls.qE 36 (Ev.eql rfl (by rfl) (by rfl)) ?_
  refine Ls.qT 37 ?_
  refine Ls.qM 38 ?_
  refine Ent.known 38 true (by rfl) (by exact (decide_eq_true rfl)) ?_
  refine Ls.qM 39 ?_
  skip
  refine Ls.does (some 40) (Does.readN rfl Tryz.func17 (by kernel_rfl) (by kernel_rfl) (mversion_sl g D.d A2 a2 ⟨awV, 1, true, false⟩ (by decide)) (by rfl) (by rfl) ⟨blkIn 0 (by rfl), ReadsIn.row 1 (by rfl), trivial⟩ (fun _ => by rfl)) (by rfl) (by rfl) ?_
  rintro ⟨rA, rc⟩ -
  refine Ls.qE 41 (Ev.field (k := 0) rfl (by rfl) Tryz.underlying24 (by rfl) (by kernel_rfl) (by rfl) (by rfl)) ?_
  refine Ls.qE 42 (Ev.len rfl (by rfl) Tryz.underlying22) ?_
  refine Ls.qE 43 (Ev.eql rfl (by rfl) (by rfl)) ?_
  refine Ls.qT 44 ?_
  refine Ls.qM 45 ?_
  refine Ent.known 45 true (by rfl) (by exact (decide_eq_true rfl)) ?_
  refine Ls.qM 46 ?_
  skip
  refine Ls.does (some 47) (Does.read rfl Tryz.func33 (by kernel_rfl) (by kernel_rfl) (hsz) (by rfl) (by rfl) ⟨blkIn 3 (by rfl), mapIn 4 (by rfl), filIn 5 (by rfl), trivial⟩) (by rfl) (by rfl) ?_
  rintro _ -
  refine Ls.qE 48 (Ev.gtr rfl (by rfl) (by rfl)) ?_
  refine Ls.qT 49 ?_
  refine Ls.qA 0 ?_
  refine Ls.nil ?_
  refine Cd.ret ?_
  refine Ent.ret (()) (trivial) (Res.tmp (by rfl) (by rfl)) ?_ [] (by rfl) ?_
  · exact congrArg Value.bool (decide_eq_true (show (0 : Int) < ((Q.bytes awL).length : Int) by omega))
  · rfl
end Go.Proofs.YtacbkganjkipdaaGreatDoor
/- the document's Fit -/
namespace Go.Proofs.YtacbkganjkipdaaGreatDoor
open Go.RowKit
abbrev VrJ : Type := Option Addr × Nat × Nat × Int × Int × Int
abbrev vrJ (q : VrJ) : Value := .agg #[.slice q.1 q.2.1 q.2.2.1, .int .i64 q.2.2.2.1, .int .i64 q.2.2.2.2.1, .int .i64 q.2.2.2.2.2]
def rfitV (v : VsP) (e : EdP) (p : Option (Option Addr × Nat) × VrJ) : Value := match p.1 with
  | none => .tuple #[vrJ p.2, .bool false]
  | some q => .tuple #[.agg ((outP v e).val q.1 q.2).toArray, .bool true]
def keptN (v : List TbP) (ds : List Int) : List TbP := v.filter fun t => decide (ds.count t.num = 0)
def goneN (v : List TbP) (ds : List Int) : Nat := ((v.map TbP.num).map fun n => ds.count n).sum
theorem keptN_snoc (v : List TbP) (ds : List Int) (t : TbP) : keptN (v ++ [t]) ds = keptN v ds ++ if ds.count t.num = 0 then [t] else [] := by
  unfold keptN
  rw [List.filter_append, List.filter_cons, List.filter_nil]
  by_cases h : ds.count t.num = 0 <;> simp [h]
theorem goneN_snoc (v : List TbP) (ds : List Int) (t : TbP) : goneN (v ++ [t]) ds = goneN v ds + ds.count t.num := by
  unfold goneN
  rw [List.map_append, List.map_append, List.sum_append]
  simp
theorem count_snoc (l : List Int) (x n : Int) : (l ++ [x]).count n = l.count n + if x = n then 1 else 0 := by
  rw [List.count_append, List.count_singleton]
  simp
theorem reads_frontR {Γ : Ctx} {H : List Chunk} {A : Option Addr} {n c e sz k : Nat} {xs : List Value} (i : Nat) (hi : H[i]? = some (row A n c e sz xs)) (hk : k ≤ n) : ReadsIn Γ H sz A k (xs.take (k * sz)) := fun w hs => by
  have h : Reads w w.heap.size sz A n xs := Own.reads (hs.mem hi)
  exact h.take hk
theorem goneN_le {v : List TbP} {ds : List Int} (h : ∀ t ∈ v, ds.count t.num ≤ 1) : goneN v ds ≤ v.length := by
  induction v with
  | nil => exact Nat.le_refl _
  | cons t v ih =>
    have h1 := h t List.mem_cons_self
    have h2 := ih fun u hu => h u (List.mem_cons_of_mem _ hu)
    show ds.count t.num + goneN v ds ≤ v.length + 1
    omega
set_option maxHeartbeats 4000000 in
theorem rfit_sl (v : VsP) (e : EdP) (A B D : Option Addr) (c b d : Nat) (hv : v.tbs.length ≤ 10000000) (he : e.add.length ≤ 10000000) (hd : e.drop.length ≤ 1000000000) (fv : Fine v.tbs) (fe : Fine e.add) (hdr : ∀ x ∈ e.drop, in64 x) : Fn Tryz.prog 10 #[.agg (v.val A c).toArray, .agg (e.val B b D d).toArray] [rdT A v.tbs, rdT B e.add, rd D e.drop.length 1 (ints e.drop)] (Option (Option Addr × Nat) × VrJ) (rfitV v e) (fun p => fitC v e p.1) (fun p => p.1.isSome = true ↔ FitOk v e) := by
  refine Fn.enter Tryz.func10 rfl Tryz.ntmps10 (by rfl) ?_
  intro w0
  refine Cd.seq ?_
  refine Cd.region ?_
  refine Ls.does (some 2) (Does.box rfl (by rfl)) (by rfl) (by rfl) ?_
  intro g1 _
  refine Ls.does (some 3) (Does.box rfl (by rfl)) (by rfl) (by rfl) ?_
  intro g2 _
  refine Ls.does (some 4) (Does.alloc (cs := [.slice none 0 0, .int .i64 0, .int .i64 0, .int .i64 0]) rfl (ZeroIs.mk (.agg #[.slice none 0 0, .int .i64 0, .int .i64 0, .int .i64 0]) (by kernel_rfl) (by rfl))) (by rfl) (by rfl) ?_
  intro g3 _
  refine Ls.qA 5 ?_
  refine Ls.nil ?_
  refine Cd.seq ?_
  refine Cd.seq ?_
  by_cases hg : goodP v ∧ RiseOk v e
  rotate_left
  · skip
    refine Cd.cut (ι := Unit) (fun _ => [(4, .pointer (some ⟨g3, 0, none⟩)), (53, .bool true)]) (fun _ => [blk g3 24 [.slice none 0 0, .int .i64 0, .int .i64 0, .int .i64 0]]) (fun _ => True) ?_ ?_
    · skip
      by_cases hg1 : goodP v
      · skip
        have hr : ¬ (¬ (e.nx ≠ 0 ∧ e.nx < v.nx) ∧ ¬ (e.lg ≠ 0 ∧ e.lg < v.lg) ∧ ¬ (e.sq ≠ 0 ∧ e.sq < v.sq)) := fun h => hg ⟨hg1, h⟩
        refine Cd.region ?_
        refine Ls.qE 15 (Ev.loads 2 rfl (by rfl) (by rfl) (n := 4) (by kernel_rfl) (by rfl) (by rfl)) ?_
        refine Ls.does (some 16) (Does.read rfl Tryz.func22 (by kernel_rfl) (by kernel_rfl) (rgood_sl v A c (by omega) (fun t ht => ⟨(fv t ht).1, (fv t ht).2.1⟩)) (by rfl) (by rfl) ⟨ReadsIn.rd 3 (by rfl), trivial⟩) (by rfl) (by rfl) ?_
        rintro _ -
        refine Ls.qE 17 (Ev.not rfl (by rfl)) ?_
        refine Ls.qM 18 ?_
        refine Ent.split 18 (by rfl) (fun hT1 => ?_) (fun hT1 => ?_)
        · first | have hT1 := of_decide_eq_false hT1 | have hT1 := of_not_decide_false hT1 | skip
          refine Ls.qF 19 2 ?_
          refine Ls.qL 20 1 ?_
          refine Ls.qE 21 (Ev.neq rfl (by rfl) (by rfl)) ?_
          refine Ls.qM 22 ?_
          refine Ent.split 22 (by rfl) (fun hT2 => ?_) (fun hT2 => ?_)
          · first | have hT2 := of_decide_eq_false hT2 | have hT2 := of_not_decide_false hT2 | skip
            refine Ls.qP 23 ?_
            refine Ls.qP 24 ?_
            refine Ls.qP 25 ?_
            refine Ls.qP 26 ?_
            refine Ls.qP 27 ?_
            refine Ls.qN 28 ?_
            refine Ls.qN 29 ?_
            refine Ls.qM 30 ?_
            refine Ls.qF 31 3 ?_
            refine Ls.qL 32 1 ?_
            refine Ls.qE 33 (Ev.neq rfl (by rfl) (by rfl)) ?_
            refine Ls.qM 34 ?_
            refine Ent.split 34 (by rfl) (fun hT3 => ?_) (fun hT3 => ?_)
            · first | have hT3 := of_decide_eq_false hT3 | have hT3 := of_not_decide_false hT3 | skip
              refine Ls.qP 35 ?_
              refine Ls.qP 36 ?_
              refine Ls.qP 37 ?_
              refine Ls.qP 38 ?_
              refine Ls.qP 39 ?_
              refine Ls.qN 40 ?_
              refine Ls.qN 41 ?_
              refine Ls.qM 42 ?_
              refine Ls.qF 43 4 ?_
              refine Ls.qL 44 1 ?_
              refine Ls.qE 45 (Ev.neq rfl (by rfl) (by rfl)) ?_
              refine Ls.qM 46 ?_
              refine Ent.split 46 (by rfl) (fun hT4 => ?_) (fun hT4 => ?_)
              · first | have hT4 := of_decide_eq_false hT4 | have hT4 := of_not_decide_false hT4 | skip
                refine Ls.qP 47 ?_
                refine Ls.qP 48 ?_
                refine Ls.qP 49 ?_
                refine Ls.qP 50 ?_
                refine Ls.qP 51 ?_
                refine Ls.qN 52 ?_
                refine Ls.qN 53 ?_
                refine Ls.nil ?_
                refine Ent.pick [0] (by rfl) ?_
                refine Ent.inv () ?_ ?_ ?_
                · exact trivial
                · (repeat (first | exact trivial | refine ⟨by rfl, ?_⟩ | refine ⟨by simp only [List.length_append, List.length_cons, List.length_nil]; rfl, ?_⟩ | refine ⟨by push_cast; rfl, ?_⟩ | refine ⟨by (show some (Value.bool _) = some (Value.bool _); congr 2; all_goals ((first | rfl | exact absurd hg1 hT1 | exact decide_eq_true (by omega) | exact (decide_eq_true (by omega)).symm | (exfalso; omega)))), ?_⟩))
                · rfl
              · first | have hT4 := of_decide_eq_true hT4 | have hT4 := of_not_decide_true hT4 | skip
                refine Ls.qF 47 4 ?_
                refine Ls.qL 48 1 ?_
                refine Ls.qF 49 3 ?_
                refine Ls.qL 50 2 ?_
                refine Ls.qE 51 (Ev.lss rfl (by rfl) (by rfl)) ?_
                refine Ls.qT 52 ?_
                refine Ls.qN 53 ?_
                refine Ls.nil ?_
                refine Ent.pick [0] (by rfl) ?_
                refine Ent.inv () ?_ ?_ ?_
                · exact trivial
                · (repeat (first | exact trivial | refine ⟨by rfl, ?_⟩ | refine ⟨by simp only [List.length_append, List.length_cons, List.length_nil]; rfl, ?_⟩ | refine ⟨by push_cast; rfl, ?_⟩ | refine ⟨by (show some (Value.bool _) = some (Value.bool _); congr 2; all_goals ((first | rfl | exact absurd hg1 hT1 | exact decide_eq_true (by omega) | exact (decide_eq_true (by omega)).symm | (exfalso; omega)))), ?_⟩))
                · rfl
            · first | have hT3 := of_decide_eq_true hT3 | have hT3 := of_not_decide_true hT3 | skip
              refine Ls.qF 35 3 ?_
              refine Ls.qL 36 1 ?_
              refine Ls.qF 37 2 ?_
              refine Ls.qL 38 2 ?_
              refine Ls.qE 39 (Ev.lss rfl (by rfl) (by rfl)) ?_
              refine Ls.qT 40 ?_
              refine Ls.qN 41 ?_
              refine Ls.qM 42 ?_
              refine Ent.split 42 (by rfl) (fun hT4 => ?_) (fun hT4 => ?_)
              · first | have hT4 := of_decide_eq_false hT4 | have hT4 := of_not_decide_false hT4 | skip
                refine Ls.qF 43 4 ?_
                refine Ls.qL 44 1 ?_
                refine Ls.qE 45 (Ev.neq rfl (by rfl) (by rfl)) ?_
                refine Ls.qM 46 ?_
                refine Ent.split 46 (by rfl) (fun hT5 => ?_) (fun hT5 => ?_)
                · first | have hT5 := of_decide_eq_false hT5 | have hT5 := of_not_decide_false hT5 | skip
                  refine Ls.qP 47 ?_
                  refine Ls.qP 48 ?_
                  refine Ls.qP 49 ?_
                  refine Ls.qP 50 ?_
                  refine Ls.qP 51 ?_
                  refine Ls.qN 52 ?_
                  refine Ls.qN 53 ?_
                  refine Ls.nil ?_
                  refine Ent.pick [0] (by rfl) ?_
                  refine Ent.inv () ?_ ?_ ?_
                  · exact trivial
                  · (repeat (first | exact trivial | refine ⟨by rfl, ?_⟩ | refine ⟨by simp only [List.length_append, List.length_cons, List.length_nil]; rfl, ?_⟩ | refine ⟨by push_cast; rfl, ?_⟩ | refine ⟨by (show some (Value.bool _) = some (Value.bool _); congr 2; all_goals ((first | rfl | exact absurd hg1 hT1 | exact decide_eq_true (by omega) | exact (decide_eq_true (by omega)).symm | (exfalso; omega)))), ?_⟩))
                  · rfl
                · first | have hT5 := of_decide_eq_true hT5 | have hT5 := of_not_decide_true hT5 | skip
                  refine Ls.qF 47 4 ?_
                  refine Ls.qL 48 1 ?_
                  refine Ls.qF 49 3 ?_
                  refine Ls.qL 50 2 ?_
                  refine Ls.qE 51 (Ev.lss rfl (by rfl) (by rfl)) ?_
                  refine Ls.qT 52 ?_
                  refine Ls.qN 53 ?_
                  refine Ls.nil ?_
                  refine Ent.pick [0] (by rfl) ?_
                  refine Ent.inv () ?_ ?_ ?_
                  · exact trivial
                  · (repeat (first | exact trivial | refine ⟨by rfl, ?_⟩ | refine ⟨by simp only [List.length_append, List.length_cons, List.length_nil]; rfl, ?_⟩ | refine ⟨by push_cast; rfl, ?_⟩ | refine ⟨by (show some (Value.bool _) = some (Value.bool _); congr 2; all_goals ((first | rfl | exact absurd hg1 hT1 | exact decide_eq_true (by omega) | exact (decide_eq_true (by omega)).symm | (exfalso; omega)))), ?_⟩))
                  · rfl
              · first | have hT4 := of_decide_eq_true hT4 | have hT4 := of_not_decide_true hT4 | skip
                refine Ls.qP 43 ?_
                refine Ls.qP 44 ?_
                refine Ls.qP 45 ?_
                refine Ls.qP 46 ?_
                refine Ls.qP 47 ?_
                refine Ls.qP 48 ?_
                refine Ls.qP 49 ?_
                refine Ls.qP 50 ?_
                refine Ls.qP 51 ?_
                refine Ls.qP 52 ?_
                refine Ls.qT 53 ?_
                refine Ls.nil ?_
                refine Ent.pick [0] (by rfl) ?_
                refine Ent.inv () ?_ ?_ ?_
                · exact trivial
                · (repeat (first | exact trivial | refine ⟨by rfl, ?_⟩ | refine ⟨by simp only [List.length_append, List.length_cons, List.length_nil]; rfl, ?_⟩ | refine ⟨by push_cast; rfl, ?_⟩ | refine ⟨by (show some (Value.bool _) = some (Value.bool _); congr 2; all_goals ((first | rfl | exact absurd hg1 hT1 | exact decide_eq_true (by omega) | exact (decide_eq_true (by omega)).symm | (exfalso; omega)))), ?_⟩))
                · rfl
          · first | have hT2 := of_decide_eq_true hT2 | have hT2 := of_not_decide_true hT2 | skip
            refine Ls.qF 23 2 ?_
            refine Ls.qL 24 1 ?_
            refine Ls.qF 25 1 ?_
            refine Ls.qL 26 2 ?_
            refine Ls.qE 27 (Ev.lss rfl (by rfl) (by rfl)) ?_
            refine Ls.qT 28 ?_
            refine Ls.qN 29 ?_
            refine Ls.qM 30 ?_
            refine Ent.split 30 (by rfl) (fun hT3 => ?_) (fun hT3 => ?_)
            · first | have hT3 := of_decide_eq_false hT3 | have hT3 := of_not_decide_false hT3 | skip
              refine Ls.qF 31 3 ?_
              refine Ls.qL 32 1 ?_
              refine Ls.qE 33 (Ev.neq rfl (by rfl) (by rfl)) ?_
              refine Ls.qM 34 ?_
              refine Ent.split 34 (by rfl) (fun hT4 => ?_) (fun hT4 => ?_)
              · first | have hT4 := of_decide_eq_false hT4 | have hT4 := of_not_decide_false hT4 | skip
                refine Ls.qP 35 ?_
                refine Ls.qP 36 ?_
                refine Ls.qP 37 ?_
                refine Ls.qP 38 ?_
                refine Ls.qP 39 ?_
                refine Ls.qN 40 ?_
                refine Ls.qN 41 ?_
                refine Ls.qM 42 ?_
                refine Ls.qF 43 4 ?_
                refine Ls.qL 44 1 ?_
                refine Ls.qE 45 (Ev.neq rfl (by rfl) (by rfl)) ?_
                refine Ls.qM 46 ?_
                refine Ent.split 46 (by rfl) (fun hT5 => ?_) (fun hT5 => ?_)
                · first | have hT5 := of_decide_eq_false hT5 | have hT5 := of_not_decide_false hT5 | skip
                  refine Ls.qP 47 ?_
                  refine Ls.qP 48 ?_
                  refine Ls.qP 49 ?_
                  refine Ls.qP 50 ?_
                  refine Ls.qP 51 ?_
                  refine Ls.qN 52 ?_
                  refine Ls.qN 53 ?_
                  refine Ls.nil ?_
                  refine Ent.pick [0] (by rfl) ?_
                  refine Ent.inv () ?_ ?_ ?_
                  · exact trivial
                  · (repeat (first | exact trivial | refine ⟨by rfl, ?_⟩ | refine ⟨by simp only [List.length_append, List.length_cons, List.length_nil]; rfl, ?_⟩ | refine ⟨by push_cast; rfl, ?_⟩ | refine ⟨by (show some (Value.bool _) = some (Value.bool _); congr 2; all_goals ((first | rfl | exact absurd hg1 hT1 | exact decide_eq_true (by omega) | exact (decide_eq_true (by omega)).symm | (exfalso; omega)))), ?_⟩))
                  · rfl
                · first | have hT5 := of_decide_eq_true hT5 | have hT5 := of_not_decide_true hT5 | skip
                  refine Ls.qF 47 4 ?_
                  refine Ls.qL 48 1 ?_
                  refine Ls.qF 49 3 ?_
                  refine Ls.qL 50 2 ?_
                  refine Ls.qE 51 (Ev.lss rfl (by rfl) (by rfl)) ?_
                  refine Ls.qT 52 ?_
                  refine Ls.qN 53 ?_
                  refine Ls.nil ?_
                  refine Ent.pick [0] (by rfl) ?_
                  refine Ent.inv () ?_ ?_ ?_
                  · exact trivial
                  · (repeat (first | exact trivial | refine ⟨by rfl, ?_⟩ | refine ⟨by simp only [List.length_append, List.length_cons, List.length_nil]; rfl, ?_⟩ | refine ⟨by push_cast; rfl, ?_⟩ | refine ⟨by (show some (Value.bool _) = some (Value.bool _); congr 2; all_goals ((first | rfl | exact absurd hg1 hT1 | exact decide_eq_true (by omega) | exact (decide_eq_true (by omega)).symm | (exfalso; omega)))), ?_⟩))
                  · rfl
              · first | have hT4 := of_decide_eq_true hT4 | have hT4 := of_not_decide_true hT4 | skip
                refine Ls.qF 35 3 ?_
                refine Ls.qL 36 1 ?_
                refine Ls.qF 37 2 ?_
                refine Ls.qL 38 2 ?_
                refine Ls.qE 39 (Ev.lss rfl (by rfl) (by rfl)) ?_
                refine Ls.qT 40 ?_
                refine Ls.qN 41 ?_
                refine Ls.qM 42 ?_
                refine Ent.split 42 (by rfl) (fun hT5 => ?_) (fun hT5 => ?_)
                · first | have hT5 := of_decide_eq_false hT5 | have hT5 := of_not_decide_false hT5 | skip
                  refine Ls.qF 43 4 ?_
                  refine Ls.qL 44 1 ?_
                  refine Ls.qE 45 (Ev.neq rfl (by rfl) (by rfl)) ?_
                  refine Ls.qM 46 ?_
                  refine Ent.split 46 (by rfl) (fun hT6 => ?_) (fun hT6 => ?_)
                  · first | have hT6 := of_decide_eq_false hT6 | have hT6 := of_not_decide_false hT6 | skip
                    refine Ls.qP 47 ?_
                    refine Ls.qP 48 ?_
                    refine Ls.qP 49 ?_
                    refine Ls.qP 50 ?_
                    refine Ls.qP 51 ?_
                    refine Ls.qN 52 ?_
                    refine Ls.qN 53 ?_
                    refine Ls.nil ?_
                    refine Ent.pick [0] (by rfl) ?_
                    refine Ent.inv () ?_ ?_ ?_
                    · exact trivial
                    · (repeat (first | exact trivial | refine ⟨by rfl, ?_⟩ | refine ⟨by simp only [List.length_append, List.length_cons, List.length_nil]; rfl, ?_⟩ | refine ⟨by push_cast; rfl, ?_⟩ | refine ⟨by (show some (Value.bool _) = some (Value.bool _); congr 2; all_goals ((first | rfl | exact absurd hg1 hT1 | exact decide_eq_true (by omega) | exact (decide_eq_true (by omega)).symm | (exfalso; omega)))), ?_⟩))
                    · rfl
                  · first | have hT6 := of_decide_eq_true hT6 | have hT6 := of_not_decide_true hT6 | skip
                    refine Ls.qF 47 4 ?_
                    refine Ls.qL 48 1 ?_
                    refine Ls.qF 49 3 ?_
                    refine Ls.qL 50 2 ?_
                    refine Ls.qE 51 (Ev.lss rfl (by rfl) (by rfl)) ?_
                    refine Ls.qT 52 ?_
                    refine Ls.qN 53 ?_
                    refine Ls.nil ?_
                    refine Ent.pick [0] (by rfl) ?_
                    refine Ent.inv () ?_ ?_ ?_
                    · exact trivial
                    · (repeat (first | exact trivial | refine ⟨by rfl, ?_⟩ | refine ⟨by simp only [List.length_append, List.length_cons, List.length_nil]; rfl, ?_⟩ | refine ⟨by push_cast; rfl, ?_⟩ | refine ⟨by (show some (Value.bool _) = some (Value.bool _); congr 2; all_goals ((first | rfl | exact absurd hg1 hT1 | exact decide_eq_true (by omega) | exact (decide_eq_true (by omega)).symm | (exfalso; omega)))), ?_⟩))
                    · rfl
                · first | have hT5 := of_decide_eq_true hT5 | have hT5 := of_not_decide_true hT5 | skip
                  refine Ls.qP 43 ?_
                  refine Ls.qP 44 ?_
                  refine Ls.qP 45 ?_
                  refine Ls.qP 46 ?_
                  refine Ls.qP 47 ?_
                  refine Ls.qP 48 ?_
                  refine Ls.qP 49 ?_
                  refine Ls.qP 50 ?_
                  refine Ls.qP 51 ?_
                  refine Ls.qP 52 ?_
                  refine Ls.qT 53 ?_
                  refine Ls.nil ?_
                  refine Ent.pick [0] (by rfl) ?_
                  refine Ent.inv () ?_ ?_ ?_
                  · exact trivial
                  · (repeat (first | exact trivial | refine ⟨by rfl, ?_⟩ | refine ⟨by simp only [List.length_append, List.length_cons, List.length_nil]; rfl, ?_⟩ | refine ⟨by push_cast; rfl, ?_⟩ | refine ⟨by (show some (Value.bool _) = some (Value.bool _); congr 2; all_goals ((first | rfl | exact absurd hg1 hT1 | exact decide_eq_true (by omega) | exact (decide_eq_true (by omega)).symm | (exfalso; omega)))), ?_⟩))
                  · rfl
            · first | have hT3 := of_decide_eq_true hT3 | have hT3 := of_not_decide_true hT3 | skip
              refine Ls.qP 31 ?_
              refine Ls.qP 32 ?_
              refine Ls.qP 33 ?_
              refine Ls.qP 34 ?_
              refine Ls.qP 35 ?_
              refine Ls.qP 36 ?_
              refine Ls.qP 37 ?_
              refine Ls.qP 38 ?_
              refine Ls.qP 39 ?_
              refine Ls.qP 40 ?_
              refine Ls.qT 41 ?_
              refine Ls.qM 42 ?_
              refine Ls.qP 43 ?_
              refine Ls.qP 44 ?_
              refine Ls.qP 45 ?_
              refine Ls.qP 46 ?_
              refine Ls.qP 47 ?_
              refine Ls.qP 48 ?_
              refine Ls.qP 49 ?_
              refine Ls.qP 50 ?_
              refine Ls.qP 51 ?_
              refine Ls.qP 52 ?_
              refine Ls.qT 53 ?_
              refine Ls.nil ?_
              refine Ent.pick [0] (by rfl) ?_
              refine Ent.inv () ?_ ?_ ?_
              · exact trivial
              · (repeat (first | exact trivial | refine ⟨by rfl, ?_⟩ | refine ⟨by simp only [List.length_append, List.length_cons, List.length_nil]; rfl, ?_⟩ | refine ⟨by push_cast; rfl, ?_⟩ | refine ⟨by (show some (Value.bool _) = some (Value.bool _); congr 2; all_goals ((first | rfl | exact absurd hg1 hT1 | exact decide_eq_true (by omega) | exact (decide_eq_true (by omega)).symm | (exfalso; omega)))), ?_⟩))
              · rfl
        · first | have hT1 := of_decide_eq_true hT1 | have hT1 := of_not_decide_true hT1 | skip
          refine Ls.qP 19 ?_
          refine Ls.qP 20 ?_
          refine Ls.qP 21 ?_
          refine Ls.qP 22 ?_
          refine Ls.qP 23 ?_
          refine Ls.qP 24 ?_
          refine Ls.qP 25 ?_
          refine Ls.qP 26 ?_
          refine Ls.qP 27 ?_
          refine Ls.qP 28 ?_
          refine Ls.qT 29 ?_
          refine Ls.qM 30 ?_
          refine Ls.qP 31 ?_
          refine Ls.qP 32 ?_
          refine Ls.qP 33 ?_
          refine Ls.qP 34 ?_
          refine Ls.qP 35 ?_
          refine Ls.qP 36 ?_
          refine Ls.qP 37 ?_
          refine Ls.qP 38 ?_
          refine Ls.qP 39 ?_
          refine Ls.qP 40 ?_
          refine Ls.qT 41 ?_
          refine Ls.qM 42 ?_
          refine Ls.qP 43 ?_
          refine Ls.qP 44 ?_
          refine Ls.qP 45 ?_
          refine Ls.qP 46 ?_
          refine Ls.qP 47 ?_
          refine Ls.qP 48 ?_
          refine Ls.qP 49 ?_
          refine Ls.qP 50 ?_
          refine Ls.qP 51 ?_
          refine Ls.qP 52 ?_
          refine Ls.qT 53 ?_
          refine Ls.nil ?_
          refine Ent.pick [0] (by rfl) ?_
          refine Ent.inv () ?_ ?_ ?_
          · exact trivial
          · (repeat (first | exact trivial | refine ⟨by rfl, ?_⟩ | refine ⟨by simp only [List.length_append, List.length_cons, List.length_nil]; rfl, ?_⟩ | refine ⟨by push_cast; rfl, ?_⟩ | refine ⟨by (show some (Value.bool _) = some (Value.bool _); congr 2; all_goals ((first | rfl | exact absurd hg1 hT1 | exact decide_eq_true (by omega) | exact (decide_eq_true (by omega)).symm | (exfalso; omega)))), ?_⟩))
          · rfl
      · skip
        refine Cd.region ?_
        refine Ls.qE 15 (Ev.loads 2 rfl (by rfl) (by rfl) (n := 4) (by kernel_rfl) (by rfl) (by rfl)) ?_
        refine Ls.does (some 16) (Does.read rfl Tryz.func22 (by kernel_rfl) (by kernel_rfl) (rgood_sl v A c (by omega) (fun t ht => ⟨(fv t ht).1, (fv t ht).2.1⟩)) (by rfl) (by rfl) ⟨ReadsIn.rd 3 (by rfl), trivial⟩) (by rfl) (by rfl) ?_
        rintro _ -
        refine Ls.qE 17 (Ev.not rfl (by rfl)) ?_
        refine Ls.qM 18 ?_
        refine Ent.split 18 (by rfl) (fun hT1 => ?_) (fun hT1 => ?_)
        · first | have hT1 := of_decide_eq_false hT1 | have hT1 := of_not_decide_false hT1 | skip
          refine Ls.qF 19 2 ?_
          refine Ls.qL 20 1 ?_
          refine Ls.qE 21 (Ev.neq rfl (by rfl) (by rfl)) ?_
          refine Ls.qM 22 ?_
          refine Ent.split 22 (by rfl) (fun hT2 => ?_) (fun hT2 => ?_)
          · first | have hT2 := of_decide_eq_false hT2 | have hT2 := of_not_decide_false hT2 | skip
            refine Ls.qP 23 ?_
            refine Ls.qP 24 ?_
            refine Ls.qP 25 ?_
            refine Ls.qP 26 ?_
            refine Ls.qP 27 ?_
            refine Ls.qN 28 ?_
            refine Ls.qN 29 ?_
            refine Ls.qM 30 ?_
            refine Ls.qF 31 3 ?_
            refine Ls.qL 32 1 ?_
            refine Ls.qE 33 (Ev.neq rfl (by rfl) (by rfl)) ?_
            refine Ls.qM 34 ?_
            refine Ent.split 34 (by rfl) (fun hT3 => ?_) (fun hT3 => ?_)
            · first | have hT3 := of_decide_eq_false hT3 | have hT3 := of_not_decide_false hT3 | skip
              refine Ls.qP 35 ?_
              refine Ls.qP 36 ?_
              refine Ls.qP 37 ?_
              refine Ls.qP 38 ?_
              refine Ls.qP 39 ?_
              refine Ls.qN 40 ?_
              refine Ls.qN 41 ?_
              refine Ls.qM 42 ?_
              refine Ls.qF 43 4 ?_
              refine Ls.qL 44 1 ?_
              refine Ls.qE 45 (Ev.neq rfl (by rfl) (by rfl)) ?_
              refine Ls.qM 46 ?_
              refine Ent.split 46 (by rfl) (fun hT4 => ?_) (fun hT4 => ?_)
              · first | have hT4 := of_decide_eq_false hT4 | have hT4 := of_not_decide_false hT4 | skip
                refine Ls.qP 47 ?_
                refine Ls.qP 48 ?_
                refine Ls.qP 49 ?_
                refine Ls.qP 50 ?_
                refine Ls.qP 51 ?_
                refine Ls.qN 52 ?_
                refine Ls.qN 53 ?_
                refine Ls.nil ?_
                refine Ent.pick [0] (by rfl) ?_
                refine Ent.inv () ?_ ?_ ?_
                · exact trivial
                · (repeat (first | exact trivial | refine ⟨by rfl, ?_⟩ | refine ⟨by simp only [List.length_append, List.length_cons, List.length_nil]; rfl, ?_⟩ | refine ⟨by push_cast; rfl, ?_⟩ | refine ⟨by (show some (Value.bool _) = some (Value.bool _); congr 2; all_goals ((first | rfl | exact absurd hT1 hg1 | (exfalso; exact hg1 hT1)))), ?_⟩))
                · rfl
              · first | have hT4 := of_decide_eq_true hT4 | have hT4 := of_not_decide_true hT4 | skip
                refine Ls.qF 47 4 ?_
                refine Ls.qL 48 1 ?_
                refine Ls.qF 49 3 ?_
                refine Ls.qL 50 2 ?_
                refine Ls.qE 51 (Ev.lss rfl (by rfl) (by rfl)) ?_
                refine Ls.qT 52 ?_
                refine Ls.qN 53 ?_
                refine Ls.nil ?_
                refine Ent.pick [0] (by rfl) ?_
                refine Ent.inv () ?_ ?_ ?_
                · exact trivial
                · (repeat (first | exact trivial | refine ⟨by rfl, ?_⟩ | refine ⟨by simp only [List.length_append, List.length_cons, List.length_nil]; rfl, ?_⟩ | refine ⟨by push_cast; rfl, ?_⟩ | refine ⟨by (show some (Value.bool _) = some (Value.bool _); congr 2; all_goals ((first | rfl | exact absurd hT1 hg1 | (exfalso; exact hg1 hT1)))), ?_⟩))
                · rfl
            · first | have hT3 := of_decide_eq_true hT3 | have hT3 := of_not_decide_true hT3 | skip
              refine Ls.qF 35 3 ?_
              refine Ls.qL 36 1 ?_
              refine Ls.qF 37 2 ?_
              refine Ls.qL 38 2 ?_
              refine Ls.qE 39 (Ev.lss rfl (by rfl) (by rfl)) ?_
              refine Ls.qT 40 ?_
              refine Ls.qN 41 ?_
              refine Ls.qM 42 ?_
              refine Ent.split 42 (by rfl) (fun hT4 => ?_) (fun hT4 => ?_)
              · first | have hT4 := of_decide_eq_false hT4 | have hT4 := of_not_decide_false hT4 | skip
                refine Ls.qF 43 4 ?_
                refine Ls.qL 44 1 ?_
                refine Ls.qE 45 (Ev.neq rfl (by rfl) (by rfl)) ?_
                refine Ls.qM 46 ?_
                refine Ent.split 46 (by rfl) (fun hT5 => ?_) (fun hT5 => ?_)
                · first | have hT5 := of_decide_eq_false hT5 | have hT5 := of_not_decide_false hT5 | skip
                  refine Ls.qP 47 ?_
                  refine Ls.qP 48 ?_
                  refine Ls.qP 49 ?_
                  refine Ls.qP 50 ?_
                  refine Ls.qP 51 ?_
                  refine Ls.qN 52 ?_
                  refine Ls.qN 53 ?_
                  refine Ls.nil ?_
                  refine Ent.pick [0] (by rfl) ?_
                  refine Ent.inv () ?_ ?_ ?_
                  · exact trivial
                  · (repeat (first | exact trivial | refine ⟨by rfl, ?_⟩ | refine ⟨by simp only [List.length_append, List.length_cons, List.length_nil]; rfl, ?_⟩ | refine ⟨by push_cast; rfl, ?_⟩ | refine ⟨by (show some (Value.bool _) = some (Value.bool _); congr 2; all_goals ((first | rfl | exact absurd hT1 hg1 | (exfalso; exact hg1 hT1)))), ?_⟩))
                  · rfl
                · first | have hT5 := of_decide_eq_true hT5 | have hT5 := of_not_decide_true hT5 | skip
                  refine Ls.qF 47 4 ?_
                  refine Ls.qL 48 1 ?_
                  refine Ls.qF 49 3 ?_
                  refine Ls.qL 50 2 ?_
                  refine Ls.qE 51 (Ev.lss rfl (by rfl) (by rfl)) ?_
                  refine Ls.qT 52 ?_
                  refine Ls.qN 53 ?_
                  refine Ls.nil ?_
                  refine Ent.pick [0] (by rfl) ?_
                  refine Ent.inv () ?_ ?_ ?_
                  · exact trivial
                  · (repeat (first | exact trivial | refine ⟨by rfl, ?_⟩ | refine ⟨by simp only [List.length_append, List.length_cons, List.length_nil]; rfl, ?_⟩ | refine ⟨by push_cast; rfl, ?_⟩ | refine ⟨by (show some (Value.bool _) = some (Value.bool _); congr 2; all_goals ((first | rfl | exact absurd hT1 hg1 | (exfalso; exact hg1 hT1)))), ?_⟩))
                  · rfl
              · first | have hT4 := of_decide_eq_true hT4 | have hT4 := of_not_decide_true hT4 | skip
                refine Ls.qP 43 ?_
                refine Ls.qP 44 ?_
                refine Ls.qP 45 ?_
                refine Ls.qP 46 ?_
                refine Ls.qP 47 ?_
                refine Ls.qP 48 ?_
                refine Ls.qP 49 ?_
                refine Ls.qP 50 ?_
                refine Ls.qP 51 ?_
                refine Ls.qP 52 ?_
                refine Ls.qT 53 ?_
                refine Ls.nil ?_
                refine Ent.pick [0] (by rfl) ?_
                refine Ent.inv () ?_ ?_ ?_
                · exact trivial
                · (repeat (first | exact trivial | refine ⟨by rfl, ?_⟩ | refine ⟨by simp only [List.length_append, List.length_cons, List.length_nil]; rfl, ?_⟩ | refine ⟨by push_cast; rfl, ?_⟩ | refine ⟨by (show some (Value.bool _) = some (Value.bool _); congr 2; all_goals ((first | rfl | exact absurd hT1 hg1 | (exfalso; exact hg1 hT1)))), ?_⟩))
                · rfl
          · first | have hT2 := of_decide_eq_true hT2 | have hT2 := of_not_decide_true hT2 | skip
            refine Ls.qF 23 2 ?_
            refine Ls.qL 24 1 ?_
            refine Ls.qF 25 1 ?_
            refine Ls.qL 26 2 ?_
            refine Ls.qE 27 (Ev.lss rfl (by rfl) (by rfl)) ?_
            refine Ls.qT 28 ?_
            refine Ls.qN 29 ?_
            refine Ls.qM 30 ?_
            refine Ent.split 30 (by rfl) (fun hT3 => ?_) (fun hT3 => ?_)
            · first | have hT3 := of_decide_eq_false hT3 | have hT3 := of_not_decide_false hT3 | skip
              refine Ls.qF 31 3 ?_
              refine Ls.qL 32 1 ?_
              refine Ls.qE 33 (Ev.neq rfl (by rfl) (by rfl)) ?_
              refine Ls.qM 34 ?_
              refine Ent.split 34 (by rfl) (fun hT4 => ?_) (fun hT4 => ?_)
              · first | have hT4 := of_decide_eq_false hT4 | have hT4 := of_not_decide_false hT4 | skip
                refine Ls.qP 35 ?_
                refine Ls.qP 36 ?_
                refine Ls.qP 37 ?_
                refine Ls.qP 38 ?_
                refine Ls.qP 39 ?_
                refine Ls.qN 40 ?_
                refine Ls.qN 41 ?_
                refine Ls.qM 42 ?_
                refine Ls.qF 43 4 ?_
                refine Ls.qL 44 1 ?_
                refine Ls.qE 45 (Ev.neq rfl (by rfl) (by rfl)) ?_
                refine Ls.qM 46 ?_
                refine Ent.split 46 (by rfl) (fun hT5 => ?_) (fun hT5 => ?_)
                · first | have hT5 := of_decide_eq_false hT5 | have hT5 := of_not_decide_false hT5 | skip
                  refine Ls.qP 47 ?_
                  refine Ls.qP 48 ?_
                  refine Ls.qP 49 ?_
                  refine Ls.qP 50 ?_
                  refine Ls.qP 51 ?_
                  refine Ls.qN 52 ?_
                  refine Ls.qN 53 ?_
                  refine Ls.nil ?_
                  refine Ent.pick [0] (by rfl) ?_
                  refine Ent.inv () ?_ ?_ ?_
                  · exact trivial
                  · (repeat (first | exact trivial | refine ⟨by rfl, ?_⟩ | refine ⟨by simp only [List.length_append, List.length_cons, List.length_nil]; rfl, ?_⟩ | refine ⟨by push_cast; rfl, ?_⟩ | refine ⟨by (show some (Value.bool _) = some (Value.bool _); congr 2; all_goals ((first | rfl | exact absurd hT1 hg1 | (exfalso; exact hg1 hT1)))), ?_⟩))
                  · rfl
                · first | have hT5 := of_decide_eq_true hT5 | have hT5 := of_not_decide_true hT5 | skip
                  refine Ls.qF 47 4 ?_
                  refine Ls.qL 48 1 ?_
                  refine Ls.qF 49 3 ?_
                  refine Ls.qL 50 2 ?_
                  refine Ls.qE 51 (Ev.lss rfl (by rfl) (by rfl)) ?_
                  refine Ls.qT 52 ?_
                  refine Ls.qN 53 ?_
                  refine Ls.nil ?_
                  refine Ent.pick [0] (by rfl) ?_
                  refine Ent.inv () ?_ ?_ ?_
                  · exact trivial
                  · (repeat (first | exact trivial | refine ⟨by rfl, ?_⟩ | refine ⟨by simp only [List.length_append, List.length_cons, List.length_nil]; rfl, ?_⟩ | refine ⟨by push_cast; rfl, ?_⟩ | refine ⟨by (show some (Value.bool _) = some (Value.bool _); congr 2; all_goals ((first | rfl | exact absurd hT1 hg1 | (exfalso; exact hg1 hT1)))), ?_⟩))
                  · rfl
              · first | have hT4 := of_decide_eq_true hT4 | have hT4 := of_not_decide_true hT4 | skip
                refine Ls.qF 35 3 ?_
                refine Ls.qL 36 1 ?_
                refine Ls.qF 37 2 ?_
                refine Ls.qL 38 2 ?_
                refine Ls.qE 39 (Ev.lss rfl (by rfl) (by rfl)) ?_
                refine Ls.qT 40 ?_
                refine Ls.qN 41 ?_
                refine Ls.qM 42 ?_
                refine Ent.split 42 (by rfl) (fun hT5 => ?_) (fun hT5 => ?_)
                · first | have hT5 := of_decide_eq_false hT5 | have hT5 := of_not_decide_false hT5 | skip
                  refine Ls.qF 43 4 ?_
                  refine Ls.qL 44 1 ?_
                  refine Ls.qE 45 (Ev.neq rfl (by rfl) (by rfl)) ?_
                  refine Ls.qM 46 ?_
                  refine Ent.split 46 (by rfl) (fun hT6 => ?_) (fun hT6 => ?_)
                  · first | have hT6 := of_decide_eq_false hT6 | have hT6 := of_not_decide_false hT6 | skip
                    refine Ls.qP 47 ?_
                    refine Ls.qP 48 ?_
                    refine Ls.qP 49 ?_
                    refine Ls.qP 50 ?_
                    refine Ls.qP 51 ?_
                    refine Ls.qN 52 ?_
                    refine Ls.qN 53 ?_
                    refine Ls.nil ?_
                    refine Ent.pick [0] (by rfl) ?_
                    refine Ent.inv () ?_ ?_ ?_
                    · exact trivial
                    · (repeat (first | exact trivial | refine ⟨by rfl, ?_⟩ | refine ⟨by simp only [List.length_append, List.length_cons, List.length_nil]; rfl, ?_⟩ | refine ⟨by push_cast; rfl, ?_⟩ | refine ⟨by (show some (Value.bool _) = some (Value.bool _); congr 2; all_goals ((first | rfl | exact absurd hT1 hg1 | (exfalso; exact hg1 hT1)))), ?_⟩))
                    · rfl
                  · first | have hT6 := of_decide_eq_true hT6 | have hT6 := of_not_decide_true hT6 | skip
                    refine Ls.qF 47 4 ?_
                    refine Ls.qL 48 1 ?_
                    refine Ls.qF 49 3 ?_
                    refine Ls.qL 50 2 ?_
                    refine Ls.qE 51 (Ev.lss rfl (by rfl) (by rfl)) ?_
                    refine Ls.qT 52 ?_
                    refine Ls.qN 53 ?_
                    refine Ls.nil ?_
                    refine Ent.pick [0] (by rfl) ?_
                    refine Ent.inv () ?_ ?_ ?_
                    · exact trivial
                    · (repeat (first | exact trivial | refine ⟨by rfl, ?_⟩ | refine ⟨by simp only [List.length_append, List.length_cons, List.length_nil]; rfl, ?_⟩ | refine ⟨by push_cast; rfl, ?_⟩ | refine ⟨by (show some (Value.bool _) = some (Value.bool _); congr 2; all_goals ((first | rfl | exact absurd hT1 hg1 | (exfalso; exact hg1 hT1)))), ?_⟩))
                    · rfl
                · first | have hT5 := of_decide_eq_true hT5 | have hT5 := of_not_decide_true hT5 | skip
                  refine Ls.qP 43 ?_
                  refine Ls.qP 44 ?_
                  refine Ls.qP 45 ?_
                  refine Ls.qP 46 ?_
                  refine Ls.qP 47 ?_
                  refine Ls.qP 48 ?_
                  refine Ls.qP 49 ?_
                  refine Ls.qP 50 ?_
                  refine Ls.qP 51 ?_
                  refine Ls.qP 52 ?_
                  refine Ls.qT 53 ?_
                  refine Ls.nil ?_
                  refine Ent.pick [0] (by rfl) ?_
                  refine Ent.inv () ?_ ?_ ?_
                  · exact trivial
                  · (repeat (first | exact trivial | refine ⟨by rfl, ?_⟩ | refine ⟨by simp only [List.length_append, List.length_cons, List.length_nil]; rfl, ?_⟩ | refine ⟨by push_cast; rfl, ?_⟩ | refine ⟨by (show some (Value.bool _) = some (Value.bool _); congr 2; all_goals ((first | rfl | exact absurd hT1 hg1 | (exfalso; exact hg1 hT1)))), ?_⟩))
                  · rfl
            · first | have hT3 := of_decide_eq_true hT3 | have hT3 := of_not_decide_true hT3 | skip
              refine Ls.qP 31 ?_
              refine Ls.qP 32 ?_
              refine Ls.qP 33 ?_
              refine Ls.qP 34 ?_
              refine Ls.qP 35 ?_
              refine Ls.qP 36 ?_
              refine Ls.qP 37 ?_
              refine Ls.qP 38 ?_
              refine Ls.qP 39 ?_
              refine Ls.qP 40 ?_
              refine Ls.qT 41 ?_
              refine Ls.qM 42 ?_
              refine Ls.qP 43 ?_
              refine Ls.qP 44 ?_
              refine Ls.qP 45 ?_
              refine Ls.qP 46 ?_
              refine Ls.qP 47 ?_
              refine Ls.qP 48 ?_
              refine Ls.qP 49 ?_
              refine Ls.qP 50 ?_
              refine Ls.qP 51 ?_
              refine Ls.qP 52 ?_
              refine Ls.qT 53 ?_
              refine Ls.nil ?_
              refine Ent.pick [0] (by rfl) ?_
              refine Ent.inv () ?_ ?_ ?_
              · exact trivial
              · (repeat (first | exact trivial | refine ⟨by rfl, ?_⟩ | refine ⟨by simp only [List.length_append, List.length_cons, List.length_nil]; rfl, ?_⟩ | refine ⟨by push_cast; rfl, ?_⟩ | refine ⟨by (show some (Value.bool _) = some (Value.bool _); congr 2; all_goals ((first | rfl | exact absurd hT1 hg1 | (exfalso; exact hg1 hT1)))), ?_⟩))
              · rfl
        · first | have hT1 := of_decide_eq_true hT1 | have hT1 := of_not_decide_true hT1 | skip
          refine Ls.qP 19 ?_
          refine Ls.qP 20 ?_
          refine Ls.qP 21 ?_
          refine Ls.qP 22 ?_
          refine Ls.qP 23 ?_
          refine Ls.qP 24 ?_
          refine Ls.qP 25 ?_
          refine Ls.qP 26 ?_
          refine Ls.qP 27 ?_
          refine Ls.qP 28 ?_
          refine Ls.qT 29 ?_
          refine Ls.qM 30 ?_
          refine Ls.qP 31 ?_
          refine Ls.qP 32 ?_
          refine Ls.qP 33 ?_
          refine Ls.qP 34 ?_
          refine Ls.qP 35 ?_
          refine Ls.qP 36 ?_
          refine Ls.qP 37 ?_
          refine Ls.qP 38 ?_
          refine Ls.qP 39 ?_
          refine Ls.qP 40 ?_
          refine Ls.qT 41 ?_
          refine Ls.qM 42 ?_
          refine Ls.qP 43 ?_
          refine Ls.qP 44 ?_
          refine Ls.qP 45 ?_
          refine Ls.qP 46 ?_
          refine Ls.qP 47 ?_
          refine Ls.qP 48 ?_
          refine Ls.qP 49 ?_
          refine Ls.qP 50 ?_
          refine Ls.qP 51 ?_
          refine Ls.qP 52 ?_
          refine Ls.qT 53 ?_
          refine Ls.nil ?_
          refine Ent.pick [0] (by rfl) ?_
          refine Ent.inv () ?_ ?_ ?_
          · exact trivial
          · (repeat (first | exact trivial | refine ⟨by rfl, ?_⟩ | refine ⟨by simp only [List.length_append, List.length_cons, List.length_nil]; rfl, ?_⟩ | refine ⟨by push_cast; rfl, ?_⟩ | refine ⟨by (show some (Value.bool _) = some (Value.bool _); congr 2; all_goals ((first | rfl | exact absurd hT1 hg1 | (exfalso; exact hg1 hT1)))), ?_⟩))
          · rfl
    skip
    rintro _ -
    refine Cd.cond_true (by rfl) (rfl) ?_
    refine Cd.seq ?_
    refine Cd.region ?_
    refine Ls.qE 54 (Ev.buildP (pl := [(0, 1), (1, 1), (2, 1), (3, 1)]) (zs := [.slice none 0 0, .int .i64 0, .int .i64 0, .int .i64 0]) rfl (by rfl) (by kernel_rfl) (by rfl)) ?_
    refine Ls.qD (Does.store 0 rfl (by rfl) (by rfl) (by rfl) (by kernel_rfl) (by rfl) (by kernel_rfl) (by rfl)) ?_
    intro _ _
    refine Ls.qA 5 ?_
    refine Ls.nil ?_
    refine Cd.ret ?_
    refine Ent.ret ((none, (none, 0, 0, 0, 0, 0))) (⟨fun h => (by cases h), fun h => absurd ⟨h.1, h.2.1⟩ hg⟩) (Res.cell_tmp 0 (by rfl) (by rfl) (by rfl) (n := 4) (by kernel_rfl) (by rfl) (by rfl) (by rfl)) ?_ [] (by rfl) ?_
    · rfl
    · rfl
  · skip
    obtain ⟨hg1, hg2⟩ := hg
    have hr : ¬ (e.nx ≠ 0 ∧ e.nx < v.nx) ∧ ¬ (e.lg ≠ 0 ∧ e.lg < v.lg) ∧ ¬ (e.sq ≠ 0 ∧ e.sq < v.sq) := hg2
    have hvl := good_few hg1
    refine Cd.cut (ι := Unit) (fun _ => [(2, .pointer (some ⟨g1, 0, none⟩)), (3, .pointer (some ⟨g2, 0, none⟩)), (4, .pointer (some ⟨g3, 0, none⟩)), (53, .bool false)]) (fun _ => [blk g3 24 [.slice none 0 0, .int .i64 0, .int .i64 0, .int .i64 0], blk g2 27 [.slice B e.add.length b, .slice D e.drop.length d, .int .i64 e.nx, .int .i64 e.lg, .int .i64 e.sq], blk g1 24 [.slice A v.tbs.length c, .int .i64 v.nx, .int .i64 v.lg, .int .i64 v.sq], rdT A v.tbs, rdT B e.add, rd D e.drop.length 1 (ints e.drop)]) (fun _ => True) ?_ ?_
    · skip
      refine Cd.region ?_
      refine Ls.qE 15 (Ev.loads 2 rfl (by rfl) (by rfl) (n := 4) (by kernel_rfl) (by rfl) (by rfl)) ?_
      refine Ls.does (some 16) (Does.read rfl Tryz.func22 (by kernel_rfl) (by kernel_rfl) (rgood_sl v A c (by omega) (fun t ht => ⟨(fv t ht).1, (fv t ht).2.1⟩)) (by rfl) (by rfl) ⟨ReadsIn.rd 3 (by rfl), trivial⟩) (by rfl) (by rfl) ?_
      rintro _ -
      refine Ls.qE 17 (Ev.not rfl (by rfl)) ?_
      refine Ls.qM 18 ?_
      refine Ent.split 18 (by rfl) (fun hT1 => ?_) (fun hT1 => ?_)
      · first | have hT1 := of_decide_eq_false hT1 | have hT1 := of_not_decide_false hT1 | skip
        refine Ls.qF 19 2 ?_
        refine Ls.qL 20 1 ?_
        refine Ls.qE 21 (Ev.neq rfl (by rfl) (by rfl)) ?_
        refine Ls.qM 22 ?_
        refine Ent.split 22 (by rfl) (fun hT2 => ?_) (fun hT2 => ?_)
        · first | have hT2 := of_decide_eq_false hT2 | have hT2 := of_not_decide_false hT2 | skip
          refine Ls.qP 23 ?_
          refine Ls.qP 24 ?_
          refine Ls.qP 25 ?_
          refine Ls.qP 26 ?_
          refine Ls.qP 27 ?_
          refine Ls.qN 28 ?_
          refine Ls.qN 29 ?_
          refine Ls.qM 30 ?_
          refine Ls.qF 31 3 ?_
          refine Ls.qL 32 1 ?_
          refine Ls.qE 33 (Ev.neq rfl (by rfl) (by rfl)) ?_
          refine Ls.qM 34 ?_
          refine Ent.split 34 (by rfl) (fun hT3 => ?_) (fun hT3 => ?_)
          · first | have hT3 := of_decide_eq_false hT3 | have hT3 := of_not_decide_false hT3 | skip
            refine Ls.qP 35 ?_
            refine Ls.qP 36 ?_
            refine Ls.qP 37 ?_
            refine Ls.qP 38 ?_
            refine Ls.qP 39 ?_
            refine Ls.qN 40 ?_
            refine Ls.qN 41 ?_
            refine Ls.qM 42 ?_
            refine Ls.qF 43 4 ?_
            refine Ls.qL 44 1 ?_
            refine Ls.qE 45 (Ev.neq rfl (by rfl) (by rfl)) ?_
            refine Ls.qM 46 ?_
            refine Ent.split 46 (by rfl) (fun hT4 => ?_) (fun hT4 => ?_)
            · first | have hT4 := of_decide_eq_false hT4 | have hT4 := of_not_decide_false hT4 | skip
              refine Ls.qP 47 ?_
              refine Ls.qP 48 ?_
              refine Ls.qP 49 ?_
              refine Ls.qP 50 ?_
              refine Ls.qP 51 ?_
              refine Ls.qN 52 ?_
              refine Ls.qN 53 ?_
              refine Ls.nil ?_
              refine Ent.inv () ?_ ?_ ?_
              · exact trivial
              · (repeat (first | exact trivial | refine ⟨by rfl, ?_⟩ | refine ⟨by simp only [List.length_append, List.length_cons, List.length_nil]; rfl, ?_⟩ | refine ⟨by push_cast; rfl, ?_⟩ | refine ⟨by (show some (Value.bool _) = some (Value.bool _); congr 2; all_goals ((first | rfl | exact absurd hg1 hT1 | exact decide_eq_false (by omega) | exact (decide_eq_false (by omega)).symm | (exfalso; omega)))), ?_⟩))
              · rfl
            · first | have hT4 := of_decide_eq_true hT4 | have hT4 := of_not_decide_true hT4 | skip
              refine Ls.qF 47 4 ?_
              refine Ls.qL 48 1 ?_
              refine Ls.qF 49 3 ?_
              refine Ls.qL 50 2 ?_
              refine Ls.qE 51 (Ev.lss rfl (by rfl) (by rfl)) ?_
              refine Ls.qT 52 ?_
              refine Ls.qN 53 ?_
              refine Ls.nil ?_
              refine Ent.inv () ?_ ?_ ?_
              · exact trivial
              · (repeat (first | exact trivial | refine ⟨by rfl, ?_⟩ | refine ⟨by simp only [List.length_append, List.length_cons, List.length_nil]; rfl, ?_⟩ | refine ⟨by push_cast; rfl, ?_⟩ | refine ⟨by (show some (Value.bool _) = some (Value.bool _); congr 2; all_goals ((first | rfl | exact absurd hg1 hT1 | exact decide_eq_false (by omega) | exact (decide_eq_false (by omega)).symm | (exfalso; omega)))), ?_⟩))
              · rfl
          · first | have hT3 := of_decide_eq_true hT3 | have hT3 := of_not_decide_true hT3 | skip
            refine Ls.qF 35 3 ?_
            refine Ls.qL 36 1 ?_
            refine Ls.qF 37 2 ?_
            refine Ls.qL 38 2 ?_
            refine Ls.qE 39 (Ev.lss rfl (by rfl) (by rfl)) ?_
            refine Ls.qT 40 ?_
            refine Ls.qN 41 ?_
            refine Ls.qM 42 ?_
            refine Ent.split 42 (by rfl) (fun hT4 => ?_) (fun hT4 => ?_)
            · first | have hT4 := of_decide_eq_false hT4 | have hT4 := of_not_decide_false hT4 | skip
              refine Ls.qF 43 4 ?_
              refine Ls.qL 44 1 ?_
              refine Ls.qE 45 (Ev.neq rfl (by rfl) (by rfl)) ?_
              refine Ls.qM 46 ?_
              refine Ent.split 46 (by rfl) (fun hT5 => ?_) (fun hT5 => ?_)
              · first | have hT5 := of_decide_eq_false hT5 | have hT5 := of_not_decide_false hT5 | skip
                refine Ls.qP 47 ?_
                refine Ls.qP 48 ?_
                refine Ls.qP 49 ?_
                refine Ls.qP 50 ?_
                refine Ls.qP 51 ?_
                refine Ls.qN 52 ?_
                refine Ls.qN 53 ?_
                refine Ls.nil ?_
                refine Ent.inv () ?_ ?_ ?_
                · exact trivial
                · (repeat (first | exact trivial | refine ⟨by rfl, ?_⟩ | refine ⟨by simp only [List.length_append, List.length_cons, List.length_nil]; rfl, ?_⟩ | refine ⟨by push_cast; rfl, ?_⟩ | refine ⟨by (show some (Value.bool _) = some (Value.bool _); congr 2; all_goals ((first | rfl | exact absurd hg1 hT1 | exact decide_eq_false (by omega) | exact (decide_eq_false (by omega)).symm | (exfalso; omega)))), ?_⟩))
                · rfl
              · first | have hT5 := of_decide_eq_true hT5 | have hT5 := of_not_decide_true hT5 | skip
                refine Ls.qF 47 4 ?_
                refine Ls.qL 48 1 ?_
                refine Ls.qF 49 3 ?_
                refine Ls.qL 50 2 ?_
                refine Ls.qE 51 (Ev.lss rfl (by rfl) (by rfl)) ?_
                refine Ls.qT 52 ?_
                refine Ls.qN 53 ?_
                refine Ls.nil ?_
                refine Ent.inv () ?_ ?_ ?_
                · exact trivial
                · (repeat (first | exact trivial | refine ⟨by rfl, ?_⟩ | refine ⟨by simp only [List.length_append, List.length_cons, List.length_nil]; rfl, ?_⟩ | refine ⟨by push_cast; rfl, ?_⟩ | refine ⟨by (show some (Value.bool _) = some (Value.bool _); congr 2; all_goals ((first | rfl | exact absurd hg1 hT1 | exact decide_eq_false (by omega) | exact (decide_eq_false (by omega)).symm | (exfalso; omega)))), ?_⟩))
                · rfl
            · first | have hT4 := of_decide_eq_true hT4 | have hT4 := of_not_decide_true hT4 | skip
              refine Ls.qP 43 ?_
              refine Ls.qP 44 ?_
              refine Ls.qP 45 ?_
              refine Ls.qP 46 ?_
              refine Ls.qP 47 ?_
              refine Ls.qP 48 ?_
              refine Ls.qP 49 ?_
              refine Ls.qP 50 ?_
              refine Ls.qP 51 ?_
              refine Ls.qP 52 ?_
              refine Ls.qT 53 ?_
              refine Ls.nil ?_
              refine Ent.inv () ?_ ?_ ?_
              · exact trivial
              · (repeat (first | exact trivial | refine ⟨by rfl, ?_⟩ | refine ⟨by simp only [List.length_append, List.length_cons, List.length_nil]; rfl, ?_⟩ | refine ⟨by push_cast; rfl, ?_⟩ | refine ⟨by (show some (Value.bool _) = some (Value.bool _); congr 2; all_goals ((first | rfl | exact absurd hg1 hT1 | exact decide_eq_false (by omega) | exact (decide_eq_false (by omega)).symm | (exfalso; omega)))), ?_⟩))
              · rfl
        · first | have hT2 := of_decide_eq_true hT2 | have hT2 := of_not_decide_true hT2 | skip
          refine Ls.qF 23 2 ?_
          refine Ls.qL 24 1 ?_
          refine Ls.qF 25 1 ?_
          refine Ls.qL 26 2 ?_
          refine Ls.qE 27 (Ev.lss rfl (by rfl) (by rfl)) ?_
          refine Ls.qT 28 ?_
          refine Ls.qN 29 ?_
          refine Ls.qM 30 ?_
          refine Ent.split 30 (by rfl) (fun hT3 => ?_) (fun hT3 => ?_)
          · first | have hT3 := of_decide_eq_false hT3 | have hT3 := of_not_decide_false hT3 | skip
            refine Ls.qF 31 3 ?_
            refine Ls.qL 32 1 ?_
            refine Ls.qE 33 (Ev.neq rfl (by rfl) (by rfl)) ?_
            refine Ls.qM 34 ?_
            refine Ent.split 34 (by rfl) (fun hT4 => ?_) (fun hT4 => ?_)
            · first | have hT4 := of_decide_eq_false hT4 | have hT4 := of_not_decide_false hT4 | skip
              refine Ls.qP 35 ?_
              refine Ls.qP 36 ?_
              refine Ls.qP 37 ?_
              refine Ls.qP 38 ?_
              refine Ls.qP 39 ?_
              refine Ls.qN 40 ?_
              refine Ls.qN 41 ?_
              refine Ls.qM 42 ?_
              refine Ls.qF 43 4 ?_
              refine Ls.qL 44 1 ?_
              refine Ls.qE 45 (Ev.neq rfl (by rfl) (by rfl)) ?_
              refine Ls.qM 46 ?_
              refine Ent.split 46 (by rfl) (fun hT5 => ?_) (fun hT5 => ?_)
              · first | have hT5 := of_decide_eq_false hT5 | have hT5 := of_not_decide_false hT5 | skip
                refine Ls.qP 47 ?_
                refine Ls.qP 48 ?_
                refine Ls.qP 49 ?_
                refine Ls.qP 50 ?_
                refine Ls.qP 51 ?_
                refine Ls.qN 52 ?_
                refine Ls.qN 53 ?_
                refine Ls.nil ?_
                refine Ent.inv () ?_ ?_ ?_
                · exact trivial
                · (repeat (first | exact trivial | refine ⟨by rfl, ?_⟩ | refine ⟨by simp only [List.length_append, List.length_cons, List.length_nil]; rfl, ?_⟩ | refine ⟨by push_cast; rfl, ?_⟩ | refine ⟨by (show some (Value.bool _) = some (Value.bool _); congr 2; all_goals ((first | rfl | exact absurd hg1 hT1 | exact decide_eq_false (by omega) | exact (decide_eq_false (by omega)).symm | (exfalso; omega)))), ?_⟩))
                · rfl
              · first | have hT5 := of_decide_eq_true hT5 | have hT5 := of_not_decide_true hT5 | skip
                refine Ls.qF 47 4 ?_
                refine Ls.qL 48 1 ?_
                refine Ls.qF 49 3 ?_
                refine Ls.qL 50 2 ?_
                refine Ls.qE 51 (Ev.lss rfl (by rfl) (by rfl)) ?_
                refine Ls.qT 52 ?_
                refine Ls.qN 53 ?_
                refine Ls.nil ?_
                refine Ent.inv () ?_ ?_ ?_
                · exact trivial
                · (repeat (first | exact trivial | refine ⟨by rfl, ?_⟩ | refine ⟨by simp only [List.length_append, List.length_cons, List.length_nil]; rfl, ?_⟩ | refine ⟨by push_cast; rfl, ?_⟩ | refine ⟨by (show some (Value.bool _) = some (Value.bool _); congr 2; all_goals ((first | rfl | exact absurd hg1 hT1 | exact decide_eq_false (by omega) | exact (decide_eq_false (by omega)).symm | (exfalso; omega)))), ?_⟩))
                · rfl
            · first | have hT4 := of_decide_eq_true hT4 | have hT4 := of_not_decide_true hT4 | skip
              refine Ls.qF 35 3 ?_
              refine Ls.qL 36 1 ?_
              refine Ls.qF 37 2 ?_
              refine Ls.qL 38 2 ?_
              refine Ls.qE 39 (Ev.lss rfl (by rfl) (by rfl)) ?_
              refine Ls.qT 40 ?_
              refine Ls.qN 41 ?_
              refine Ls.qM 42 ?_
              refine Ent.split 42 (by rfl) (fun hT5 => ?_) (fun hT5 => ?_)
              · first | have hT5 := of_decide_eq_false hT5 | have hT5 := of_not_decide_false hT5 | skip
                refine Ls.qF 43 4 ?_
                refine Ls.qL 44 1 ?_
                refine Ls.qE 45 (Ev.neq rfl (by rfl) (by rfl)) ?_
                refine Ls.qM 46 ?_
                refine Ent.split 46 (by rfl) (fun hT6 => ?_) (fun hT6 => ?_)
                · first | have hT6 := of_decide_eq_false hT6 | have hT6 := of_not_decide_false hT6 | skip
                  refine Ls.qP 47 ?_
                  refine Ls.qP 48 ?_
                  refine Ls.qP 49 ?_
                  refine Ls.qP 50 ?_
                  refine Ls.qP 51 ?_
                  refine Ls.qN 52 ?_
                  refine Ls.qN 53 ?_
                  refine Ls.nil ?_
                  refine Ent.inv () ?_ ?_ ?_
                  · exact trivial
                  · (repeat (first | exact trivial | refine ⟨by rfl, ?_⟩ | refine ⟨by simp only [List.length_append, List.length_cons, List.length_nil]; rfl, ?_⟩ | refine ⟨by push_cast; rfl, ?_⟩ | refine ⟨by (show some (Value.bool _) = some (Value.bool _); congr 2; all_goals ((first | rfl | exact absurd hg1 hT1 | exact decide_eq_false (by omega) | exact (decide_eq_false (by omega)).symm | (exfalso; omega)))), ?_⟩))
                  · rfl
                · first | have hT6 := of_decide_eq_true hT6 | have hT6 := of_not_decide_true hT6 | skip
                  refine Ls.qF 47 4 ?_
                  refine Ls.qL 48 1 ?_
                  refine Ls.qF 49 3 ?_
                  refine Ls.qL 50 2 ?_
                  refine Ls.qE 51 (Ev.lss rfl (by rfl) (by rfl)) ?_
                  refine Ls.qT 52 ?_
                  refine Ls.qN 53 ?_
                  refine Ls.nil ?_
                  refine Ent.inv () ?_ ?_ ?_
                  · exact trivial
                  · (repeat (first | exact trivial | refine ⟨by rfl, ?_⟩ | refine ⟨by simp only [List.length_append, List.length_cons, List.length_nil]; rfl, ?_⟩ | refine ⟨by push_cast; rfl, ?_⟩ | refine ⟨by (show some (Value.bool _) = some (Value.bool _); congr 2; all_goals ((first | rfl | exact absurd hg1 hT1 | exact decide_eq_false (by omega) | exact (decide_eq_false (by omega)).symm | (exfalso; omega)))), ?_⟩))
                  · rfl
              · first | have hT5 := of_decide_eq_true hT5 | have hT5 := of_not_decide_true hT5 | skip
                refine Ls.qP 43 ?_
                refine Ls.qP 44 ?_
                refine Ls.qP 45 ?_
                refine Ls.qP 46 ?_
                refine Ls.qP 47 ?_
                refine Ls.qP 48 ?_
                refine Ls.qP 49 ?_
                refine Ls.qP 50 ?_
                refine Ls.qP 51 ?_
                refine Ls.qP 52 ?_
                refine Ls.qT 53 ?_
                refine Ls.nil ?_
                refine Ent.inv () ?_ ?_ ?_
                · exact trivial
                · (repeat (first | exact trivial | refine ⟨by rfl, ?_⟩ | refine ⟨by simp only [List.length_append, List.length_cons, List.length_nil]; rfl, ?_⟩ | refine ⟨by push_cast; rfl, ?_⟩ | refine ⟨by (show some (Value.bool _) = some (Value.bool _); congr 2; all_goals ((first | rfl | exact absurd hg1 hT1 | exact decide_eq_false (by omega) | exact (decide_eq_false (by omega)).symm | (exfalso; omega)))), ?_⟩))
                · rfl
          · first | have hT3 := of_decide_eq_true hT3 | have hT3 := of_not_decide_true hT3 | skip
            refine Ls.qP 31 ?_
            refine Ls.qP 32 ?_
            refine Ls.qP 33 ?_
            refine Ls.qP 34 ?_
            refine Ls.qP 35 ?_
            refine Ls.qP 36 ?_
            refine Ls.qP 37 ?_
            refine Ls.qP 38 ?_
            refine Ls.qP 39 ?_
            refine Ls.qP 40 ?_
            refine Ls.qT 41 ?_
            refine Ls.qM 42 ?_
            refine Ls.qP 43 ?_
            refine Ls.qP 44 ?_
            refine Ls.qP 45 ?_
            refine Ls.qP 46 ?_
            refine Ls.qP 47 ?_
            refine Ls.qP 48 ?_
            refine Ls.qP 49 ?_
            refine Ls.qP 50 ?_
            refine Ls.qP 51 ?_
            refine Ls.qP 52 ?_
            refine Ls.qT 53 ?_
            refine Ls.nil ?_
            refine Ent.inv () ?_ ?_ ?_
            · exact trivial
            · (repeat (first | exact trivial | refine ⟨by rfl, ?_⟩ | refine ⟨by simp only [List.length_append, List.length_cons, List.length_nil]; rfl, ?_⟩ | refine ⟨by push_cast; rfl, ?_⟩ | refine ⟨by (show some (Value.bool _) = some (Value.bool _); congr 2; all_goals ((first | rfl | exact absurd hg1 hT1 | exact decide_eq_false (by omega) | exact (decide_eq_false (by omega)).symm | (exfalso; omega)))), ?_⟩))
            · rfl
      · first | have hT1 := of_decide_eq_true hT1 | have hT1 := of_not_decide_true hT1 | skip
        refine Ls.qP 19 ?_
        refine Ls.qP 20 ?_
        refine Ls.qP 21 ?_
        refine Ls.qP 22 ?_
        refine Ls.qP 23 ?_
        refine Ls.qP 24 ?_
        refine Ls.qP 25 ?_
        refine Ls.qP 26 ?_
        refine Ls.qP 27 ?_
        refine Ls.qP 28 ?_
        refine Ls.qT 29 ?_
        refine Ls.qM 30 ?_
        refine Ls.qP 31 ?_
        refine Ls.qP 32 ?_
        refine Ls.qP 33 ?_
        refine Ls.qP 34 ?_
        refine Ls.qP 35 ?_
        refine Ls.qP 36 ?_
        refine Ls.qP 37 ?_
        refine Ls.qP 38 ?_
        refine Ls.qP 39 ?_
        refine Ls.qP 40 ?_
        refine Ls.qT 41 ?_
        refine Ls.qM 42 ?_
        refine Ls.qP 43 ?_
        refine Ls.qP 44 ?_
        refine Ls.qP 45 ?_
        refine Ls.qP 46 ?_
        refine Ls.qP 47 ?_
        refine Ls.qP 48 ?_
        refine Ls.qP 49 ?_
        refine Ls.qP 50 ?_
        refine Ls.qP 51 ?_
        refine Ls.qP 52 ?_
        refine Ls.qT 53 ?_
        refine Ls.nil ?_
        refine Ent.inv () ?_ ?_ ?_
        · exact trivial
        · (repeat (first | exact trivial | refine ⟨by rfl, ?_⟩ | refine ⟨by simp only [List.length_append, List.length_cons, List.length_nil]; rfl, ?_⟩ | refine ⟨by push_cast; rfl, ?_⟩ | refine ⟨by (show some (Value.bool _) = some (Value.bool _); congr 2; all_goals ((first | rfl | exact absurd hg1 hT1 | exact decide_eq_false (by omega) | exact (decide_eq_false (by omega)).symm | (exfalso; omega)))), ?_⟩))
        · rfl
    skip
    rintro _ -
    refine Cd.cond_false (by rfl) (rfl) ?_
    skip
    refine Cd.skip ?_
    refine Cd.seq ?_
    refine Cd.region ?_
    refine Ls.qF 55 1 ?_
    refine Ls.qL 56 2 ?_
    refine Ls.qF 57 2 ?_
    refine Ls.qL 58 1 ?_
    refine Ls.qE 59 (Ev.max rfl (by rfl) (by rfl)) ?_
    refine Ls.qF 60 2 ?_
    refine Ls.qL 61 2 ?_
    refine Ls.qF 62 3 ?_
    refine Ls.qL 63 1 ?_
    refine Ls.qE 64 (Ev.max rfl (by rfl) (by rfl)) ?_
    refine Ls.qF 65 3 ?_
    refine Ls.qL 66 2 ?_
    refine Ls.qF 67 4 ?_
    refine Ls.qL 68 1 ?_
    refine Ls.qE 69 (Ev.max rfl (by rfl) (by rfl)) ?_
    refine Ls.qE 70 (Ev.buildP (pl := [(0, 1), (1, 1), (2, 1), (3, 1)]) (zs := [.slice none 0 0, .int .i64 0, .int .i64 0, .int .i64 0]) rfl (by rfl) (by kernel_rfl) (by rfl)) ?_
    refine Ls.does (some 6) (Does.alloc (cs := [.slice none 0 0, .int .i64 0, .int .i64 0, .int .i64 0]) rfl (ZeroIs.mk (.agg #[.slice none 0 0, .int .i64 0, .int .i64 0, .int .i64 0]) (by kernel_rfl) (by rfl))) (by rfl) (by rfl) ?_
    intro g4 _
    refine Ls.qD (Does.store 0 rfl (by rfl) (by rfl) (by rfl) (by kernel_rfl) (by rfl) (by kernel_rfl) (by rfl)) ?_
    intro _ _
    refine Ls.nil ?_
    refine Cd.seq ?_
    refine Cd.region ?_
    refine Ls.qA 7 ?_
    refine Ls.nil ?_
    refine Cd.seq ?_
    refine Cd.region ?_
    refine Ls.qA 8 ?_
    refine Ls.nil ?_
    refine Cd.seq ?_
    refine Cd.seq ?_
    refine Cd.region ?_
    refine Ls.qA 9 ?_
    refine Ls.nil ?_
    refine Cd.block ?_
    have hmx : ∀ a b : Int, (if a < b then b else a) = max a b := fun a b => by split <;> omega
    rw [hmx, hmx, hmx]
    refine Ent.nil 42 4 ?_
    refine Cd.loop (ι := Nat × Nat × (Option Addr × Nat) × List TbP) (fun p => [(2, .pointer (some ⟨g1, 0, none⟩)), (3, .pointer (some ⟨g2, 0, none⟩)), (4, .pointer (some ⟨g3, 0, none⟩)), (6, .pointer (some ⟨g4, 0, none⟩)), (7, .slice p.2.2.1.1 p.2.2.2.length p.2.2.1.2), (8, .int .i64 p.2.1), (9, .int .i64 p.1)]) (fun p => [rowTb p.2.2.1.1 p.2.2.2.length p.2.2.1.2 p.2.2.2, blk g4 24 [.slice none 0 0, .int .i64 (max v.nx e.nx), .int .i64 (max v.lg e.lg), .int .i64 (max v.sq e.sq)], blk g3 24 [.slice none 0 0, .int .i64 0, .int .i64 0, .int .i64 0], blk g2 27 [.slice B e.add.length b, .slice D e.drop.length d, .int .i64 e.nx, .int .i64 e.lg, .int .i64 e.sq], blk g1 24 [.slice A v.tbs.length c, .int .i64 v.nx, .int .i64 v.lg, .int .i64 v.sq], rdT A v.tbs, rdT B e.add, rd D e.drop.length 1 (ints e.drop)]) (fun p => p.1 ≤ v.tbs.length ∧ p.2.2.2 = keptN (v.tbs.take p.1) e.drop ∧ p.2.1 = goneN (v.tbs.take p.1) e.drop ∧ ∀ t ∈ v.tbs.take p.1, e.drop.count t.num ≤ 1) (fun p => v.tbs.length - p.1) ((0, 0, (none, 0), [])) (⟨Nat.zero_le _, rfl, rfl, fun t h => absurd (show t ∈ [] from h) List.not_mem_nil⟩) ?_ rfl ?_
    · (repeat (first | exact trivial | refine ⟨by rfl, ?_⟩))
    rintro ⟨i, gn, ⟨kA, kc⟩, K⟩ ⟨hi, hK, hgn, hone⟩
    dsimp only at hi hK hgn hone ⊢
    have hKl : K.length ≤ v.tbs.length := by
      rw [hK]
      exact Nat.le_trans (List.length_filter_le _ _) (by rw [List.length_take]; omega)
    have hgl : gn ≤ v.tbs.length := by
      rw [hgn]
      exact Nat.le_trans (goneN_le hone) (by rw [List.length_take]; omega)
    refine Cd.seq ?_
    refine Cd.seq ?_
    refine Cd.region ?_
    refine Ls.qM 71 ?_
    refine Ls.qF 72 0 ?_
    refine Ls.qL 73 4 ?_
    refine Ls.qE 74 (Ev.len rfl (by rfl) Tryz.underlying22) ?_
    refine Ls.qE 75 (Ev.lss rfl (by rfl) (by rfl)) ?_
    refine Ls.nil ?_
    refine Cd.cond _ (by rfl) (fun h2 => ?_) (fun h2 => ?_)
    · skip
      have hlt : i < v.tbs.length := by have := of_decide_eq_true h2; omega
      obtain ⟨t, ht⟩ := get_of_lt hlt
      have htk : v.tbs.take (i + 1) = v.tbs.take i ++ [t] := by rw [List.take_add_one, ht]; rfl
      refine Ent.rdSome 5 (by rfl) (by omega) (fun ad had => ?_)
      obtain rfl : A = some ad := had
      refine Cd.skip ?_
      refine Cd.seq ?_
      refine Cd.block ?_
      refine Cd.seq ?_
      refine Cd.region ?_
      refine Ls.qA 10 ?_
      refine Ls.nil ?_
      refine Cd.seq ?_
      refine Cd.seq ?_
      refine Cd.region ?_
      refine Ls.qA 11 ?_
      refine Ls.nil ?_
      refine Cd.block ?_
      refine Cd.loop (ι := Nat × Nat) (fun p => [(2, .pointer (some ⟨g1, 0, none⟩)), (3, .pointer (some ⟨g2, 0, none⟩)), (4, .pointer (some ⟨g3, 0, none⟩)), (6, .pointer (some ⟨g4, 0, none⟩)), (7, .slice kA K.length kc), (8, .int .i64 gn), (9, .int .i64 i), (10, .int .i64 p.2), (11, .int .i64 p.1)]) (fun _ => [rowTb kA K.length kc K, blk g4 24 [.slice none 0 0, .int .i64 (max v.nx e.nx), .int .i64 (max v.lg e.lg), .int .i64 (max v.sq e.sq)], blk g3 24 [.slice none 0 0, .int .i64 0, .int .i64 0, .int .i64 0], blk g2 27 [.slice B e.add.length b, .slice D e.drop.length d, .int .i64 e.nx, .int .i64 e.lg, .int .i64 e.sq], blk g1 24 [.slice (some ad) v.tbs.length c, .int .i64 v.nx, .int .i64 v.lg, .int .i64 v.sq], rdT (some ad) v.tbs, rdT B e.add, rd D e.drop.length 1 (ints e.drop)]) (fun p => p.1 ≤ e.drop.length ∧ p.2 = (e.drop.take p.1).count t.num) (fun p => e.drop.length - p.1) ((0, 0)) (⟨Nat.zero_le _, rfl⟩) ?_ rfl ?_
      · (repeat (first | exact trivial | refine ⟨by rfl, ?_⟩))
      rintro ⟨k, n⟩ ⟨hk, hn⟩
      dsimp only at hk hn ⊢
      have hnl : n ≤ k := by
        rw [hn]
        exact Nat.le_trans List.count_le_length (by rw [List.length_take]; omega)
      refine Cd.seq ?_
      refine Cd.seq ?_
      refine Cd.region ?_
      refine Ls.qM 78 ?_
      refine Ls.qF 79 1 ?_
      refine Ls.qL 80 3 ?_
      refine Ls.qE 81 (Ev.len rfl (by rfl) Tryz.underlying25) ?_
      refine Ls.qE 82 (Ev.lss rfl (by rfl) (by rfl)) ?_
      refine Ls.nil ?_
      refine Cd.cond _ (by rfl) (fun h3 => ?_) (fun h3 => ?_)
      · skip
        have hkl : k < e.drop.length := by have := of_decide_eq_true h3; omega
        obtain ⟨x, hx⟩ := get_of_lt hkl
        have hcx : (e.drop.take (k + 1)).count t.num = n + if x = t.num then 1 else 0 := by
          rw [List.take_add_one, hx, hn]
          exact count_snoc _ _ _
        refine Ent.rdSome 7 (by rfl) (by omega) (fun dd hdd => ?_)
        obtain rfl : D = some dd := hdd
        skip
        refine Cd.skip ?_
        refine Cd.seq ?_
        refine Cd.block ?_
        refine Cd.seq ?_
        refine Cd.draw [] (by kernel_rfl) ?_
        refine Rg.qE 0 85 (by rfl) (Ev.fieldAddr (k := 1) rfl (by rfl) (by kernel_rfl) (by rfl)) ?_
        refine Rg.qE 1 86 (by rfl) (Ev.load 3 rfl (by rfl) (by rfl) (by kernel_rfl) (by rfl)) ?_
        refine Rg.qE 2 87 (by rfl) (Ev.move rfl (by rfl)) ?_
        refine Rg.qE 3 88 (by rfl) (Ev.indexAt (sz := 1) rfl (by rfl) (by rfl) Tryz.underlying25 (by kernel_rfl) (by omega)) ?_
        refine Rg.qE 4 89 (by rfl) (Ev.loadInt rfl (by rfl) (ReadsIn.rd 7 (by rfl)) (by kernel_rfl) (by assumption)) ?_
        refine Rg.qE 5 90 (by rfl) (Ev.fieldAddr (k := 0) rfl (by rfl) (by kernel_rfl) (by rfl)) ?_
        refine Rg.qE 6 91 (by rfl) (Ev.load 4 rfl (by rfl) (by rfl) (by kernel_rfl) (by rfl)) ?_
        refine Rg.qE 7 92 (by rfl) (Ev.move rfl (by rfl)) ?_
        refine Rg.qE 8 93 (by rfl) (Ev.indexAt (sz := 4) rfl (by rfl) (by rfl) Tryz.underlying22 (by kernel_rfl) (by omega)) ?_
        refine Rg.qE 9 94 (by rfl) (Ev.fieldAddrE0 (k := 0) rfl (by rfl) (by kernel_rfl)) ?_
        refine Rg.qE 10 95 (by rfl) (Ev.loadElF rfl (by rfl) (ReadsIn.rd 5 (by rfl)) (by kernel_rfl) (by intro _; rfl) (by assumption) (by rfl)) ?_
        refine Rg.qE 11 96 (by rfl) (Ev.eql rfl (by rfl) (by rfl)) ?_
        refine Rg.done (by kernel_rfl) ?_ _
        by_cases hxe : x = t.num
        · rw [if_pos hxe] at hcx
          skip
          refine Cd.cond_true (by rfl) (decide_eq_true hxe) ?_
          refine Cd.region ?_
          refine Ls.qM 97 ?_
          refine Ls.qE 98 (Ev.addN (b := 1) rfl (by rfl) (by rfl) (by omega)) ?_
          refine Ls.qA 10 ?_
          refine Ls.nil ?_
          refine Cd.region ?_
          refine Ls.qM 83 ?_
          refine Ls.qE 84 (Ev.addN (b := 1) rfl (by rfl) (by rfl) (by omega)) ?_
          refine Ls.qA 11 ?_
          refine Ls.nil ?_
          refine Ent.inv ((k + 1, n + 1)) ?_ ?_ ?_
          · (try dsimp only); exact ⟨⟨hkl, hcx.symm⟩, by omega⟩
          · (repeat (first | exact trivial | refine ⟨by rfl, ?_⟩ | refine ⟨by simp only [List.length_append, List.length_cons, List.length_nil]; rfl, ?_⟩ | refine ⟨by push_cast; rfl, ?_⟩))
          · rfl
        · rw [if_neg hxe] at hcx
          skip
          refine Cd.cond_false (by rfl) (decide_eq_false hxe) ?_
          refine Cd.skip ?_
          refine Cd.region ?_
          refine Ls.qM 83 ?_
          refine Ls.qE 84 (Ev.addN (b := 1) rfl (by rfl) (by rfl) (by omega)) ?_
          refine Ls.qA 11 ?_
          refine Ls.nil ?_
          refine Ent.inv ((k + 1, n)) ?_ ?_ ?_
          · (try dsimp only); exact ⟨⟨hkl, hcx.symm⟩, by omega⟩
          · (repeat (first | exact trivial | refine ⟨by rfl, ?_⟩ | refine ⟨by simp only [List.length_append, List.length_cons, List.length_nil]; rfl, ?_⟩ | refine ⟨by push_cast; rfl, ?_⟩))
          · rfl
      skip
      have hge : e.drop.length ≤ k := by have := of_decide_eq_false h3; omega
      rw [List.take_of_length_le hge] at hn
      skip
      refine Cd.exit ?_
      refine Cd.seq ?_
      refine Cd.seq ?_
      refine Cd.region ?_
      refine Ls.qM 99 ?_
      refine Ls.qE 100 (Ev.gtr rfl (by rfl) (by rfl)) ?_
      refine Ls.nil ?_
      by_cases hmany : 1 < n
      · skip
        refine Cd.cond_true (by rfl) (decide_eq_true (show (1 : Int) < (n : Int) by omega)) ?_
        refine Cd.seq ?_
        refine Cd.region ?_
        refine Ls.qE 101 (Ev.buildP (pl := [(0, 1), (1, 1), (2, 1), (3, 1)]) (zs := [.slice none 0 0, .int .i64 0, .int .i64 0, .int .i64 0]) rfl (by rfl) (by kernel_rfl) (by rfl)) ?_
        refine Ls.qD (Does.store 2 rfl (by rfl) (by rfl) (by rfl) (by kernel_rfl) (by rfl) (by kernel_rfl) (by rfl)) ?_
        intro _ _
        refine Ls.qA 5 ?_
        refine Ls.nil ?_
        refine Cd.ret ?_
        refine Ent.ret ((none, (none, 0, 0, 0, 0, 0))) (⟨fun h => (by cases h), fun h => absurd (((drop_iff hg1 e.drop).1 h.2.2.1).1 t (List.mem_of_getElem? ht)) (by omega)⟩) (Res.cell_tmp 2 (by rfl) (by rfl) (by rfl) (n := 4) (by kernel_rfl) (by rfl) (by rfl) (by rfl)) ?_ [] (by rfl) ?_
        · rfl
        · rfl
      have hone2 : ∀ u ∈ v.tbs.take (i + 1), e.drop.count u.num ≤ 1 := fun u hu => by
        rw [htk] at hu
        rcases List.mem_append.1 hu with hu | hu
        · exact hone u hu
        · rw [List.mem_singleton.1 hu]
          omega
      have hgn2 : goneN (v.tbs.take (i + 1)) e.drop = gn + n := by rw [htk, goneN_snoc, ← hgn, ← hn]
      have hK2 : keptN (v.tbs.take (i + 1)) e.drop = K ++ if n = 0 then [t] else [] := by rw [htk, keptN_snoc, ← hK, ← hn]
      skip
      refine Cd.cond_false (by rfl) (decide_eq_false (show ¬ ((1 : Int) < (n : Int)) by omega)) ?_
      refine Cd.skip ?_
      refine Cd.seq ?_
      refine Cd.seq ?_
      refine Cd.region ?_
      refine Ls.qM 102 ?_
      refine Ls.qE 103 (Ev.eql rfl (by rfl) (by rfl)) ?_
      refine Ls.nil ?_
      by_cases hn0 : n = 0
      · rw [if_pos hn0] at hK2
        skip
        refine Cd.cond_true (by rfl) (decide_eq_true (show (n : Int) = 0 by omega)) ?_
        refine Cd.region ?_
        refine Ls.qM 104 ?_
        refine Ls.qF 105 0 ?_
        refine Ls.qL 106 4 ?_
        refine Ls.qM 107 ?_
        refine Ls.qE 108 (Ev.indexAt (sz := 4) rfl (by rfl) (by rfl) Tryz.underlying22 (by kernel_rfl) (by omega)) ?_
        refine Ls.qE 109 (Ev.loadEl (enc := TbP.enc) (sz := 4) rfl (by rfl) (ReadsIn.rd 5 (by rfl)) (by kernel_rfl) (fun _ => rfl) ht) ?_
        refine Ls.does (some 110) (Does.lit (sz := 4) rfl (by rfl) Tryz.underlying22 (by kernel_rfl) (by rfl) (by kernel_rfl)) (by rfl) (by rfl) ?_
        intro g5 _
        refine Ls.does (some 111) (Does.app (xs := tbs K) (news := tbs [t]) 1 rfl (by rfl) (by rfl) (by rfl) (ReadsIn.row 0 (by rfl)) elem_tb (one_tb _) (show (K.length + 1) * 48 ≤ 140737488355328 by omega)) (by rfl) (by rfl) ?_
        rintro ⟨qA, qc⟩ -
        have hrow : row qA (K.length + 1) qc 42 4 (tbs K ++ tbs [t]) = rowTb qA (K ++ [t]).length qc (K ++ [t]) := by
          rw [← tbs_append, List.length_append]
          rfl
        refine Ls.qA 7 ?_
        refine Ls.nil ?_
        refine Cd.region ?_
        refine Ls.qM 112 ?_
        refine Ls.qM 113 ?_
        refine Ls.qE 114 (Ev.addN rfl (by rfl) (by rfl) (by omega)) ?_
        refine Ls.qA 8 ?_
        refine Ls.nil ?_
        refine Cd.region ?_
        refine Ls.qM 76 ?_
        refine Ls.qE 77 (Ev.addN (b := 1) rfl (by rfl) (by rfl) (by omega)) ?_
        refine Ls.qA 9 ?_
        refine Ls.nil ?_
        refine Ent.pick [1, 2, 3, 4, 5, 6, 7, 8] (by rfl) ?_
        refine Ent.inv ((i + 1, gn + n, (qA, qc), K ++ [t])) ?_ ?_ ?_
        · (try dsimp only); exact ⟨⟨hlt, hK2.symm, hgn2.symm, hone2⟩, by omega⟩
        · (repeat (first | exact trivial | refine ⟨by rfl, ?_⟩ | refine ⟨by simp only [List.length_append, List.length_cons, List.length_nil]; rfl, ?_⟩ | refine ⟨by push_cast; rfl, ?_⟩ | refine ⟨by (show some (Value.slice _ _ _) = some (Value.slice _ _ _); rw [List.length_append]; rfl), ?_⟩))
        · (show [_, _, _, _, _, _, _, _] = [_, _, _, _, _, _, _, _]; dsimp only; rw [← hrow] <;> rfl)
      · rw [if_neg hn0, List.append_nil] at hK2
        skip
        refine Cd.cond_false (by rfl) (decide_eq_false (show ¬ ((n : Int) = 0) by omega)) ?_
        refine Cd.skip ?_
        refine Cd.region ?_
        refine Ls.qM 112 ?_
        refine Ls.qM 113 ?_
        refine Ls.qE 114 (Ev.addN rfl (by rfl) (by rfl) (by omega)) ?_
        refine Ls.qA 8 ?_
        refine Ls.nil ?_
        refine Cd.region ?_
        refine Ls.qM 76 ?_
        refine Ls.qE 77 (Ev.addN (b := 1) rfl (by rfl) (by rfl) (by omega)) ?_
        refine Ls.qA 9 ?_
        refine Ls.nil ?_
        refine Ent.inv ((i + 1, gn + n, (kA, kc), K)) ?_ ?_ ?_
        · (try dsimp only); exact ⟨⟨hlt, hK2.symm, hgn2.symm, hone2⟩, by omega⟩
        · (repeat (first | exact trivial | refine ⟨by rfl, ?_⟩ | refine ⟨by simp only [List.length_append, List.length_cons, List.length_nil]; rfl, ?_⟩ | refine ⟨by push_cast; rfl, ?_⟩))
        · rfl
    skip
    have hge : v.tbs.length ≤ i := by have := of_decide_eq_false h2; omega
    rw [List.take_of_length_le hge] at hK hgn hone
    have hKk : K = keptT v e.drop := by rw [kept_count]; exact hK
    refine Cd.exit ?_
    refine Cd.seq ?_
    refine Cd.seq ?_
    refine Cd.region ?_
    refine Ls.qM 115 ?_
    refine Ls.qF 116 1 ?_
    refine Ls.qL 117 3 ?_
    refine Ls.qE 118 (Ev.len rfl (by rfl) Tryz.underlying25) ?_
    refine Ls.qE 119 (Ev.neq rfl (by rfl) (by rfl)) ?_
    refine Ls.nil ?_
    by_cases hgone : gn = e.drop.length
    rotate_left
    · skip
      refine Cd.cond_true (by rfl) (decide_eq_true (show (gn : Int) ≠ (e.drop.length : Int) by omega)) ?_
      refine Cd.seq ?_
      refine Cd.region ?_
      refine Ls.qE 120 (Ev.buildP (pl := [(0, 1), (1, 1), (2, 1), (3, 1)]) (zs := [.slice none 0 0, .int .i64 0, .int .i64 0, .int .i64 0]) rfl (by rfl) (by kernel_rfl) (by rfl)) ?_
      refine Ls.qD (Does.store 2 rfl (by rfl) (by rfl) (by rfl) (by kernel_rfl) (by rfl) (by kernel_rfl) (by rfl)) ?_
      intro _ _
      refine Ls.qA 5 ?_
      refine Ls.nil ?_
      refine Cd.ret ?_
      refine Ent.ret ((none, (none, 0, 0, 0, 0, 0))) (⟨fun h => (by cases h), fun h => absurd (((drop_iff hg1 e.drop).1 h.2.2.1).2) (by rw [hgn] at hgone; exact hgone)⟩) (Res.cell_tmp 2 (by rfl) (by rfl) (by rfl) (n := 4) (by kernel_rfl) (by rfl) (by rfl) (by rfl)) ?_ [] (by rfl) ?_
      · rfl
      · rfl
    have hdok : DropOk v e.drop := (drop_iff hg1 e.drop).2 ⟨hone, by rw [hgn] at hgone; exact hgone⟩
    skip
    refine Cd.cond_false (by rfl) (decide_eq_false (show ¬ ((gn : Int) ≠ (e.drop.length : Int)) by omega)) ?_
    refine Cd.skip ?_
    refine Cd.seq ?_
    refine Cd.region ?_
    refine Ls.qM 121 ?_
    refine Ls.qF 122 0 ?_
    refine Ls.qL 123 3 ?_
    refine Ls.does (some 124) (Does.app (xs := tbs K) (news := tbs e.add) 0 rfl (by rfl) (by rfl) (by rfl) (ReadsIn.rd 6 (by rfl)) elem_tb (one_tb _) (show (K.length + e.add.length) * 48 ≤ 140737488355328 by omega)) (by rfl) (by rfl) ?_
    rintro ⟨qA, qc⟩ -
    have hL : row qA (K.length + e.add.length) qc 42 4 (tbs K ++ tbs e.add) = rowTb qA (K ++ e.add).length qc (K ++ e.add) := by
      rw [← tbs_append, List.length_append]
    refine Ls.qA 7 ?_
    refine Ls.nil ?_
    refine Cd.seq ?_
    refine Cd.block ?_
    refine Ent.nil 42 4 ?_
    refine Ent.pick [1, 0, 2, 3] (by rfl) ?_
    refine Ent.norm ([(4, .pointer (some ⟨g3, 0, none⟩)), (6, .pointer (some ⟨g4, 0, none⟩)), (7, .slice qA (K ++ e.add).length qc)]) ([rowTb qA (K ++ e.add).length qc (K ++ e.add), rowTb none 0 0 [], blk g4 24 [.slice none 0 0, .int .i64 (max v.nx e.nx), .int .i64 (max v.lg e.lg), .int .i64 (max v.sq e.sq)], blk g3 24 [.slice none 0 0, .int .i64 0, .int .i64 0, .int .i64 0]]) (by repeat (first | refine ⟨by (show some (Value.slice _ _ _) = some (Value.slice _ _ _); rw [List.length_append]; rfl), ?_⟩ | exact trivial | refine ⟨by rfl, ?_⟩ | refine ⟨by simp only [List.length_append, List.length_cons, List.length_nil]; rfl, ?_⟩ | refine ⟨by push_cast; rfl, ?_⟩)) (by (rw [← hL] <;> rfl)) ?_
    have hLl : (K ++ e.add).length ≤ 20000000 := by rw [List.length_append]; omega
    obtain ⟨L0, hL0⟩ : ∃ L0, L0 = K ++ e.add := ⟨_, rfl⟩
    rw [← hL0] at hLl ⊢
    refine Cd.loop (ι := (List TbP × (Option Addr × Nat)) × (List TbP × (Option Addr × Nat))) (fun p => [(4, .pointer (some ⟨g3, 0, none⟩)), (6, .pointer (some ⟨g4, 0, none⟩)), (7, .slice p.2.2.1 p.2.1.length p.2.2.2)]) (fun p => [rowTb p.2.2.1 p.2.1.length p.2.2.2 p.2.1, rowTb p.1.2.1 p.1.1.length p.1.2.2 p.1.1, blk g4 24 [.slice p.1.2.1 p.1.1.length p.1.2.2, .int .i64 (max v.nx e.nx), .int .i64 (max v.lg e.lg), .int .i64 (max v.sq e.sq)], blk g3 24 [.slice none 0 0, .int .i64 0, .int .i64 0, .int .i64 0]]) (fun p => Sel L0 p.1.1 p.2.1) (fun p => p.2.1.length) ((([], (none, 0)), (L0, (qA, qc)))) (Sel.start L0) ?_ rfl ?_
    · (repeat (first | exact trivial | refine ⟨by rfl, ?_⟩))
    rintro ⟨⟨O, ⟨oA, oc⟩⟩, ⟨l, ⟨lA, lc⟩⟩⟩ hsel
    dsimp only at hsel ⊢
    have hlen : O.length + l.length = L0.length := by rw [← List.length_append]; exact hsel.perm.length_eq
    refine Cd.seq ?_
    refine Cd.seq ?_
    refine Cd.region ?_
    refine Ls.qM 125 ?_
    refine Ls.qE 126 (Ev.len rfl (by rfl) Tryz.underlying22) ?_
    refine Ls.qE 127 (Ev.gtr rfl (by rfl) (by rfl)) ?_
    refine Ls.nil ?_
    refine Cd.cond _ (by rfl) (fun h5 => ?_) (fun h5 => ?_)
    · skip
      have hl0 : 0 < l.length := by have := of_decide_eq_true h5; omega
      obtain ⟨t0, ht0⟩ := get_of_lt hl0
      refine Ent.rowSome 0 (by rfl) (by omega) (fun ad had => ?_)
      obtain rfl : lA = some ad := had
      refine Ent.fact 0 (by rfl) (p := l.length ≤ lc ∧ lc ≤ maxLen) (fun w hw => ⟨Own.le hw, Own.capLe hw⟩) (fun hlc => ?_)
      refine Cd.skip ?_
      refine Cd.block ?_
      refine Cd.seq ?_
      refine Cd.region ?_
      refine Ls.qA 12 ?_
      refine Ls.nil ?_
      refine Cd.seq ?_
      refine Cd.seq ?_
      refine Cd.region ?_
      refine Ls.qA 13 ?_
      refine Ls.nil ?_
      refine Cd.block ?_
      refine Cd.loop (ι := Nat × Nat) (fun p => [(4, .pointer (some ⟨g3, 0, none⟩)), (6, .pointer (some ⟨g4, 0, none⟩)), (7, .slice (some ad) l.length lc), (12, .int .i64 p.2), (13, .int .i64 p.1)]) (fun _ => [rowTb (some ad) l.length lc l, rowTb oA O.length oc O, blk g4 24 [.slice oA O.length oc, .int .i64 (max v.nx e.nx), .int .i64 (max v.lg e.lg), .int .i64 (max v.sq e.sq)], blk g3 24 [.slice none 0 0, .int .i64 0, .int .i64 0, .int .i64 0]]) (fun p => (1 ≤ p.1 ∧ p.1 ≤ l.length ∧ p.2 < p.1) ∧ ∀ t, l[p.2]? = some t → ∀ x ∈ l.take p.1, ltT x t = false) (fun p => l.length - p.1) ((1, 0)) (⟨⟨Nat.le_refl _, hl0, by dsimp only; omega⟩, fun t ht x hx => by
        have e1 : l.take 1 = [t0] := by rw [List.take_add_one, ht0]; rfl
        dsimp only at ht hx
        rw [ht0] at ht
        rw [e1, List.mem_singleton] at hx
        rw [hx, ← Option.some.inj ht]
        exact ltT_ord.self _⟩) ?_ rfl ?_
      · (repeat (first | exact trivial | refine ⟨by rfl, ?_⟩))
      rintro ⟨k, bst⟩ ⟨⟨hk1, hk, hbk⟩, hmin⟩
      dsimp only at hk1 hk hbk hmin ⊢
      obtain ⟨t, ht⟩ := get_of_lt (show bst < l.length by omega)
      have hmin := hmin t ht
      refine Cd.seq ?_
      refine Cd.seq ?_
      refine Cd.region ?_
      refine Ls.qM 128 ?_
      refine Ls.qM 129 ?_
      refine Ls.qE 130 (Ev.len rfl (by rfl) Tryz.underlying22) ?_
      refine Ls.qE 131 (Ev.lss rfl (by rfl) (by rfl)) ?_
      refine Ls.nil ?_
      refine Cd.cond _ (by rfl) (fun h6 => ?_) (fun h6 => ?_)
      · skip
        have hkl : k < l.length := by have := of_decide_eq_true h6; omega
        obtain ⟨u, hu⟩ := get_of_lt hkl
        have hst := best_step hmin hu
        refine Cd.skip ?_
        refine Cd.seq ?_
        refine Cd.block ?_
        refine Cd.seq ?_
        refine Cd.draw [] (by kernel_rfl) ?_
        refine Rg.qE 0 134 (by rfl) (Ev.move rfl (by rfl)) ?_
        refine Rg.qE 1 135 (by rfl) (Ev.move rfl (by rfl)) ?_
        refine Rg.qE 2 136 (by rfl) (Ev.indexAt (sz := 4) rfl (by rfl) (by rfl) Tryz.underlying22 (by kernel_rfl) (by omega)) ?_
        refine Rg.qE 3 137 (by rfl) (Ev.loadEl (enc := TbP.enc) (sz := 4) rfl (by rfl) (ReadsIn.row 0 (by rfl)) (by kernel_rfl) (fun _ => rfl) hu) ?_
        refine Rg.qE 4 138 (by rfl) (Ev.move rfl (by rfl)) ?_
        refine Rg.qE 5 139 (by rfl) (Ev.move rfl (by rfl)) ?_
        refine Rg.qE 6 140 (by rfl) (Ev.indexAt (sz := 4) rfl (by rfl) (by rfl) Tryz.underlying22 (by kernel_rfl) (by omega)) ?_
        refine Rg.qE 7 141 (by rfl) (Ev.loadEl (enc := TbP.enc) (sz := 4) rfl (by rfl) (ReadsIn.row 0 (by rfl)) (by kernel_rfl) (fun _ => rfl) ht) ?_
        refine Rg.does 8 (by rfl) (by kernel_rfl) (Does.read rfl Tryz.func41 (by kernel_rfl) (by kernel_rfl) (ahead_sl u t) (by rfl) (by rfl) trivial) (by rfl) (some 142) (by rfl) (by exact fun _ _ h => h) ?_
        rintro _ -
        refine Rg.done (by kernel_rfl) ?_ _
        cases hut : ltT u t with
        | true =>
          rw [if_pos hut] at hst
          skip
          refine Cd.cond_true (by rfl) (rfl) ?_
          refine Cd.region ?_
          refine Ls.qM 143 ?_
          refine Ls.qA 12 ?_
          refine Ls.nil ?_
          refine Cd.region ?_
          refine Ls.qM 132 ?_
          refine Ls.qE 133 (Ev.addN (b := 1) rfl (by rfl) (by rfl) (by omega)) ?_
          refine Ls.qA 13 ?_
          refine Ls.nil ?_
          refine Ent.inv ((k + 1, k)) ?_ ?_ ?_
          · (try dsimp only); exact ⟨⟨⟨by omega, hkl, by omega⟩, fun w hw => by rw [hu] at hw; rw [← Option.some.inj hw]; exact hst⟩, by omega⟩
          · (repeat (first | exact trivial | refine ⟨by rfl, ?_⟩ | refine ⟨by simp only [List.length_append, List.length_cons, List.length_nil]; rfl, ?_⟩ | refine ⟨by push_cast; rfl, ?_⟩))
          · rfl
        | false =>
          rw [if_neg (by rw [hut]; exact Bool.false_ne_true)] at hst
          skip
          refine Cd.cond_false (by rfl) (rfl) ?_
          refine Cd.skip ?_
          refine Cd.region ?_
          refine Ls.qM 132 ?_
          refine Ls.qE 133 (Ev.addN (b := 1) rfl (by rfl) (by rfl) (by omega)) ?_
          refine Ls.qA 13 ?_
          refine Ls.nil ?_
          refine Ent.inv ((k + 1, bst)) ?_ ?_ ?_
          · (try dsimp only); exact ⟨⟨⟨by omega, hkl, by omega⟩, fun w hw => by rw [ht] at hw; rw [← Option.some.inj hw]; exact hst⟩, by omega⟩
          · (repeat (first | exact trivial | refine ⟨by rfl, ?_⟩ | refine ⟨by simp only [List.length_append, List.length_cons, List.length_nil]; rfl, ?_⟩ | refine ⟨by push_cast; rfl, ?_⟩))
          · rfl
      skip
      have hge2 : l.length ≤ k := by have := of_decide_eq_false h6; omega
      rw [List.take_of_length_le hge2] at hmin
      have hsel2 := hsel.step ht hmin
      have hbl : bst < l.length := by omega
      refine Cd.exit ?_
      refine Cd.seq ?_
      refine Ent.pick [2, 0, 1, 3] (by rfl) ?_
      skip
      skip
      refine Cd.drawS [0, 1] [9] (by kernel_rfl) ?_
      refine Rg.ev 0 (by rfl) (fun _ h => h.pick [0, 1] rfl) (Ev.fieldAddr (k := 0) rfl (by rfl) (by kernel_rfl) (by rfl)) (by rfl) (some 144) (by rfl) (by kernel_rfl) (by kernel_rfl) (by kernel_rfl) (by kernel_rfl) ?_
      refine Rg.ev 1 (by rfl) (fun _ h => h.pick [0, 1] rfl) (Ev.load 0 rfl (by rfl) (by rfl) (by kernel_rfl) (by rfl)) (by rfl) (some 145) (by rfl) (by kernel_rfl) (by kernel_rfl) (by kernel_rfl) (by kernel_rfl) ?_
      refine Rg.ev 2 (by rfl) (fun _ h => h.pick [0, 1] rfl) (Ev.move rfl (by rfl)) (by rfl) (some 146) (by rfl) (by kernel_rfl) (by kernel_rfl) (by kernel_rfl) (by kernel_rfl) ?_
      refine Rg.ev 3 (by rfl) (fun _ h => h.pick [0, 1] rfl) (Ev.move rfl (by rfl)) (by rfl) (some 147) (by rfl) (by kernel_rfl) (by kernel_rfl) (by kernel_rfl) (by kernel_rfl) ?_
      refine Rg.ev 4 (by rfl) (fun _ h => h.pick [0, 1] rfl) (Ev.indexAt (sz := 4) rfl (by rfl) (by rfl) Tryz.underlying22 (by kernel_rfl) (by omega)) (by rfl) (some 148) (by rfl) (by kernel_rfl) (by kernel_rfl) (by kernel_rfl) (by kernel_rfl) ?_
      refine Rg.ev 5 (by rfl) (fun _ h => h.pick [0, 1] rfl) (Ev.loadEl (enc := TbP.enc) (sz := 4) rfl (by rfl) (ReadsIn.row 1 (by rfl)) (by kernel_rfl) (fun _ => rfl) ht) (by rfl) (some 149) (by rfl) (by kernel_rfl) (by kernel_rfl) (by kernel_rfl) (by kernel_rfl) ?_
      skip
      refine Rg.one 6 (by kernel_rfl) ?_; refine RgO.does 6 (by rfl) (Does.lit (sz := 4) rfl (by rfl) Tryz.underlying22 (by kernel_rfl) (by rfl) (by kernel_rfl)) (by rfl) (some 150) (by rfl) (by exact fun _ _ h => h.pick [1, 2] (by rfl)) ?_
      intro g5 _
      refine Rg.one 7 (by kernel_rfl) ?_; refine RgO.does 7 (by rfl) (Does.app (xs := tbs O) (news := tbs [t]) 3 rfl (by rfl) (by rfl) (by rfl) (ReadsIn.row 0 (by rfl)) elem_tb (one_tb _) (show (O.length + 1) * 48 ≤ 140737488355328 by omega)) (by rfl) (some 151) (by rfl) (by exact fun _ _ h => h.pick [1, 2] (by rfl)) ?_
      rintro ⟨wA, wc⟩ -
      refine Rg.ev 8 (by rfl) (by exact fun _ h => h.pick [1, 2] (by rfl)) (Ev.fieldAddr (k := 0) rfl (by rfl) (by kernel_rfl) (by rfl)) (by rfl) (some 152) (by rfl) (by kernel_rfl) (by kernel_rfl) (by kernel_rfl) (by kernel_rfl) ?_
      refine Rg.one 9 (by kernel_rfl) ?_; refine RgO.tail 9 (by rfl) (Does.store 1 rfl (by rfl) (by rfl) (by rfl) (by kernel_rfl) (by rfl) (by kernel_rfl) (by rfl)) (by rfl) none (by rfl) (by kernel_rfl) (by kernel_rfl) ?_
      intro _ _
      skip
      have hrow : row wA (O.length + 1) wc 42 4 (tbs O ++ tbs [t]) = rowTb wA (O ++ [t]).length wc (O ++ [t]) := by
        rw [← tbs_append, List.length_append]
        rfl
      refine Rg.done (by kernel_rfl) ?_ _
      refine Cd.seq ?_
      refine Ent.pick [2, 3, 1, 4] (by rfl) ?_
      refine Cd.region ?_
      refine Ls.does (some 153) (Does.lit0 (sz := 4) rfl Tryz.underlying22 (by kernel_rfl)) (by rfl) (by rfl) ?_
      intro g6 _
      refine Ls.qM 154 ?_
      refine Ls.qM 155 ?_
      refine Ls.qE 156 (Ev.sliceHn (h := bst) (sz := 4) rfl (by rfl) (by rfl) Tryz.underlying22 (by kernel_rfl) (by omega)) ?_
      refine Ls.does (some 157) (Does.app (xs := []) (news := (tbs l).take (bst * 4)) 0 rfl (by rfl) (by rfl) (by rfl) (reads_frontR 1 (by rfl) (by omega)) elem_tb (by rw [tbs_take]; exact one_tb _) (show (0 + bst) * 48 ≤ 140737488355328 by omega)) (by rfl) (by rfl) ?_
      rintro ⟨xA, xc⟩ -
      refine Ls.qA 14 ?_
      refine Ls.nil ?_
      refine Cd.region ?_
      refine Ls.qM 158 ?_
      refine Ls.qM 159 ?_
      refine Ls.qM 160 ?_
      refine Ls.qE 161 (Ev.addN (b := 1) rfl (by rfl) (by rfl) (by omega)) ?_
      refine Ls.qE 162 (Ev.sliceLn (l := bst + 1) (sz := 4) rfl (by rfl) (by rfl) Tryz.underlying22 (by kernel_rfl) (by omega)) ?_
      refine Ls.does (some 163) (Does.app (xs := [] ++ (tbs l).take (bst * 4)) (news := tbs (l.drop (bst + 1))) 0 rfl (by rfl) (by rfl) (by rfl) (cut_reads 1 (bst + 1) (by rfl) rfl (by omega) hlc.1) elem_tb (one_tb _) (show ((0 + bst) + (l.length - (bst + 1))) * 48 ≤ 140737488355328 by omega)) (by rfl) (by rfl) ?_
      rintro ⟨yA, yc⟩ -
      have hel : (l.eraseIdx bst).length = 0 + bst + (l.length - (bst + 1)) := by rw [List.length_eraseIdx_of_lt hbl]; omega
      have hrow2 : row yA (0 + bst + (l.length - (bst + 1))) yc 42 4 ([] ++ (tbs l).take (bst * 4) ++ tbs (l.drop (bst + 1))) = rowTb yA (l.eraseIdx bst).length yc (l.eraseIdx bst) := by
        rw [List.nil_append, tbs_take, ← tbs_append, ← List.eraseIdx_eq_take_drop_succ, hel]
      refine Ls.qA 7 ?_
      refine Ls.nil ?_
      refine Ent.pick [0, 2, 3, 4] (by rfl) ?_
      refine Ent.inv (((O ++ [t], (wA, wc)), (l.eraseIdx bst, (yA, yc)))) ?_ ?_ ?_
      · (try dsimp only); exact ⟨hsel2, by rw [hel]; omega⟩
      · (repeat (first | exact trivial | refine ⟨by rfl, ?_⟩ | refine ⟨by simp only [List.length_append, List.length_cons, List.length_nil]; rfl, ?_⟩ | refine ⟨by push_cast; rfl, ?_⟩ | refine ⟨by (show some (Value.slice _ _ _) = some (Value.slice _ _ _); rw [hel] <;> rfl), ?_⟩))
      · (show [_, _, _, _] = [_, _, _, _]; dsimp only; rw [← hrow, ← hrow2, List.length_append]; rfl)
    · skip
      have hl0 : l = [] := List.eq_nil_of_length_eq_zero (by have := of_decide_eq_false h5; omega)
      subst hl0
      obtain ⟨hp, hs⟩ := hsel.done
      have hfO : Fine O := fun x hx => by
        have hx2 := hp.mem_iff.1 hx
        rw [hL0] at hx2
        rcases List.mem_append.1 hx2 with h | h
        · rw [hK] at h
          exact fv x (List.mem_filter.1 h).1
        · exact fe x h
      have hgs := good_sort (nx := max v.nx e.nx) (lg := max v.lg e.lg) (sq := max v.sq e.sq) hp hs
      have hout : outP v e = ⟨sortT L0, max v.nx e.nx, max v.lg e.lg, max v.sq e.sq⟩ := by
        unfold outP
        rw [hL0, hKk]
      have hgd := rgood_sl ⟨O, max v.nx e.nx, max v.lg e.lg, max v.sq e.sq⟩ oA oc (by dsimp only at hlen ⊢; rw [List.length_nil] at hlen; omega) (fun t ht => ⟨(hfO t ht).1, (hfO t ht).2.1⟩)
      refine Cd.exit ?_
      refine Cd.seq ?_
      refine Ent.pick [1, 2, 3] (by rfl) ?_
      refine Cd.draw [3] (by kernel_rfl) ?_
      refine Rg.qE 0 164 (by rfl) (Ev.loads 1 rfl (by rfl) (by rfl) (n := 4) (by kernel_rfl) (by rfl) (by rfl)) ?_
      refine Rg.qE 1 165 (by rfl) (Ev.loads 1 rfl (by rfl) (by rfl) (n := 4) (by kernel_rfl) (by rfl) (by rfl)) ?_
      refine Rg.does 2 (by rfl) (by kernel_rfl) (Does.read rfl Tryz.func22 (by kernel_rfl) (by kernel_rfl) (hgd) (by rfl) (by rfl) ⟨ReadsIn.row 0 (by rfl), trivial⟩) (by rfl) (some 166) (by rfl) (by exact fun _ _ h => h) ?_
      rintro _ -
      refine Rg.tail 3 [] (by rfl) (by kernel_rfl) (Does.store 2 rfl (by rfl) (by rfl) (by rfl) (by kernel_rfl) (by rfl) (by kernel_rfl) (by rfl)) (by rfl) none (by rfl) (by kernel_rfl) (by kernel_rfl) ?_
      intro _ _
      refine Rg.qE 4 5 (by rfl) (Ev.assign rfl (by rfl)) ?_
      refine Rg.done (by kernel_rfl) ?_ _
      by_cases hGo : goodP ⟨O, max v.nx e.nx, max v.lg e.lg, max v.sq e.sq⟩
      · skip
        have hQ := hgs.2 hGo
        rw [decide_eq_true hGo]
        refine Cd.ret ?_
        refine Ent.ret ((some (oA, oc), (none, 0, 0, 0, 0, 0))) (⟨fun _ => ⟨hg1, hg2, hdok, by rw [hout]; exact hgs.1.1 hGo⟩, fun _ => rfl⟩) (Res.cell_tmp 2 (by rfl) (by rfl) (by rfl) (n := 4) (by kernel_rfl) (by rfl) (by rfl) (by rfl)) ?_ [0] (by rfl) ?_
        · unfold rfitV
          rw [hout, ← hQ]
          try rfl
        · unfold fitC
          rw [hout, ← hQ]
          try rfl
      · skip
        rw [decide_eq_false hGo]
        refine Cd.ret ?_
        refine Ent.ret ((none, (oA, O.length, oc, max v.nx e.nx, max v.lg e.lg, max v.sq e.sq))) (⟨fun h => (by cases h), fun h => absurd (hgs.1.2 (by rw [← hout]; exact h.2.2.2)) hGo⟩) (Res.cell_tmp 2 (by rfl) (by rfl) (by rfl) (n := 4) (by kernel_rfl) (by rfl) (by rfl) (by rfl)) ?_ [] (by rfl) ?_
        · rfl
        · rfl
end Go.Proofs.YtacbkganjkipdaaGreatDoor
/-
  Arguments: lists of numbers and of texts, wherever they lie.
-/
namespace Go.Proofs.YtacbkganjkipdaaGreatDoor
open Go.RowKit
section
variable {P : Program} {w : World}
theorem wf_bd {x : Int} (h : (Lit.int .i64 x).wf = true) : -9223372036854775808 ≤ x ∧ x ≤ 9223372036854775807 := by
  have h1 : IntKind.i64.min = -9223372036854775808 := by decide
  have h2 : IntKind.i64.max = 9223372036854775807 := by decide
  simpa only [Lit.wf, h1, h2, Bool.and_eq_true, decide_eq_true_eq] using h
theorem seg_ {cs v : List Value} {off s off' : Nat} (h : (cs.drop off).take s = v) (ho : off + s = off') : cs.drop off = v ++ cs.drop off' := by
  rw [← h, ← ho, ← List.drop_drop, List.take_append_drop]
theorem val_celS {t : TypeId} {fs : Array Field} {v : Value} (ht : P.underlying t = some (.struct fs)) (h : Val P w t v) : ∃ (cs : Array Value) (n : Nat), v = .agg cs ∧ Cel P w n t cs.toList := by
  simp only [Val, ht] at h
  exact h
end
end Go.Proofs.YtacbkganjkipdaaGreatDoor
/- arguments: versions and edits, wherever they lie -/
namespace Go.Proofs.YtacbkganjkipdaaGreatDoor
open Go.RowKit
section
variable {P : Program} {w : World}
theorem cel_flatS {α : Type} [Inhabited α] {f : α → List Value} {Q : World → α → Prop} {n : Nat} {t e : TypeId} {m : Nat} {cs : List Value} (ht : P.underlying t = some (.slice e)) (hm : P.cellsOf e = m) (hm0 : 0 < m) (hf : ∀ a, (f a).length = m)
    (hcel : ∀ (n : Nat) (cs : List Value), Cel P w n e cs → ∃ a, cs = f a ∧ Q w a) (h : Cel P w n t cs) :
    ∃ A c l, cs = [.slice A (List.length l) c] ∧ Reads w w.heap.size m A l.length (l.flatMap f) ∧ (∀ a ∈ l, Q w a) ∧ l.length ≤ c ∧ c ≤ maxLen ∧ c * P.bytesOf e ≤ reachBytes := by
  have key : ∃ A n c l, cs = [.slice A n c] ∧ Reads w w.heap.size m A n (flat f l) ∧ (∀ a ∈ l, Q w a) ∧ n ≤ c ∧ c ≤ maxLen ∧ c * P.bytesOf e ≤ reachBytes := by
    rcases cel_slice ht h with rfl | ⟨a, len, cap, rfl, hl, hmx, hb, hc⟩
    · exact ⟨none, 0, 0, [], rfl, Reads.none_, by simp, Nat.le_refl _, Nat.zero_le _, by simp⟩
    · rw [hm] at hc
      have hrow : ∀ i, i < len → ∃ x : α, (∀ j, j < m → w.cell? (a.add (i * m + j)) = (f x)[j]?) ∧ Q w x := by
        intro i hi
        obtain ⟨k, cs, h1, h2, h3⟩ := hc i (by omega)
        obtain ⟨x, rfl, hx⟩ := hcel k cs h3
        exact ⟨x, fun j hj => by rw [← add_of_add]; exact h2 j hj, hx⟩
      obtain ⟨xs, hxl, hx⟩ := choose_rows hrow
      refine ⟨some a, len, cap, xs, rfl, ⟨by rw [flat_length hf, hxl], fun hn => ⟨a, rfl, ?_, fun j u hu => ?_⟩⟩, fun y hy => ?_, hl, hmx, hb⟩
      · obtain ⟨x, _, h1, _⟩ := hx 0 hn
        have h2 := h1 0 hm0
        rw [List.getElem?_eq_getElem (by rw [hf]; exact hm0)] at h2
        have := World.block_lt_of_cell? w _ h2
        rwa [block_of_add] at this
      · have hjl : j < len * m := by
          have := (List.getElem?_eq_some_iff.1 hu).1
          rwa [flat_length hf, hxl] at this
        have hk : j / m < len := Nat.div_lt_of_lt_mul (by rwa [Nat.mul_comm] at hjl)
        obtain ⟨x, h1, h2, _⟩ := hx (j / m) hk
        have hmod := Nat.mod_lt j hm0
        have e : j / m * m + j % m = j := by rw [Nat.mul_comm]; exact Nat.div_add_mod j m
        have h3 := flat_get hf h1 (j % m) hmod
        have h4 := h2 (j % m) hmod
        rw [e] at h3 h4
        rw [h4, ← h3, hu]
      · obtain ⟨i, hi⟩ := List.mem_iff_getElem?.1 hy
        have hil : i < len := by have := (List.getElem?_eq_some_iff.1 hi).1; omega
        obtain ⟨x, h1, _, h2⟩ := hx i hil
        rw [hi] at h1
        injection h1 with h1
        rw [h1]
        exact h2
  obtain ⟨A, n, c, l, rfl, hr, hq, hnc, hcm, hb⟩ := key
  have e1 : flat f l = l.flatMap f := by
    clear hr hq
    induction l with
    | nil => rfl
    | cons a l ih => simp [flat, List.flatMap_cons] at ih ⊢
  have hl : l.length = n := by
    have := hr.1
    rw [e1, flatMap_len hf] at this
    exact Nat.eq_of_mul_eq_mul_right hm0 this
  subst hl
  exact ⟨A, c, l, rfl, e1 ▸ hr, hq, hnc, hcm, hb⟩
theorem cel_intsC {n : Nat} {t e : TypeId} {cs : List Value} (ht : P.underlying t = some (.slice e)) (he : P.underlying e = some (.int .i64)) (hm : P.cellsOf e = 1) (h : Cel P w n t cs) :
    ∃ A c xs, cs = [.slice A (List.length xs) c] ∧ Reads w w.heap.size 1 A xs.length (ints xs) ∧ (∀ x ∈ xs, in64 x) ∧ xs.length ≤ c ∧ c ≤ maxLen ∧ c * P.bytesOf e ≤ reachBytes := by
  obtain ⟨A, c, l, h1, h2, h3, h4⟩ := cel_flatS (f := fun n : Int => [Value.int .i64 n]) (Q := fun _ n => in64 n) ht hm (by decide) (fun _ => rfl) (fun n cs h => by
    obtain ⟨m, rfl, hw⟩ := cel_int he h
    exact ⟨m, rfl, wf_bd hw⟩) h
  refine ⟨A, c, l, h1, ?_, h3, h4⟩
  have e1 : l.flatMap (fun n : Int => [Value.int .i64 n]) = ints l := by
    unfold ints
    clear h1 h2 h3 h4
    induction l with
    | nil => rfl
    | cons a l ih =>
      rw [List.flatMap_cons, ih]
      rfl
  rw [e1] at h2
  exact h2
end
def TbP.at_ (t : TbP) : Prop := t.fst.length ≤ 140737488355328 ∧ t.lst.length ≤ 140737488355328 ∧ in64 t.num
theorem cel_tb {w : World} (n : Nat) (cs : List Value) (h : Cel Tryz.prog w n 42 cs) : ∃ x : TbP, cs = x.enc ∧ x.at_ := by
  obtain ⟨hl, m, hf⟩ := cel_fields (k := 4) (rows := [(3, 0, 1), (3, 1, 1), (9, 2, 1), (9, 3, 1)]) Tryz.underlying42 (by kernel_rfl) (by kernel_rfl) h
  simp only [List.forall_mem_cons] at hf
  obtain ⟨h0, h1, h2, h3, _⟩ := hf
  obtain ⟨f0, e0, w0⟩ := cel_int Tryz.underlying3 h0
  obtain ⟨f1, e1, w1⟩ := cel_int Tryz.underlying3 h1
  obtain ⟨f2, e2, _, w2⟩ := cel_string Tryz.underlying9 h2
  obtain ⟨f3, e3, _, w3⟩ := cel_string Tryz.underlying9 h3
  have t0 := seg_ (off' := 1) e0 rfl
  have t1 := seg_ (off' := 2) e1 rfl
  have t2 := seg_ (off' := 3) e2 rfl
  have t3 := seg_ (off' := 4) e3 rfl
  rw [List.drop_zero] at t0
  have k2 : f2.data.toList.length = f2.size := rfl
  have k3 : f3.data.toList.length = f3.size := rfl
  unfold reachBytes at w2 w3
  refine ⟨⟨f0, f1, f2.data.toList, f3.data.toList⟩, ?_, by dsimp only; omega, by dsimp only; omega, wf_bd w0⟩
  rw [t0, t1, t2, t3, List.drop_of_length_le (by omega)]
  rfl
/-- What comes in as an edit. -/
structure EdAt (W : World) (e : EdP) (B : Option Addr) (b : Nat) (D : Option Addr) (d : Nat) : Prop where
  add : (rdT B e.add).holds W
  drp : (rd D e.drop.length 1 (ints e.drop)).holds W
  fine : Fine e.add
  ints : ∀ x ∈ e.drop, in64 x
  al : e.add.length ≤ b ∧ b ≤ maxLen
  dl : e.drop.length ≤ d ∧ d ≤ maxLen
  nx : in64 e.nx
  lg : in64 e.lg
  sq : in64 e.sq
theorem cel_edit {W : World} {n : Nat} {cs : List Value} (hc : Cel Tryz.prog W n 27 cs) : ∃ (x : EdP) (B : Option Addr) (b : Nat) (D : Option Addr) (d : Nat), cs = x.val B b D d ∧ EdAt W x B b D d := by
  obtain ⟨hl, m, hf⟩ := cel_fields (k := 5) (rows := [(22, 0, 1), (25, 1, 1), (3, 2, 1), (3, 3, 1), (3, 4, 1)]) Tryz.underlying27 (by kernel_rfl) (by kernel_rfl) hc
  simp only [List.forall_mem_cons] at hf
  obtain ⟨h0, h4, h1, h2, h3, _⟩ := hf
  obtain ⟨A, c, l, e0, hr, hq, hlc, hcm, hb⟩ := cel_flatS (f := TbP.enc) (Q := fun _ x => x.at_) Tryz.underlying22 (m := 4) (by kernel_rfl) (by decide) (fun _ => rfl) cel_tb h0
  obtain ⟨D, d, r, e4, hr4, hq4, hlc4, hcm4, hb4⟩ := cel_intsC Tryz.underlying25 Tryz.underlying3 (by kernel_rfl) h4
  obtain ⟨f1, e1, w1⟩ := cel_int Tryz.underlying3 h1
  obtain ⟨f2, e2, w2⟩ := cel_int Tryz.underlying3 h2
  obtain ⟨f3, e3, w3⟩ := cel_int Tryz.underlying3 h3
  have t0 := seg_ (off' := 1) e0 rfl
  have t4 := seg_ (off' := 2) e4 rfl
  have t1 := seg_ (off' := 3) e1 rfl
  have t2 := seg_ (off' := 4) e2 rfl
  have t3 := seg_ (off' := 5) e3 rfl
  rw [List.drop_zero] at t0
  refine ⟨⟨l, r, f1, f2, f3⟩, A, c, D, d, ?_, ⟨hr, hr4, fun t ht => hq t ht, hq4, ⟨hlc, hcm⟩, ⟨hlc4, hcm4⟩, wf_bd w1, wf_bd w2, wf_bd w3⟩⟩
  rw [t0, t4, t1, t2, t3, List.drop_of_length_le (by omega)]
  rfl
set_option maxRecDepth 100000 in
theorem val_edit {W : World} {v : Value} (h : Val Tryz.prog W 27 v) : ∃ (x : EdP) (B : Option Addr) (b : Nat) (D : Option Addr) (d : Nat), v = .agg (x.val B b D d).toArray ∧ EdAt W x B b D d := by
  obtain ⟨cs, n, rfl, hc⟩ := val_celS Tryz.underlying27 h
  obtain ⟨x, B, b, D, d, e, hx⟩ := cel_edit hc
  refine ⟨x, B, b, D, d, ?_, hx⟩
  congr 1
  apply Array.ext'
  rw [e]
end Go.Proofs.YtacbkganjkipdaaGreatDoor
/- the law ManifestFits, walked -/
namespace Go.Proofs.YtacbkganjkipdaaGreatDoor
open Go.RowKit
theorem rfit_yes {v : VsP} {e : EdP} (h : FitOk v e) (A B D : Option Addr) (c b d : Nat) (he : e.add.length ≤ 10000000) (hd : e.drop.length ≤ 1000000000) (fe : Fine e.add) (hdr : ∀ x ∈ e.drop, in64 x) : Fn Tryz.prog 10 #[.agg (v.val A c).toArray, .agg (e.val B b D d).toArray] [rdT A v.tbs, rdT B e.add, rd D e.drop.length 1 (ints e.drop)] (Option Addr × Nat) (fun q => .tuple #[.agg ((outP v e).val q.1 q.2).toArray, .bool true]) (fun q => [rowTb q.1 (outP v e).tbs.length q.2 (outP v e).tbs]) (fun _ => True) :=
  (rfit_sl v e A B D c b d (by have := good_few h.1; omega) he hd (good_fine h.1) fe hdr).turn fun i hi => match i, hi with
    | (some q, _), _ => ⟨q, trivial, rfl, fun _ _ hs => hs⟩
    | (none, _), hi => absurd (hi.2 h) (by simp)
theorem rfit_no {v : VsP} {e : EdP} (h : ¬ FitOk v e) (hv : v.tbs.length ≤ 10000000) (fv : Fine v.tbs) (A B D : Option Addr) (c b d : Nat) (he : e.add.length ≤ 10000000) (hd : e.drop.length ≤ 1000000000) (fe : Fine e.add) (hdr : ∀ x ∈ e.drop, in64 x) : Fn Tryz.prog 10 #[.agg (v.val A c).toArray, .agg (e.val B b D d).toArray] [rdT A v.tbs, rdT B e.add, rd D e.drop.length 1 (ints e.drop)] VrJ (fun q => .tuple #[vrJ q, .bool false]) (fun _ => []) (fun _ => True) :=
  (rfit_sl v e A B D c b d hv he hd fv fe hdr).turn fun i hi => match i, hi with
    | (none, q), _ => ⟨q, trivial, rfl, fun _ _ hs => hs⟩
    | (some q, _), hi => absurd (hi.1 rfl) h
theorem cut_in {W : World} {e : EdP} {B D : Option Addr} {b d : Nat} (h : EdAt W e B b D d) : EdIn (cutE e) where
  add := by
    show (e.add.take 60).length ≤ _
    rw [List.length_take]
    omega
  drl := by
    show (e.drop.take 200).length ≤ _
    rw [List.length_take]
    omega
  fine := fun t ht => h.fine t (List.mem_of_mem_take ht)
  ints := fun x hx => h.ints x (List.mem_of_mem_take hx)
  nx := h.nx
  lg := h.lg
  sq := h.sq
end Go.Proofs.YtacbkganjkipdaaGreatDoor
