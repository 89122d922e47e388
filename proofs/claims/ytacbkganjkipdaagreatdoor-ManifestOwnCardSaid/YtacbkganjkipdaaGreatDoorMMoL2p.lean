/-
  Texts joined: MnL, MnC, MnM, MoP, ByS, WlV, MoB, MnR, MnN, MnO, MoD, DvR, SlBy.
-/
import Derived.Test.YtacbkganjkipdaaGreatDoorMMoL2c
import Derived.Test.YtacbkganjkipdaaGreatDoorMMoL2g
import Derived.Test.YtacbkganjkipdaaGreatDoorMMoL2m
import Derived.Test.YtacbkganjkipdaaGreatDoorMMoL2n
import Derived.Test.YtacbkganjkipdaaGreatDoorMMoL2o
import Derived.Lib.ConvBytes
/- what comes of an edit -/
namespace Go.Proofs.YtacbkganjkipdaaGreatDoor
open Go.RowKit
abbrev EdP.val (e : EdP) (B : Option Addr) (b : Nat) (D : Option Addr) (d : Nat) : List Value := [.slice B e.add.length b, .slice D e.drop.length d, .int .i64 e.nx, .int .i64 e.lg, .int .i64 e.sq]
/-- Tables whose texts and numbers are of this world. -/
def Fine (l : List TbP) : Prop := ∀ t ∈ l, t.fst.length ≤ 140737488355328 ∧ t.lst.length ≤ 140737488355328 ∧ in64 t.num
abbrev noV : Value := .agg #[.slice none 0 0, .int .i64 0, .int .i64 0, .int .i64 0]
def fitV (v : VsP) (e : EdP) : Option (Option Addr × Nat) → Value
  | none => .tuple #[noV, .int .i64 80]
  | some p => .tuple #[.agg ((outP v e).val p.1 p.2).toArray, .int .i64 0]
def fitC (v : VsP) (e : EdP) : Option (Option Addr × Nat) → List Chunk
  | none => []
  | some p => [rowTb p.1 (outP v e).tbs.length p.2 (outP v e).tbs]
set_option maxHeartbeats 4000000 in
theorem fit_sl (v : VsP) (e : EdP) (A B D : Option Addr) (c b d : Nat) (hv : v.tbs.length ≤ 70000000) (he : e.add.length ≤ 10000000) (hd : e.drop.length ≤ 1000000000) (fv : Fine v.tbs) (fe : Fine e.add) (hdr : ∀ x ∈ e.drop, in64 x) : Fn Tryz.prog 9 #[.agg (v.val A c).toArray, .agg (e.val B b D d).toArray] [rdT A v.tbs, rdT B e.add, rd D e.drop.length 1 (ints e.drop)] (Option (Option Addr × Nat)) (fitV v e) (fitC v e) (fun p => p.isSome = true ↔ FitOk v e) := by
  refine Fn.enter Tryz.func9 rfl Tryz.ntmps9 (by rfl) ?_
  intro w0
  refine Cd.seq ?_
  refine Cd.region ?_
  refine Ls.does (some 2) (Does.box rfl (by rfl)) (by rfl) (by rfl) ?_
  intro g1 _
  refine Ls.does (some 3) (Does.box rfl (by rfl)) (by rfl) (by rfl) ?_
  intro g2 _
  refine Ls.does (some 4) (Does.alloc (cs := [.slice none 0 0, .int .i64 0, .int .i64 0, .int .i64 0]) rfl (ZeroIs.mk (.agg #[.slice none 0 0, .int .i64 0, .int .i64 0, .int .i64 0]) (by kernel_rfl) (by rfl))) (by rfl) (by rfl) ?_
  intro g3 _
  refine Ls.qA 5 ?_
  refine Ls.nil ?_
  refine Cd.seq ?_
  refine Cd.seq ?_
  by_cases hg : goodP v ∧ RiseOk v e
  rotate_left
  · skip
    refine Cd.cut (ι := Unit) (fun _ => [(4, .pointer (some ⟨g3, 0, none⟩)), (48, .bool true)]) (fun _ => [blk g3 24 [.slice none 0 0, .int .i64 0, .int .i64 0, .int .i64 0]]) (fun _ => True) ?_ ?_
    · skip
      by_cases hg1 : goodP v
      · skip
        have hr : ¬ (¬ (e.nx ≠ 0 ∧ e.nx < v.nx) ∧ ¬ (e.lg ≠ 0 ∧ e.lg < v.lg) ∧ ¬ (e.sq ≠ 0 ∧ e.sq < v.sq)) := fun h => hg ⟨hg1, h⟩
        refine Cd.region ?_
        refine Ls.qE 10 (Ev.loads 2 rfl (by rfl) (by rfl) (n := 4) (by kernel_rfl) (by rfl) (by rfl)) ?_
        refine Ls.does (some 11) (Does.read rfl Tryz.func34 (by kernel_rfl) (by kernel_rfl) (good_slV v A c (by omega) fv) (by rfl) (by rfl) ⟨ReadsIn.rd 3 (by rfl), trivial⟩) (by rfl) (by rfl) ?_
        rintro _ -
        refine Ls.qE 12 (Ev.not rfl (by rfl)) ?_
        refine Ls.qM 13 ?_
        refine Ent.split 13 (by rfl) (fun hT1 => ?_) (fun hT1 => ?_)
        · first | have hT1 := of_decide_eq_false hT1 | have hT1 := of_not_decide_false hT1 | skip
          refine Ls.qF 14 2 ?_
          refine Ls.qL 15 1 ?_
          refine Ls.qE 16 (Ev.neq rfl (by rfl) (by rfl)) ?_
          refine Ls.qM 17 ?_
          refine Ent.split 17 (by rfl) (fun hT2 => ?_) (fun hT2 => ?_)
          · first | have hT2 := of_decide_eq_false hT2 | have hT2 := of_not_decide_false hT2 | skip
            refine Ls.qP 18 ?_
            refine Ls.qP 19 ?_
            refine Ls.qP 20 ?_
            refine Ls.qP 21 ?_
            refine Ls.qP 22 ?_
            refine Ls.qN 23 ?_
            refine Ls.qN 24 ?_
            refine Ls.qM 25 ?_
            refine Ls.qF 26 3 ?_
            refine Ls.qL 27 1 ?_
            refine Ls.qE 28 (Ev.neq rfl (by rfl) (by rfl)) ?_
            refine Ls.qM 29 ?_
            refine Ent.split 29 (by rfl) (fun hT3 => ?_) (fun hT3 => ?_)
            · first | have hT3 := of_decide_eq_false hT3 | have hT3 := of_not_decide_false hT3 | skip
              refine Ls.qP 30 ?_
              refine Ls.qP 31 ?_
              refine Ls.qP 32 ?_
              refine Ls.qP 33 ?_
              refine Ls.qP 34 ?_
              refine Ls.qN 35 ?_
              refine Ls.qN 36 ?_
              refine Ls.qM 37 ?_
              refine Ls.qF 38 4 ?_
              refine Ls.qL 39 1 ?_
              refine Ls.qE 40 (Ev.neq rfl (by rfl) (by rfl)) ?_
              refine Ls.qM 41 ?_
              refine Ent.split 41 (by rfl) (fun hT4 => ?_) (fun hT4 => ?_)
              · first | have hT4 := of_decide_eq_false hT4 | have hT4 := of_not_decide_false hT4 | skip
                refine Ls.qP 42 ?_
                refine Ls.qP 43 ?_
                refine Ls.qP 44 ?_
                refine Ls.qP 45 ?_
                refine Ls.qP 46 ?_
                refine Ls.qN 47 ?_
                refine Ls.qN 48 ?_
                refine Ls.nil ?_
                refine Ent.pick [0] (by rfl) ?_
                refine Ent.inv () ?_ ?_ ?_
                · exact trivial
                · (repeat (first | exact trivial | refine ⟨by rfl, ?_⟩ | refine ⟨by simp only [List.length_append, List.length_cons, List.length_nil]; rfl, ?_⟩ | refine ⟨by push_cast; rfl, ?_⟩ | refine ⟨by (show some (Value.bool _) = some (Value.bool _); congr 2; all_goals ((first | rfl | exact absurd hg1 hT1 | exact decide_eq_true (by omega) | exact (decide_eq_true (by omega)).symm | (exfalso; omega)))), ?_⟩))
                · rfl
              · first | have hT4 := of_decide_eq_true hT4 | have hT4 := of_not_decide_true hT4 | skip
                refine Ls.qF 42 4 ?_
                refine Ls.qL 43 1 ?_
                refine Ls.qF 44 3 ?_
                refine Ls.qL 45 2 ?_
                refine Ls.qE 46 (Ev.lss rfl (by rfl) (by rfl)) ?_
                refine Ls.qT 47 ?_
                refine Ls.qN 48 ?_
                refine Ls.nil ?_
                refine Ent.pick [0] (by rfl) ?_
                refine Ent.inv () ?_ ?_ ?_
                · exact trivial
                · (repeat (first | exact trivial | refine ⟨by rfl, ?_⟩ | refine ⟨by simp only [List.length_append, List.length_cons, List.length_nil]; rfl, ?_⟩ | refine ⟨by push_cast; rfl, ?_⟩ | refine ⟨by (show some (Value.bool _) = some (Value.bool _); congr 2; all_goals ((first | rfl | exact absurd hg1 hT1 | exact decide_eq_true (by omega) | exact (decide_eq_true (by omega)).symm | (exfalso; omega)))), ?_⟩))
                · rfl
            · first | have hT3 := of_decide_eq_true hT3 | have hT3 := of_not_decide_true hT3 | skip
              refine Ls.qF 30 3 ?_
              refine Ls.qL 31 1 ?_
              refine Ls.qF 32 2 ?_
              refine Ls.qL 33 2 ?_
              refine Ls.qE 34 (Ev.lss rfl (by rfl) (by rfl)) ?_
              refine Ls.qT 35 ?_
              refine Ls.qN 36 ?_
              refine Ls.qM 37 ?_
              refine Ent.split 37 (by rfl) (fun hT4 => ?_) (fun hT4 => ?_)
              · first | have hT4 := of_decide_eq_false hT4 | have hT4 := of_not_decide_false hT4 | skip
                refine Ls.qF 38 4 ?_
                refine Ls.qL 39 1 ?_
                refine Ls.qE 40 (Ev.neq rfl (by rfl) (by rfl)) ?_
                refine Ls.qM 41 ?_
                refine Ent.split 41 (by rfl) (fun hT5 => ?_) (fun hT5 => ?_)
                · first | have hT5 := of_decide_eq_false hT5 | have hT5 := of_not_decide_false hT5 | skip
                  refine Ls.qP 42 ?_
                  refine Ls.qP 43 ?_
                  refine Ls.qP 44 ?_
                  refine Ls.qP 45 ?_
                  refine Ls.qP 46 ?_
                  refine Ls.qN 47 ?_
                  refine Ls.qN 48 ?_
                  refine Ls.nil ?_
                  refine Ent.pick [0] (by rfl) ?_
                  refine Ent.inv () ?_ ?_ ?_
                  · exact trivial
                  · (repeat (first | exact trivial | refine ⟨by rfl, ?_⟩ | refine ⟨by simp only [List.length_append, List.length_cons, List.length_nil]; rfl, ?_⟩ | refine ⟨by push_cast; rfl, ?_⟩ | refine ⟨by (show some (Value.bool _) = some (Value.bool _); congr 2; all_goals ((first | rfl | exact absurd hg1 hT1 | exact decide_eq_true (by omega) | exact (decide_eq_true (by omega)).symm | (exfalso; omega)))), ?_⟩))
                  · rfl
                · first | have hT5 := of_decide_eq_true hT5 | have hT5 := of_not_decide_true hT5 | skip
                  refine Ls.qF 42 4 ?_
                  refine Ls.qL 43 1 ?_
                  refine Ls.qF 44 3 ?_
                  refine Ls.qL 45 2 ?_
                  refine Ls.qE 46 (Ev.lss rfl (by rfl) (by rfl)) ?_
                  refine Ls.qT 47 ?_
                  refine Ls.qN 48 ?_
                  refine Ls.nil ?_
                  refine Ent.pick [0] (by rfl) ?_
                  refine Ent.inv () ?_ ?_ ?_
                  · exact trivial
                  · (repeat (first | exact trivial | refine ⟨by rfl, ?_⟩ | refine ⟨by simp only [List.length_append, List.length_cons, List.length_nil]; rfl, ?_⟩ | refine ⟨by push_cast; rfl, ?_⟩ | refine ⟨by (show some (Value.bool _) = some (Value.bool _); congr 2; all_goals ((first | rfl | exact absurd hg1 hT1 | exact decide_eq_true (by omega) | exact (decide_eq_true (by omega)).symm | (exfalso; omega)))), ?_⟩))
                  · rfl
              · first | have hT4 := of_decide_eq_true hT4 | have hT4 := of_not_decide_true hT4 | skip
                refine Ls.qP 38 ?_
                refine Ls.qP 39 ?_
                refine Ls.qP 40 ?_
                refine Ls.qP 41 ?_
                refine Ls.qP 42 ?_
                refine Ls.qP 43 ?_
                refine Ls.qP 44 ?_
                refine Ls.qP 45 ?_
                refine Ls.qP 46 ?_
                refine Ls.qP 47 ?_
                refine Ls.qT 48 ?_
                refine Ls.nil ?_
                refine Ent.pick [0] (by rfl) ?_
                refine Ent.inv () ?_ ?_ ?_
                · exact trivial
                · (repeat (first | exact trivial | refine ⟨by rfl, ?_⟩ | refine ⟨by simp only [List.length_append, List.length_cons, List.length_nil]; rfl, ?_⟩ | refine ⟨by push_cast; rfl, ?_⟩ | refine ⟨by (show some (Value.bool _) = some (Value.bool _); congr 2; all_goals ((first | rfl | exact absurd hg1 hT1 | exact decide_eq_true (by omega) | exact (decide_eq_true (by omega)).symm | (exfalso; omega)))), ?_⟩))
                · rfl
          · first | have hT2 := of_decide_eq_true hT2 | have hT2 := of_not_decide_true hT2 | skip
            refine Ls.qF 18 2 ?_
            refine Ls.qL 19 1 ?_
            refine Ls.qF 20 1 ?_
            refine Ls.qL 21 2 ?_
            refine Ls.qE 22 (Ev.lss rfl (by rfl) (by rfl)) ?_
            refine Ls.qT 23 ?_
            refine Ls.qN 24 ?_
            refine Ls.qM 25 ?_
            refine Ent.split 25 (by rfl) (fun hT3 => ?_) (fun hT3 => ?_)
            · first | have hT3 := of_decide_eq_false hT3 | have hT3 := of_not_decide_false hT3 | skip
              refine Ls.qF 26 3 ?_
              refine Ls.qL 27 1 ?_
              refine Ls.qE 28 (Ev.neq rfl (by rfl) (by rfl)) ?_
              refine Ls.qM 29 ?_
              refine Ent.split 29 (by rfl) (fun hT4 => ?_) (fun hT4 => ?_)
              · first | have hT4 := of_decide_eq_false hT4 | have hT4 := of_not_decide_false hT4 | skip
                refine Ls.qP 30 ?_
                refine Ls.qP 31 ?_
                refine Ls.qP 32 ?_
                refine Ls.qP 33 ?_
                refine Ls.qP 34 ?_
                refine Ls.qN 35 ?_
                refine Ls.qN 36 ?_
                refine Ls.qM 37 ?_
                refine Ls.qF 38 4 ?_
                refine Ls.qL 39 1 ?_
                refine Ls.qE 40 (Ev.neq rfl (by rfl) (by rfl)) ?_
                refine Ls.qM 41 ?_
                refine Ent.split 41 (by rfl) (fun hT5 => ?_) (fun hT5 => ?_)
                · first | have hT5 := of_decide_eq_false hT5 | have hT5 := of_not_decide_false hT5 | skip
                  refine Ls.qP 42 ?_
                  refine Ls.qP 43 ?_
                  refine Ls.qP 44 ?_
                  refine Ls.qP 45 ?_
                  refine Ls.qP 46 ?_
                  refine Ls.qN 47 ?_
                  refine Ls.qN 48 ?_
                  refine Ls.nil ?_
                  refine Ent.pick [0] (by rfl) ?_
                  refine Ent.inv () ?_ ?_ ?_
                  · exact trivial
                  · (repeat (first | exact trivial | refine ⟨by rfl, ?_⟩ | refine ⟨by simp only [List.length_append, List.length_cons, List.length_nil]; rfl, ?_⟩ | refine ⟨by push_cast; rfl, ?_⟩ | refine ⟨by (show some (Value.bool _) = some (Value.bool _); congr 2; all_goals ((first | rfl | exact absurd hg1 hT1 | exact decide_eq_true (by omega) | exact (decide_eq_true (by omega)).symm | (exfalso; omega)))), ?_⟩))
                  · rfl
                · first | have hT5 := of_decide_eq_true hT5 | have hT5 := of_not_decide_true hT5 | skip
                  refine Ls.qF 42 4 ?_
                  refine Ls.qL 43 1 ?_
                  refine Ls.qF 44 3 ?_
                  refine Ls.qL 45 2 ?_
                  refine Ls.qE 46 (Ev.lss rfl (by rfl) (by rfl)) ?_
                  refine Ls.qT 47 ?_
                  refine Ls.qN 48 ?_
                  refine Ls.nil ?_
                  refine Ent.pick [0] (by rfl) ?_
                  refine Ent.inv () ?_ ?_ ?_
                  · exact trivial
                  · (repeat (first | exact trivial | refine ⟨by rfl, ?_⟩ | refine ⟨by simp only [List.length_append, List.length_cons, List.length_nil]; rfl, ?_⟩ | refine ⟨by push_cast; rfl, ?_⟩ | refine ⟨by (show some (Value.bool _) = some (Value.bool _); congr 2; all_goals ((first | rfl | exact absurd hg1 hT1 | exact decide_eq_true (by omega) | exact (decide_eq_true (by omega)).symm | (exfalso; omega)))), ?_⟩))
                  · rfl
              · first | have hT4 := of_decide_eq_true hT4 | have hT4 := of_not_decide_true hT4 | skip
                refine Ls.qF 30 3 ?_
                refine Ls.qL 31 1 ?_
                refine Ls.qF 32 2 ?_
                refine Ls.qL 33 2 ?_
                refine Ls.qE 34 (Ev.lss rfl (by rfl) (by rfl)) ?_
                refine Ls.qT 35 ?_
                refine Ls.qN 36 ?_
                refine Ls.qM 37 ?_
                refine Ent.split 37 (by rfl) (fun hT5 => ?_) (fun hT5 => ?_)
                · first | have hT5 := of_decide_eq_false hT5 | have hT5 := of_not_decide_false hT5 | skip
                  refine Ls.qF 38 4 ?_
                  refine Ls.qL 39 1 ?_
                  refine Ls.qE 40 (Ev.neq rfl (by rfl) (by rfl)) ?_
                  refine Ls.qM 41 ?_
                  refine Ent.split 41 (by rfl) (fun hT6 => ?_) (fun hT6 => ?_)
                  · first | have hT6 := of_decide_eq_false hT6 | have hT6 := of_not_decide_false hT6 | skip
                    refine Ls.qP 42 ?_
                    refine Ls.qP 43 ?_
                    refine Ls.qP 44 ?_
                    refine Ls.qP 45 ?_
                    refine Ls.qP 46 ?_
                    refine Ls.qN 47 ?_
                    refine Ls.qN 48 ?_
                    refine Ls.nil ?_
                    refine Ent.pick [0] (by rfl) ?_
                    refine Ent.inv () ?_ ?_ ?_
                    · exact trivial
                    · (repeat (first | exact trivial | refine ⟨by rfl, ?_⟩ | refine ⟨by simp only [List.length_append, List.length_cons, List.length_nil]; rfl, ?_⟩ | refine ⟨by push_cast; rfl, ?_⟩ | refine ⟨by (show some (Value.bool _) = some (Value.bool _); congr 2; all_goals ((first | rfl | exact absurd hg1 hT1 | exact decide_eq_true (by omega) | exact (decide_eq_true (by omega)).symm | (exfalso; omega)))), ?_⟩))
                    · rfl
                  · first | have hT6 := of_decide_eq_true hT6 | have hT6 := of_not_decide_true hT6 | skip
                    refine Ls.qF 42 4 ?_
                    refine Ls.qL 43 1 ?_
                    refine Ls.qF 44 3 ?_
                    refine Ls.qL 45 2 ?_
                    refine Ls.qE 46 (Ev.lss rfl (by rfl) (by rfl)) ?_
                    refine Ls.qT 47 ?_
                    refine Ls.qN 48 ?_
                    refine Ls.nil ?_
                    refine Ent.pick [0] (by rfl) ?_
                    refine Ent.inv () ?_ ?_ ?_
                    · exact trivial
                    · (repeat (first | exact trivial | refine ⟨by rfl, ?_⟩ | refine ⟨by simp only [List.length_append, List.length_cons, List.length_nil]; rfl, ?_⟩ | refine ⟨by push_cast; rfl, ?_⟩ | refine ⟨by (show some (Value.bool _) = some (Value.bool _); congr 2; all_goals ((first | rfl | exact absurd hg1 hT1 | exact decide_eq_true (by omega) | exact (decide_eq_true (by omega)).symm | (exfalso; omega)))), ?_⟩))
                    · rfl
                · first | have hT5 := of_decide_eq_true hT5 | have hT5 := of_not_decide_true hT5 | skip
                  refine Ls.qP 38 ?_
                  refine Ls.qP 39 ?_
                  refine Ls.qP 40 ?_
                  refine Ls.qP 41 ?_
                  refine Ls.qP 42 ?_
                  refine Ls.qP 43 ?_
                  refine Ls.qP 44 ?_
                  refine Ls.qP 45 ?_
                  refine Ls.qP 46 ?_
                  refine Ls.qP 47 ?_
                  refine Ls.qT 48 ?_
                  refine Ls.nil ?_
                  refine Ent.pick [0] (by rfl) ?_
                  refine Ent.inv () ?_ ?_ ?_
                  · exact trivial
                  · (repeat (first | exact trivial | refine ⟨by rfl, ?_⟩ | refine ⟨by simp only [List.length_append, List.length_cons, List.length_nil]; rfl, ?_⟩ | refine ⟨by push_cast; rfl, ?_⟩ | refine ⟨by (show some (Value.bool _) = some (Value.bool _); congr 2; all_goals ((first | rfl | exact absurd hg1 hT1 | exact decide_eq_true (by omega) | exact (decide_eq_true (by omega)).symm | (exfalso; omega)))), ?_⟩))
                  · rfl
            · first | have hT3 := of_decide_eq_true hT3 | have hT3 := of_not_decide_true hT3 | skip
              refine Ls.qP 26 ?_
              refine Ls.qP 27 ?_
              refine Ls.qP 28 ?_
              refine Ls.qP 29 ?_
              refine Ls.qP 30 ?_
              refine Ls.qP 31 ?_
              refine Ls.qP 32 ?_
              refine Ls.qP 33 ?_
              refine Ls.qP 34 ?_
              refine Ls.qP 35 ?_
              refine Ls.qT 36 ?_
              refine Ls.qM 37 ?_
              refine Ls.qP 38 ?_
              refine Ls.qP 39 ?_
              refine Ls.qP 40 ?_
              refine Ls.qP 41 ?_
              refine Ls.qP 42 ?_
              refine Ls.qP 43 ?_
              refine Ls.qP 44 ?_
              refine Ls.qP 45 ?_
              refine Ls.qP 46 ?_
              refine Ls.qP 47 ?_
              refine Ls.qT 48 ?_
              refine Ls.nil ?_
              refine Ent.pick [0] (by rfl) ?_
              refine Ent.inv () ?_ ?_ ?_
              · exact trivial
              · (repeat (first | exact trivial | refine ⟨by rfl, ?_⟩ | refine ⟨by simp only [List.length_append, List.length_cons, List.length_nil]; rfl, ?_⟩ | refine ⟨by push_cast; rfl, ?_⟩ | refine ⟨by (show some (Value.bool _) = some (Value.bool _); congr 2; all_goals ((first | rfl | exact absurd hg1 hT1 | exact decide_eq_true (by omega) | exact (decide_eq_true (by omega)).symm | (exfalso; omega)))), ?_⟩))
              · rfl
        · first | have hT1 := of_decide_eq_true hT1 | have hT1 := of_not_decide_true hT1 | skip
          refine Ls.qP 14 ?_
          refine Ls.qP 15 ?_
          refine Ls.qP 16 ?_
          refine Ls.qP 17 ?_
          refine Ls.qP 18 ?_
          refine Ls.qP 19 ?_
          refine Ls.qP 20 ?_
          refine Ls.qP 21 ?_
          refine Ls.qP 22 ?_
          refine Ls.qP 23 ?_
          refine Ls.qT 24 ?_
          refine Ls.qM 25 ?_
          refine Ls.qP 26 ?_
          refine Ls.qP 27 ?_
          refine Ls.qP 28 ?_
          refine Ls.qP 29 ?_
          refine Ls.qP 30 ?_
          refine Ls.qP 31 ?_
          refine Ls.qP 32 ?_
          refine Ls.qP 33 ?_
          refine Ls.qP 34 ?_
          refine Ls.qP 35 ?_
          refine Ls.qT 36 ?_
          refine Ls.qM 37 ?_
          refine Ls.qP 38 ?_
          refine Ls.qP 39 ?_
          refine Ls.qP 40 ?_
          refine Ls.qP 41 ?_
          refine Ls.qP 42 ?_
          refine Ls.qP 43 ?_
          refine Ls.qP 44 ?_
          refine Ls.qP 45 ?_
          refine Ls.qP 46 ?_
          refine Ls.qP 47 ?_
          refine Ls.qT 48 ?_
          refine Ls.nil ?_
          refine Ent.pick [0] (by rfl) ?_
          refine Ent.inv () ?_ ?_ ?_
          · exact trivial
          · (repeat (first | exact trivial | refine ⟨by rfl, ?_⟩ | refine ⟨by simp only [List.length_append, List.length_cons, List.length_nil]; rfl, ?_⟩ | refine ⟨by push_cast; rfl, ?_⟩ | refine ⟨by (show some (Value.bool _) = some (Value.bool _); congr 2; all_goals ((first | rfl | exact absurd hg1 hT1 | exact decide_eq_true (by omega) | exact (decide_eq_true (by omega)).symm | (exfalso; omega)))), ?_⟩))
          · rfl
      · skip
        refine Cd.region ?_
        refine Ls.qE 10 (Ev.loads 2 rfl (by rfl) (by rfl) (n := 4) (by kernel_rfl) (by rfl) (by rfl)) ?_
        refine Ls.does (some 11) (Does.read rfl Tryz.func34 (by kernel_rfl) (by kernel_rfl) (good_slV v A c (by omega) fv) (by rfl) (by rfl) ⟨ReadsIn.rd 3 (by rfl), trivial⟩) (by rfl) (by rfl) ?_
        rintro _ -
        refine Ls.qE 12 (Ev.not rfl (by rfl)) ?_
        refine Ls.qM 13 ?_
        refine Ent.split 13 (by rfl) (fun hT1 => ?_) (fun hT1 => ?_)
        · first | have hT1 := of_decide_eq_false hT1 | have hT1 := of_not_decide_false hT1 | skip
          refine Ls.qF 14 2 ?_
          refine Ls.qL 15 1 ?_
          refine Ls.qE 16 (Ev.neq rfl (by rfl) (by rfl)) ?_
          refine Ls.qM 17 ?_
          refine Ent.split 17 (by rfl) (fun hT2 => ?_) (fun hT2 => ?_)
          · first | have hT2 := of_decide_eq_false hT2 | have hT2 := of_not_decide_false hT2 | skip
            refine Ls.qP 18 ?_
            refine Ls.qP 19 ?_
            refine Ls.qP 20 ?_
            refine Ls.qP 21 ?_
            refine Ls.qP 22 ?_
            refine Ls.qN 23 ?_
            refine Ls.qN 24 ?_
            refine Ls.qM 25 ?_
            refine Ls.qF 26 3 ?_
            refine Ls.qL 27 1 ?_
            refine Ls.qE 28 (Ev.neq rfl (by rfl) (by rfl)) ?_
            refine Ls.qM 29 ?_
            refine Ent.split 29 (by rfl) (fun hT3 => ?_) (fun hT3 => ?_)
            · first | have hT3 := of_decide_eq_false hT3 | have hT3 := of_not_decide_false hT3 | skip
              refine Ls.qP 30 ?_
              refine Ls.qP 31 ?_
              refine Ls.qP 32 ?_
              refine Ls.qP 33 ?_
              refine Ls.qP 34 ?_
              refine Ls.qN 35 ?_
              refine Ls.qN 36 ?_
              refine Ls.qM 37 ?_
              refine Ls.qF 38 4 ?_
              refine Ls.qL 39 1 ?_
              refine Ls.qE 40 (Ev.neq rfl (by rfl) (by rfl)) ?_
              refine Ls.qM 41 ?_
              refine Ent.split 41 (by rfl) (fun hT4 => ?_) (fun hT4 => ?_)
              · first | have hT4 := of_decide_eq_false hT4 | have hT4 := of_not_decide_false hT4 | skip
                refine Ls.qP 42 ?_
                refine Ls.qP 43 ?_
                refine Ls.qP 44 ?_
                refine Ls.qP 45 ?_
                refine Ls.qP 46 ?_
                refine Ls.qN 47 ?_
                refine Ls.qN 48 ?_
                refine Ls.nil ?_
                refine Ent.pick [0] (by rfl) ?_
                refine Ent.inv () ?_ ?_ ?_
                · exact trivial
                · (repeat (first | exact trivial | refine ⟨by rfl, ?_⟩ | refine ⟨by simp only [List.length_append, List.length_cons, List.length_nil]; rfl, ?_⟩ | refine ⟨by push_cast; rfl, ?_⟩ | refine ⟨by (show some (Value.bool _) = some (Value.bool _); congr 2; all_goals ((first | rfl | exact absurd hT1 hg1 | (exfalso; exact hg1 hT1)))), ?_⟩))
                · rfl
              · first | have hT4 := of_decide_eq_true hT4 | have hT4 := of_not_decide_true hT4 | skip
                refine Ls.qF 42 4 ?_
                refine Ls.qL 43 1 ?_
                refine Ls.qF 44 3 ?_
                refine Ls.qL 45 2 ?_
                refine Ls.qE 46 (Ev.lss rfl (by rfl) (by rfl)) ?_
                refine Ls.qT 47 ?_
                refine Ls.qN 48 ?_
                refine Ls.nil ?_
                refine Ent.pick [0] (by rfl) ?_
                refine Ent.inv () ?_ ?_ ?_
                · exact trivial
                · (repeat (first | exact trivial | refine ⟨by rfl, ?_⟩ | refine ⟨by simp only [List.length_append, List.length_cons, List.length_nil]; rfl, ?_⟩ | refine ⟨by push_cast; rfl, ?_⟩ | refine ⟨by (show some (Value.bool _) = some (Value.bool _); congr 2; all_goals ((first | rfl | exact absurd hT1 hg1 | (exfalso; exact hg1 hT1)))), ?_⟩))
                · rfl
            · first | have hT3 := of_decide_eq_true hT3 | have hT3 := of_not_decide_true hT3 | skip
              refine Ls.qF 30 3 ?_
              refine Ls.qL 31 1 ?_
              refine Ls.qF 32 2 ?_
              refine Ls.qL 33 2 ?_
              refine Ls.qE 34 (Ev.lss rfl (by rfl) (by rfl)) ?_
              refine Ls.qT 35 ?_
              refine Ls.qN 36 ?_
              refine Ls.qM 37 ?_
              refine Ent.split 37 (by rfl) (fun hT4 => ?_) (fun hT4 => ?_)
              · first | have hT4 := of_decide_eq_false hT4 | have hT4 := of_not_decide_false hT4 | skip
                refine Ls.qF 38 4 ?_
                refine Ls.qL 39 1 ?_
                refine Ls.qE 40 (Ev.neq rfl (by rfl) (by rfl)) ?_
                refine Ls.qM 41 ?_
                refine Ent.split 41 (by rfl) (fun hT5 => ?_) (fun hT5 => ?_)
                · first | have hT5 := of_decide_eq_false hT5 | have hT5 := of_not_decide_false hT5 | skip
                  refine Ls.qP 42 ?_
                  refine Ls.qP 43 ?_
                  refine Ls.qP 44 ?_
                  refine Ls.qP 45 ?_
                  refine Ls.qP 46 ?_
                  refine Ls.qN 47 ?_
                  refine Ls.qN 48 ?_
                  refine Ls.nil ?_
                  refine Ent.pick [0] (by rfl) ?_
                  refine Ent.inv () ?_ ?_ ?_
                  · exact trivial
                  · (repeat (first | exact trivial | refine ⟨by rfl, ?_⟩ | refine ⟨by simp only [List.length_append, List.length_cons, List.length_nil]; rfl, ?_⟩ | refine ⟨by push_cast; rfl, ?_⟩ | refine ⟨by (show some (Value.bool _) = some (Value.bool _); congr 2; all_goals ((first | rfl | exact absurd hT1 hg1 | (exfalso; exact hg1 hT1)))), ?_⟩))
                  · rfl
                · first | have hT5 := of_decide_eq_true hT5 | have hT5 := of_not_decide_true hT5 | skip
                  refine Ls.qF 42 4 ?_
                  refine Ls.qL 43 1 ?_
                  refine Ls.qF 44 3 ?_
                  refine Ls.qL 45 2 ?_
                  refine Ls.qE 46 (Ev.lss rfl (by rfl) (by rfl)) ?_
                  refine Ls.qT 47 ?_
                  refine Ls.qN 48 ?_
                  refine Ls.nil ?_
                  refine Ent.pick [0] (by rfl) ?_
                  refine Ent.inv () ?_ ?_ ?_
                  · exact trivial
                  · (repeat (first | exact trivial | refine ⟨by rfl, ?_⟩ | refine ⟨by simp only [List.length_append, List.length_cons, List.length_nil]; rfl, ?_⟩ | refine ⟨by push_cast; rfl, ?_⟩ | refine ⟨by (show some (Value.bool _) = some (Value.bool _); congr 2; all_goals ((first | rfl | exact absurd hT1 hg1 | (exfalso; exact hg1 hT1)))), ?_⟩))
                  · rfl
              · first | have hT4 := of_decide_eq_true hT4 | have hT4 := of_not_decide_true hT4 | skip
                refine Ls.qP 38 ?_
                refine Ls.qP 39 ?_
                refine Ls.qP 40 ?_
                refine Ls.qP 41 ?_
                refine Ls.qP 42 ?_
                refine Ls.qP 43 ?_
                refine Ls.qP 44 ?_
                refine Ls.qP 45 ?_
                refine Ls.qP 46 ?_
                refine Ls.qP 47 ?_
                refine Ls.qT 48 ?_
                refine Ls.nil ?_
                refine Ent.pick [0] (by rfl) ?_
                refine Ent.inv () ?_ ?_ ?_
                · exact trivial
                · (repeat (first | exact trivial | refine ⟨by rfl, ?_⟩ | refine ⟨by simp only [List.length_append, List.length_cons, List.length_nil]; rfl, ?_⟩ | refine ⟨by push_cast; rfl, ?_⟩ | refine ⟨by (show some (Value.bool _) = some (Value.bool _); congr 2; all_goals ((first | rfl | exact absurd hT1 hg1 | (exfalso; exact hg1 hT1)))), ?_⟩))
                · rfl
          · first | have hT2 := of_decide_eq_true hT2 | have hT2 := of_not_decide_true hT2 | skip
            refine Ls.qF 18 2 ?_
            refine Ls.qL 19 1 ?_
            refine Ls.qF 20 1 ?_
            refine Ls.qL 21 2 ?_
            refine Ls.qE 22 (Ev.lss rfl (by rfl) (by rfl)) ?_
            refine Ls.qT 23 ?_
            refine Ls.qN 24 ?_
            refine Ls.qM 25 ?_
            refine Ent.split 25 (by rfl) (fun hT3 => ?_) (fun hT3 => ?_)
            · first | have hT3 := of_decide_eq_false hT3 | have hT3 := of_not_decide_false hT3 | skip
              refine Ls.qF 26 3 ?_
              refine Ls.qL 27 1 ?_
              refine Ls.qE 28 (Ev.neq rfl (by rfl) (by rfl)) ?_
              refine Ls.qM 29 ?_
              refine Ent.split 29 (by rfl) (fun hT4 => ?_) (fun hT4 => ?_)
              · first | have hT4 := of_decide_eq_false hT4 | have hT4 := of_not_decide_false hT4 | skip
                refine Ls.qP 30 ?_
                refine Ls.qP 31 ?_
                refine Ls.qP 32 ?_
                refine Ls.qP 33 ?_
                refine Ls.qP 34 ?_
                refine Ls.qN 35 ?_
                refine Ls.qN 36 ?_
                refine Ls.qM 37 ?_
                refine Ls.qF 38 4 ?_
                refine Ls.qL 39 1 ?_
                refine Ls.qE 40 (Ev.neq rfl (by rfl) (by rfl)) ?_
                refine Ls.qM 41 ?_
                refine Ent.split 41 (by rfl) (fun hT5 => ?_) (fun hT5 => ?_)
                · first | have hT5 := of_decide_eq_false hT5 | have hT5 := of_not_decide_false hT5 | skip
                  refine Ls.qP 42 ?_
                  refine Ls.qP 43 ?_
                  refine Ls.qP 44 ?_
                  refine Ls.qP 45 ?_
                  refine Ls.qP 46 ?_
                  refine Ls.qN 47 ?_
                  refine Ls.qN 48 ?_
                  refine Ls.nil ?_
                  refine Ent.pick [0] (by rfl) ?_
                  refine Ent.inv () ?_ ?_ ?_
                  · exact trivial
                  · (repeat (first | exact trivial | refine ⟨by rfl, ?_⟩ | refine ⟨by simp only [List.length_append, List.length_cons, List.length_nil]; rfl, ?_⟩ | refine ⟨by push_cast; rfl, ?_⟩ | refine ⟨by (show some (Value.bool _) = some (Value.bool _); congr 2; all_goals ((first | rfl | exact absurd hT1 hg1 | (exfalso; exact hg1 hT1)))), ?_⟩))
                  · rfl
                · first | have hT5 := of_decide_eq_true hT5 | have hT5 := of_not_decide_true hT5 | skip
                  refine Ls.qF 42 4 ?_
                  refine Ls.qL 43 1 ?_
                  refine Ls.qF 44 3 ?_
                  refine Ls.qL 45 2 ?_
                  refine Ls.qE 46 (Ev.lss rfl (by rfl) (by rfl)) ?_
                  refine Ls.qT 47 ?_
                  refine Ls.qN 48 ?_
                  refine Ls.nil ?_
                  refine Ent.pick [0] (by rfl) ?_
                  refine Ent.inv () ?_ ?_ ?_
                  · exact trivial
                  · (repeat (first | exact trivial | refine ⟨by rfl, ?_⟩ | refine ⟨by simp only [List.length_append, List.length_cons, List.length_nil]; rfl, ?_⟩ | refine ⟨by push_cast; rfl, ?_⟩ | refine ⟨by (show some (Value.bool _) = some (Value.bool _); congr 2; all_goals ((first | rfl | exact absurd hT1 hg1 | (exfalso; exact hg1 hT1)))), ?_⟩))
                  · rfl
              · first | have hT4 := of_decide_eq_true hT4 | have hT4 := of_not_decide_true hT4 | skip
                refine Ls.qF 30 3 ?_
                refine Ls.qL 31 1 ?_
                refine Ls.qF 32 2 ?_
                refine Ls.qL 33 2 ?_
                refine Ls.qE 34 (Ev.lss rfl (by rfl) (by rfl)) ?_
                refine Ls.qT 35 ?_
                refine Ls.qN 36 ?_
                refine Ls.qM 37 ?_
                refine Ent.split 37 (by rfl) (fun hT5 => ?_) (fun hT5 => ?_)
                · first | have hT5 := of_decide_eq_false hT5 | have hT5 := of_not_decide_false hT5 | skip
                  refine Ls.qF 38 4 ?_
                  refine Ls.qL 39 1 ?_
                  refine Ls.qE 40 (Ev.neq rfl (by rfl) (by rfl)) ?_
                  refine Ls.qM 41 ?_
                  refine Ent.split 41 (by rfl) (fun hT6 => ?_) (fun hT6 => ?_)
                  · first | have hT6 := of_decide_eq_false hT6 | have hT6 := of_not_decide_false hT6 | skip
                    refine Ls.qP 42 ?_
                    refine Ls.qP 43 ?_
                    refine Ls.qP 44 ?_
                    refine Ls.qP 45 ?_
                    refine Ls.qP 46 ?_
                    refine Ls.qN 47 ?_
                    refine Ls.qN 48 ?_
                    refine Ls.nil ?_
                    refine Ent.pick [0] (by rfl) ?_
                    refine Ent.inv () ?_ ?_ ?_
                    · exact trivial
                    · (repeat (first | exact trivial | refine ⟨by rfl, ?_⟩ | refine ⟨by simp only [List.length_append, List.length_cons, List.length_nil]; rfl, ?_⟩ | refine ⟨by push_cast; rfl, ?_⟩ | refine ⟨by (show some (Value.bool _) = some (Value.bool _); congr 2; all_goals ((first | rfl | exact absurd hT1 hg1 | (exfalso; exact hg1 hT1)))), ?_⟩))
                    · rfl
                  · first | have hT6 := of_decide_eq_true hT6 | have hT6 := of_not_decide_true hT6 | skip
                    refine Ls.qF 42 4 ?_
                    refine Ls.qL 43 1 ?_
                    refine Ls.qF 44 3 ?_
                    refine Ls.qL 45 2 ?_
                    refine Ls.qE 46 (Ev.lss rfl (by rfl) (by rfl)) ?_
                    refine Ls.qT 47 ?_
                    refine Ls.qN 48 ?_
                    refine Ls.nil ?_
                    refine Ent.pick [0] (by rfl) ?_
                    refine Ent.inv () ?_ ?_ ?_
                    · exact trivial
                    · (repeat (first | exact trivial | refine ⟨by rfl, ?_⟩ | refine ⟨by simp only [List.length_append, List.length_cons, List.length_nil]; rfl, ?_⟩ | refine ⟨by push_cast; rfl, ?_⟩ | refine ⟨by (show some (Value.bool _) = some (Value.bool _); congr 2; all_goals ((first | rfl | exact absurd hT1 hg1 | (exfalso; exact hg1 hT1)))), ?_⟩))
                    · rfl
                · first | have hT5 := of_decide_eq_true hT5 | have hT5 := of_not_decide_true hT5 | skip
                  refine Ls.qP 38 ?_
                  refine Ls.qP 39 ?_
                  refine Ls.qP 40 ?_
                  refine Ls.qP 41 ?_
                  refine Ls.qP 42 ?_
                  refine Ls.qP 43 ?_
                  refine Ls.qP 44 ?_
                  refine Ls.qP 45 ?_
                  refine Ls.qP 46 ?_
                  refine Ls.qP 47 ?_
                  refine Ls.qT 48 ?_
                  refine Ls.nil ?_
                  refine Ent.pick [0] (by rfl) ?_
                  refine Ent.inv () ?_ ?_ ?_
                  · exact trivial
                  · (repeat (first | exact trivial | refine ⟨by rfl, ?_⟩ | refine ⟨by simp only [List.length_append, List.length_cons, List.length_nil]; rfl, ?_⟩ | refine ⟨by push_cast; rfl, ?_⟩ | refine ⟨by (show some (Value.bool _) = some (Value.bool _); congr 2; all_goals ((first | rfl | exact absurd hT1 hg1 | (exfalso; exact hg1 hT1)))), ?_⟩))
                  · rfl
            · first | have hT3 := of_decide_eq_true hT3 | have hT3 := of_not_decide_true hT3 | skip
              refine Ls.qP 26 ?_
              refine Ls.qP 27 ?_
              refine Ls.qP 28 ?_
              refine Ls.qP 29 ?_
              refine Ls.qP 30 ?_
              refine Ls.qP 31 ?_
              refine Ls.qP 32 ?_
              refine Ls.qP 33 ?_
              refine Ls.qP 34 ?_
              refine Ls.qP 35 ?_
              refine Ls.qT 36 ?_
              refine Ls.qM 37 ?_
              refine Ls.qP 38 ?_
              refine Ls.qP 39 ?_
              refine Ls.qP 40 ?_
              refine Ls.qP 41 ?_
              refine Ls.qP 42 ?_
              refine Ls.qP 43 ?_
              refine Ls.qP 44 ?_
              refine Ls.qP 45 ?_
              refine Ls.qP 46 ?_
              refine Ls.qP 47 ?_
              refine Ls.qT 48 ?_
              refine Ls.nil ?_
              refine Ent.pick [0] (by rfl) ?_
              refine Ent.inv () ?_ ?_ ?_
              · exact trivial
              · (repeat (first | exact trivial | refine ⟨by rfl, ?_⟩ | refine ⟨by simp only [List.length_append, List.length_cons, List.length_nil]; rfl, ?_⟩ | refine ⟨by push_cast; rfl, ?_⟩ | refine ⟨by (show some (Value.bool _) = some (Value.bool _); congr 2; all_goals ((first | rfl | exact absurd hT1 hg1 | (exfalso; exact hg1 hT1)))), ?_⟩))
              · rfl
        · first | have hT1 := of_decide_eq_true hT1 | have hT1 := of_not_decide_true hT1 | skip
          refine Ls.qP 14 ?_
          refine Ls.qP 15 ?_
          refine Ls.qP 16 ?_
          refine Ls.qP 17 ?_
          refine Ls.qP 18 ?_
          refine Ls.qP 19 ?_
          refine Ls.qP 20 ?_
          refine Ls.qP 21 ?_
          refine Ls.qP 22 ?_
          refine Ls.qP 23 ?_
          refine Ls.qT 24 ?_
          refine Ls.qM 25 ?_
          refine Ls.qP 26 ?_
          refine Ls.qP 27 ?_
          refine Ls.qP 28 ?_
          refine Ls.qP 29 ?_
          refine Ls.qP 30 ?_
          refine Ls.qP 31 ?_
          refine Ls.qP 32 ?_
          refine Ls.qP 33 ?_
          refine Ls.qP 34 ?_
          refine Ls.qP 35 ?_
          refine Ls.qT 36 ?_
          refine Ls.qM 37 ?_
          refine Ls.qP 38 ?_
          refine Ls.qP 39 ?_
          refine Ls.qP 40 ?_
          refine Ls.qP 41 ?_
          refine Ls.qP 42 ?_
          refine Ls.qP 43 ?_
          refine Ls.qP 44 ?_
          refine Ls.qP 45 ?_
          refine Ls.qP 46 ?_
          refine Ls.qP 47 ?_
          refine Ls.qT 48 ?_
          refine Ls.nil ?_
          refine Ent.pick [0] (by rfl) ?_
          refine Ent.inv () ?_ ?_ ?_
          · exact trivial
          · (repeat (first | exact trivial | refine ⟨by rfl, ?_⟩ | refine ⟨by simp only [List.length_append, List.length_cons, List.length_nil]; rfl, ?_⟩ | refine ⟨by push_cast; rfl, ?_⟩ | refine ⟨by (show some (Value.bool _) = some (Value.bool _); congr 2; all_goals ((first | rfl | exact absurd hT1 hg1 | (exfalso; exact hg1 hT1)))), ?_⟩))
          · rfl
    skip
    rintro _ -
    refine Cd.cond_true (by rfl) (rfl) ?_
    refine Cd.seq ?_
    refine Cd.region ?_
    refine Ls.qE 49 (Ev.buildP (pl := [(0, 1), (1, 1), (2, 1), (3, 1)]) (zs := [.slice none 0 0, .int .i64 0, .int .i64 0, .int .i64 0]) rfl (by rfl) (by kernel_rfl) (by rfl)) ?_
    refine Ls.qD (Does.store 0 rfl (by rfl) (by rfl) (by rfl) (by kernel_rfl) (by rfl) (by kernel_rfl) (by rfl)) ?_
    intro _ _
    refine Ls.qA 5 ?_
    refine Ls.nil ?_
    refine Cd.ret ?_
    refine Ent.ret (none) (⟨fun h => (by cases h), fun h => absurd ⟨h.1, h.2.1⟩ hg⟩) (Res.cell_tmp 0 (by rfl) (by rfl) (by rfl) (n := 4) (by kernel_rfl) (by rfl) (by rfl) (by rfl)) ?_ [] (by rfl) ?_
    · rfl
    · rfl
  · skip
    obtain ⟨hg1, hg2⟩ := hg
    have hr : ¬ (e.nx ≠ 0 ∧ e.nx < v.nx) ∧ ¬ (e.lg ≠ 0 ∧ e.lg < v.lg) ∧ ¬ (e.sq ≠ 0 ∧ e.sq < v.sq) := hg2
    refine Cd.cut (ι := Unit) (fun _ => [(2, .pointer (some ⟨g1, 0, none⟩)), (3, .pointer (some ⟨g2, 0, none⟩)), (4, .pointer (some ⟨g3, 0, none⟩)), (48, .bool false)]) (fun _ => [blk g3 24 [.slice none 0 0, .int .i64 0, .int .i64 0, .int .i64 0], blk g2 27 [.slice B e.add.length b, .slice D e.drop.length d, .int .i64 e.nx, .int .i64 e.lg, .int .i64 e.sq], blk g1 24 [.slice A v.tbs.length c, .int .i64 v.nx, .int .i64 v.lg, .int .i64 v.sq], rdT A v.tbs, rdT B e.add, rd D e.drop.length 1 (ints e.drop)]) (fun _ => True) ?_ ?_
    · skip
      refine Cd.region ?_
      refine Ls.qE 10 (Ev.loads 2 rfl (by rfl) (by rfl) (n := 4) (by kernel_rfl) (by rfl) (by rfl)) ?_
      refine Ls.does (some 11) (Does.read rfl Tryz.func34 (by kernel_rfl) (by kernel_rfl) (good_slV v A c (by omega) fv) (by rfl) (by rfl) ⟨ReadsIn.rd 3 (by rfl), trivial⟩) (by rfl) (by rfl) ?_
      rintro _ -
      refine Ls.qE 12 (Ev.not rfl (by rfl)) ?_
      refine Ls.qM 13 ?_
      refine Ent.split 13 (by rfl) (fun hT1 => ?_) (fun hT1 => ?_)
      · first | have hT1 := of_decide_eq_false hT1 | have hT1 := of_not_decide_false hT1 | skip
        refine Ls.qF 14 2 ?_
        refine Ls.qL 15 1 ?_
        refine Ls.qE 16 (Ev.neq rfl (by rfl) (by rfl)) ?_
        refine Ls.qM 17 ?_
        refine Ent.split 17 (by rfl) (fun hT2 => ?_) (fun hT2 => ?_)
        · first | have hT2 := of_decide_eq_false hT2 | have hT2 := of_not_decide_false hT2 | skip
          refine Ls.qP 18 ?_
          refine Ls.qP 19 ?_
          refine Ls.qP 20 ?_
          refine Ls.qP 21 ?_
          refine Ls.qP 22 ?_
          refine Ls.qN 23 ?_
          refine Ls.qN 24 ?_
          refine Ls.qM 25 ?_
          refine Ls.qF 26 3 ?_
          refine Ls.qL 27 1 ?_
          refine Ls.qE 28 (Ev.neq rfl (by rfl) (by rfl)) ?_
          refine Ls.qM 29 ?_
          refine Ent.split 29 (by rfl) (fun hT3 => ?_) (fun hT3 => ?_)
          · first | have hT3 := of_decide_eq_false hT3 | have hT3 := of_not_decide_false hT3 | skip
            refine Ls.qP 30 ?_
            refine Ls.qP 31 ?_
            refine Ls.qP 32 ?_
            refine Ls.qP 33 ?_
            refine Ls.qP 34 ?_
            refine Ls.qN 35 ?_
            refine Ls.qN 36 ?_
            refine Ls.qM 37 ?_
            refine Ls.qF 38 4 ?_
            refine Ls.qL 39 1 ?_
            refine Ls.qE 40 (Ev.neq rfl (by rfl) (by rfl)) ?_
            refine Ls.qM 41 ?_
            refine Ent.split 41 (by rfl) (fun hT4 => ?_) (fun hT4 => ?_)
            · first | have hT4 := of_decide_eq_false hT4 | have hT4 := of_not_decide_false hT4 | skip
              refine Ls.qP 42 ?_
              refine Ls.qP 43 ?_
              refine Ls.qP 44 ?_
              refine Ls.qP 45 ?_
              refine Ls.qP 46 ?_
              refine Ls.qN 47 ?_
              refine Ls.qN 48 ?_
              refine Ls.nil ?_
              refine Ent.inv () ?_ ?_ ?_
              · exact trivial
              · (repeat (first | exact trivial | refine ⟨by rfl, ?_⟩ | refine ⟨by simp only [List.length_append, List.length_cons, List.length_nil]; rfl, ?_⟩ | refine ⟨by push_cast; rfl, ?_⟩ | refine ⟨by (show some (Value.bool _) = some (Value.bool _); congr 2; all_goals ((first | rfl | exact absurd hg1 hT1 | exact decide_eq_false (by omega) | exact (decide_eq_false (by omega)).symm | (exfalso; omega)))), ?_⟩))
              · rfl
            · first | have hT4 := of_decide_eq_true hT4 | have hT4 := of_not_decide_true hT4 | skip
              refine Ls.qF 42 4 ?_
              refine Ls.qL 43 1 ?_
              refine Ls.qF 44 3 ?_
              refine Ls.qL 45 2 ?_
              refine Ls.qE 46 (Ev.lss rfl (by rfl) (by rfl)) ?_
              refine Ls.qT 47 ?_
              refine Ls.qN 48 ?_
              refine Ls.nil ?_
              refine Ent.inv () ?_ ?_ ?_
              · exact trivial
              · (repeat (first | exact trivial | refine ⟨by rfl, ?_⟩ | refine ⟨by simp only [List.length_append, List.length_cons, List.length_nil]; rfl, ?_⟩ | refine ⟨by push_cast; rfl, ?_⟩ | refine ⟨by (show some (Value.bool _) = some (Value.bool _); congr 2; all_goals ((first | rfl | exact absurd hg1 hT1 | exact decide_eq_false (by omega) | exact (decide_eq_false (by omega)).symm | (exfalso; omega)))), ?_⟩))
              · rfl
          · first | have hT3 := of_decide_eq_true hT3 | have hT3 := of_not_decide_true hT3 | skip
            refine Ls.qF 30 3 ?_
            refine Ls.qL 31 1 ?_
            refine Ls.qF 32 2 ?_
            refine Ls.qL 33 2 ?_
            refine Ls.qE 34 (Ev.lss rfl (by rfl) (by rfl)) ?_
            refine Ls.qT 35 ?_
            refine Ls.qN 36 ?_
            refine Ls.qM 37 ?_
            refine Ent.split 37 (by rfl) (fun hT4 => ?_) (fun hT4 => ?_)
            · first | have hT4 := of_decide_eq_false hT4 | have hT4 := of_not_decide_false hT4 | skip
              refine Ls.qF 38 4 ?_
              refine Ls.qL 39 1 ?_
              refine Ls.qE 40 (Ev.neq rfl (by rfl) (by rfl)) ?_
              refine Ls.qM 41 ?_
              refine Ent.split 41 (by rfl) (fun hT5 => ?_) (fun hT5 => ?_)
              · first | have hT5 := of_decide_eq_false hT5 | have hT5 := of_not_decide_false hT5 | skip
                refine Ls.qP 42 ?_
                refine Ls.qP 43 ?_
                refine Ls.qP 44 ?_
                refine Ls.qP 45 ?_
                refine Ls.qP 46 ?_
                refine Ls.qN 47 ?_
                refine Ls.qN 48 ?_
                refine Ls.nil ?_
                refine Ent.inv () ?_ ?_ ?_
                · exact trivial
                · (repeat (first | exact trivial | refine ⟨by rfl, ?_⟩ | refine ⟨by simp only [List.length_append, List.length_cons, List.length_nil]; rfl, ?_⟩ | refine ⟨by push_cast; rfl, ?_⟩ | refine ⟨by (show some (Value.bool _) = some (Value.bool _); congr 2; all_goals ((first | rfl | exact absurd hg1 hT1 | exact decide_eq_false (by omega) | exact (decide_eq_false (by omega)).symm | (exfalso; omega)))), ?_⟩))
                · rfl
              · first | have hT5 := of_decide_eq_true hT5 | have hT5 := of_not_decide_true hT5 | skip
                refine Ls.qF 42 4 ?_
                refine Ls.qL 43 1 ?_
                refine Ls.qF 44 3 ?_
                refine Ls.qL 45 2 ?_
                refine Ls.qE 46 (Ev.lss rfl (by rfl) (by rfl)) ?_
                refine Ls.qT 47 ?_
                refine Ls.qN 48 ?_
                refine Ls.nil ?_
                refine Ent.inv () ?_ ?_ ?_
                · exact trivial
                · (repeat (first | exact trivial | refine ⟨by rfl, ?_⟩ | refine ⟨by simp only [List.length_append, List.length_cons, List.length_nil]; rfl, ?_⟩ | refine ⟨by push_cast; rfl, ?_⟩ | refine ⟨by (show some (Value.bool _) = some (Value.bool _); congr 2; all_goals ((first | rfl | exact absurd hg1 hT1 | exact decide_eq_false (by omega) | exact (decide_eq_false (by omega)).symm | (exfalso; omega)))), ?_⟩))
                · rfl
            · first | have hT4 := of_decide_eq_true hT4 | have hT4 := of_not_decide_true hT4 | skip
              refine Ls.qP 38 ?_
              refine Ls.qP 39 ?_
              refine Ls.qP 40 ?_
              refine Ls.qP 41 ?_
              refine Ls.qP 42 ?_
              refine Ls.qP 43 ?_
              refine Ls.qP 44 ?_
              refine Ls.qP 45 ?_
              refine Ls.qP 46 ?_
              refine Ls.qP 47 ?_
              refine Ls.qT 48 ?_
              refine Ls.nil ?_
              refine Ent.inv () ?_ ?_ ?_
              · exact trivial
              · (repeat (first | exact trivial | refine ⟨by rfl, ?_⟩ | refine ⟨by simp only [List.length_append, List.length_cons, List.length_nil]; rfl, ?_⟩ | refine ⟨by push_cast; rfl, ?_⟩ | refine ⟨by (show some (Value.bool _) = some (Value.bool _); congr 2; all_goals ((first | rfl | exact absurd hg1 hT1 | exact decide_eq_false (by omega) | exact (decide_eq_false (by omega)).symm | (exfalso; omega)))), ?_⟩))
              · rfl
        · first | have hT2 := of_decide_eq_true hT2 | have hT2 := of_not_decide_true hT2 | skip
          refine Ls.qF 18 2 ?_
          refine Ls.qL 19 1 ?_
          refine Ls.qF 20 1 ?_
          refine Ls.qL 21 2 ?_
          refine Ls.qE 22 (Ev.lss rfl (by rfl) (by rfl)) ?_
          refine Ls.qT 23 ?_
          refine Ls.qN 24 ?_
          refine Ls.qM 25 ?_
          refine Ent.split 25 (by rfl) (fun hT3 => ?_) (fun hT3 => ?_)
          · first | have hT3 := of_decide_eq_false hT3 | have hT3 := of_not_decide_false hT3 | skip
            refine Ls.qF 26 3 ?_
            refine Ls.qL 27 1 ?_
            refine Ls.qE 28 (Ev.neq rfl (by rfl) (by rfl)) ?_
            refine Ls.qM 29 ?_
            refine Ent.split 29 (by rfl) (fun hT4 => ?_) (fun hT4 => ?_)
            · first | have hT4 := of_decide_eq_false hT4 | have hT4 := of_not_decide_false hT4 | skip
              refine Ls.qP 30 ?_
              refine Ls.qP 31 ?_
              refine Ls.qP 32 ?_
              refine Ls.qP 33 ?_
              refine Ls.qP 34 ?_
              refine Ls.qN 35 ?_
              refine Ls.qN 36 ?_
              refine Ls.qM 37 ?_
              refine Ls.qF 38 4 ?_
              refine Ls.qL 39 1 ?_
              refine Ls.qE 40 (Ev.neq rfl (by rfl) (by rfl)) ?_
              refine Ls.qM 41 ?_
              refine Ent.split 41 (by rfl) (fun hT5 => ?_) (fun hT5 => ?_)
              · first | have hT5 := of_decide_eq_false hT5 | have hT5 := of_not_decide_false hT5 | skip
                refine Ls.qP 42 ?_
                refine Ls.qP 43 ?_
                refine Ls.qP 44 ?_
                refine Ls.qP 45 ?_
                refine Ls.qP 46 ?_
                refine Ls.qN 47 ?_
                refine Ls.qN 48 ?_
                refine Ls.nil ?_
                refine Ent.inv () ?_ ?_ ?_
                · exact trivial
                · (repeat (first | exact trivial | refine ⟨by rfl, ?_⟩ | refine ⟨by simp only [List.length_append, List.length_cons, List.length_nil]; rfl, ?_⟩ | refine ⟨by push_cast; rfl, ?_⟩ | refine ⟨by (show some (Value.bool _) = some (Value.bool _); congr 2; all_goals ((first | rfl | exact absurd hg1 hT1 | exact decide_eq_false (by omega) | exact (decide_eq_false (by omega)).symm | (exfalso; omega)))), ?_⟩))
                · rfl
              · first | have hT5 := of_decide_eq_true hT5 | have hT5 := of_not_decide_true hT5 | skip
                refine Ls.qF 42 4 ?_
                refine Ls.qL 43 1 ?_
                refine Ls.qF 44 3 ?_
                refine Ls.qL 45 2 ?_
                refine Ls.qE 46 (Ev.lss rfl (by rfl) (by rfl)) ?_
                refine Ls.qT 47 ?_
                refine Ls.qN 48 ?_
                refine Ls.nil ?_
                refine Ent.inv () ?_ ?_ ?_
                · exact trivial
                · (repeat (first | exact trivial | refine ⟨by rfl, ?_⟩ | refine ⟨by simp only [List.length_append, List.length_cons, List.length_nil]; rfl, ?_⟩ | refine ⟨by push_cast; rfl, ?_⟩ | refine ⟨by (show some (Value.bool _) = some (Value.bool _); congr 2; all_goals ((first | rfl | exact absurd hg1 hT1 | exact decide_eq_false (by omega) | exact (decide_eq_false (by omega)).symm | (exfalso; omega)))), ?_⟩))
                · rfl
            · first | have hT4 := of_decide_eq_true hT4 | have hT4 := of_not_decide_true hT4 | skip
              refine Ls.qF 30 3 ?_
              refine Ls.qL 31 1 ?_
              refine Ls.qF 32 2 ?_
              refine Ls.qL 33 2 ?_
              refine Ls.qE 34 (Ev.lss rfl (by rfl) (by rfl)) ?_
              refine Ls.qT 35 ?_
              refine Ls.qN 36 ?_
              refine Ls.qM 37 ?_
              refine Ent.split 37 (by rfl) (fun hT5 => ?_) (fun hT5 => ?_)
              · first | have hT5 := of_decide_eq_false hT5 | have hT5 := of_not_decide_false hT5 | skip
                refine Ls.qF 38 4 ?_
                refine Ls.qL 39 1 ?_
                refine Ls.qE 40 (Ev.neq rfl (by rfl) (by rfl)) ?_
                refine Ls.qM 41 ?_
                refine Ent.split 41 (by rfl) (fun hT6 => ?_) (fun hT6 => ?_)
                · first | have hT6 := of_decide_eq_false hT6 | have hT6 := of_not_decide_false hT6 | skip
                  refine Ls.qP 42 ?_
                  refine Ls.qP 43 ?_
                  refine Ls.qP 44 ?_
                  refine Ls.qP 45 ?_
                  refine Ls.qP 46 ?_
                  refine Ls.qN 47 ?_
                  refine Ls.qN 48 ?_
                  refine Ls.nil ?_
                  refine Ent.inv () ?_ ?_ ?_
                  · exact trivial
                  · (repeat (first | exact trivial | refine ⟨by rfl, ?_⟩ | refine ⟨by simp only [List.length_append, List.length_cons, List.length_nil]; rfl, ?_⟩ | refine ⟨by push_cast; rfl, ?_⟩ | refine ⟨by (show some (Value.bool _) = some (Value.bool _); congr 2; all_goals ((first | rfl | exact absurd hg1 hT1 | exact decide_eq_false (by omega) | exact (decide_eq_false (by omega)).symm | (exfalso; omega)))), ?_⟩))
                  · rfl
                · first | have hT6 := of_decide_eq_true hT6 | have hT6 := of_not_decide_true hT6 | skip
                  refine Ls.qF 42 4 ?_
                  refine Ls.qL 43 1 ?_
                  refine Ls.qF 44 3 ?_
                  refine Ls.qL 45 2 ?_
                  refine Ls.qE 46 (Ev.lss rfl (by rfl) (by rfl)) ?_
                  refine Ls.qT 47 ?_
                  refine Ls.qN 48 ?_
                  refine Ls.nil ?_
                  refine Ent.inv () ?_ ?_ ?_
                  · exact trivial
                  · (repeat (first | exact trivial | refine ⟨by rfl, ?_⟩ | refine ⟨by simp only [List.length_append, List.length_cons, List.length_nil]; rfl, ?_⟩ | refine ⟨by push_cast; rfl, ?_⟩ | refine ⟨by (show some (Value.bool _) = some (Value.bool _); congr 2; all_goals ((first | rfl | exact absurd hg1 hT1 | exact decide_eq_false (by omega) | exact (decide_eq_false (by omega)).symm | (exfalso; omega)))), ?_⟩))
                  · rfl
              · first | have hT5 := of_decide_eq_true hT5 | have hT5 := of_not_decide_true hT5 | skip
                refine Ls.qP 38 ?_
                refine Ls.qP 39 ?_
                refine Ls.qP 40 ?_
                refine Ls.qP 41 ?_
                refine Ls.qP 42 ?_
                refine Ls.qP 43 ?_
                refine Ls.qP 44 ?_
                refine Ls.qP 45 ?_
                refine Ls.qP 46 ?_
                refine Ls.qP 47 ?_
                refine Ls.qT 48 ?_
                refine Ls.nil ?_
                refine Ent.inv () ?_ ?_ ?_
                · exact trivial
                · (repeat (first | exact trivial | refine ⟨by rfl, ?_⟩ | refine ⟨by simp only [List.length_append, List.length_cons, List.length_nil]; rfl, ?_⟩ | refine ⟨by push_cast; rfl, ?_⟩ | refine ⟨by (show some (Value.bool _) = some (Value.bool _); congr 2; all_goals ((first | rfl | exact absurd hg1 hT1 | exact decide_eq_false (by omega) | exact (decide_eq_false (by omega)).symm | (exfalso; omega)))), ?_⟩))
                · rfl
          · first | have hT3 := of_decide_eq_true hT3 | have hT3 := of_not_decide_true hT3 | skip
            refine Ls.qP 26 ?_
            refine Ls.qP 27 ?_
            refine Ls.qP 28 ?_
            refine Ls.qP 29 ?_
            refine Ls.qP 30 ?_
            refine Ls.qP 31 ?_
            refine Ls.qP 32 ?_
            refine Ls.qP 33 ?_
            refine Ls.qP 34 ?_
            refine Ls.qP 35 ?_
            refine Ls.qT 36 ?_
            refine Ls.qM 37 ?_
            refine Ls.qP 38 ?_
            refine Ls.qP 39 ?_
            refine Ls.qP 40 ?_
            refine Ls.qP 41 ?_
            refine Ls.qP 42 ?_
            refine Ls.qP 43 ?_
            refine Ls.qP 44 ?_
            refine Ls.qP 45 ?_
            refine Ls.qP 46 ?_
            refine Ls.qP 47 ?_
            refine Ls.qT 48 ?_
            refine Ls.nil ?_
            refine Ent.inv () ?_ ?_ ?_
            · exact trivial
            · (repeat (first | exact trivial | refine ⟨by rfl, ?_⟩ | refine ⟨by simp only [List.length_append, List.length_cons, List.length_nil]; rfl, ?_⟩ | refine ⟨by push_cast; rfl, ?_⟩ | refine ⟨by (show some (Value.bool _) = some (Value.bool _); congr 2; all_goals ((first | rfl | exact absurd hg1 hT1 | exact decide_eq_false (by omega) | exact (decide_eq_false (by omega)).symm | (exfalso; omega)))), ?_⟩))
            · rfl
      · first | have hT1 := of_decide_eq_true hT1 | have hT1 := of_not_decide_true hT1 | skip
        refine Ls.qP 14 ?_
        refine Ls.qP 15 ?_
        refine Ls.qP 16 ?_
        refine Ls.qP 17 ?_
        refine Ls.qP 18 ?_
        refine Ls.qP 19 ?_
        refine Ls.qP 20 ?_
        refine Ls.qP 21 ?_
        refine Ls.qP 22 ?_
        refine Ls.qP 23 ?_
        refine Ls.qT 24 ?_
        refine Ls.qM 25 ?_
        refine Ls.qP 26 ?_
        refine Ls.qP 27 ?_
        refine Ls.qP 28 ?_
        refine Ls.qP 29 ?_
        refine Ls.qP 30 ?_
        refine Ls.qP 31 ?_
        refine Ls.qP 32 ?_
        refine Ls.qP 33 ?_
        refine Ls.qP 34 ?_
        refine Ls.qP 35 ?_
        refine Ls.qT 36 ?_
        refine Ls.qM 37 ?_
        refine Ls.qP 38 ?_
        refine Ls.qP 39 ?_
        refine Ls.qP 40 ?_
        refine Ls.qP 41 ?_
        refine Ls.qP 42 ?_
        refine Ls.qP 43 ?_
        refine Ls.qP 44 ?_
        refine Ls.qP 45 ?_
        refine Ls.qP 46 ?_
        refine Ls.qP 47 ?_
        refine Ls.qT 48 ?_
        refine Ls.nil ?_
        refine Ent.inv () ?_ ?_ ?_
        · exact trivial
        · (repeat (first | exact trivial | refine ⟨by rfl, ?_⟩ | refine ⟨by simp only [List.length_append, List.length_cons, List.length_nil]; rfl, ?_⟩ | refine ⟨by push_cast; rfl, ?_⟩ | refine ⟨by (show some (Value.bool _) = some (Value.bool _); congr 2; all_goals ((first | rfl | exact absurd hg1 hT1 | exact decide_eq_false (by omega) | exact (decide_eq_false (by omega)).symm | (exfalso; omega)))), ?_⟩))
        · rfl
    skip
    rintro _ -
    refine Cd.cond_false (by rfl) (rfl) ?_
    refine Cd.skip ?_
    refine Cd.seq ?_
    refine Cd.region ?_
    refine Ls.qE 50 (Ev.loads 2 rfl (by rfl) (by rfl) (n := 4) (by kernel_rfl) (by rfl) (by rfl)) ?_
    refine Ls.does (some 6) (Does.alloc (cs := [.slice none 0 0, .int .i64 0, .int .i64 0, .int .i64 0]) rfl (ZeroIs.mk (.agg #[.slice none 0 0, .int .i64 0, .int .i64 0, .int .i64 0]) (by kernel_rfl) (by rfl))) (by rfl) (by rfl) ?_
    intro g4 _
    refine Ls.qD (Does.store 0 rfl (by rfl) (by rfl) (by rfl) (by kernel_rfl) (by rfl) (by kernel_rfl) (by rfl)) ?_
    intro _ _
    refine Ls.nil ?_
    refine Cd.seq ?_
    refine Cd.region ?_
    refine Ls.qF 51 0 ?_
    refine Ls.qL 52 3 ?_
    refine Ls.does (some 53) (Does.readN rfl Tryz.func35 (by kernel_rfl) (by kernel_rfl) (cloneT_sl A c v.tbs (by omega)) (by rfl) (by rfl) ⟨ReadsIn.rd 4 (by rfl), trivial⟩ (fun _ => by rfl)) (by rfl) (by rfl) ?_
    rintro ⟨C, k⟩ -
    skip
    refine Ls.qF 54 0 ?_
    refine Ls.qD (Does.store 1 rfl (by rfl) (by rfl) (by rfl) (by kernel_rfl) (by rfl) (by kernel_rfl) (by rfl)) ?_
    intro _ _
    refine Ls.nil ?_
    refine Cd.seq ?_
    refine Cd.seq ?_
    refine Cd.region ?_
    refine Ls.qF 55 1 ?_
    refine Ls.qL 56 3 ?_
    refine Ls.qE 57 (Ev.len rfl (by rfl) Tryz.underlying25) ?_
    refine Ls.qM 58 ?_
    refine Ls.nil ?_
    refine Cd.block ?_
    have hk0 : keptT v [] = v.tbs := List.filter_eq_self.2 fun t _ => decide_eq_true List.not_mem_nil
    refine Cd.loop (ι := Nat × List TbP) (fun p => [(2, .pointer (some ⟨g1, 0, none⟩)), (3, .pointer (some ⟨g2, 0, none⟩)), (4, .pointer (some ⟨g3, 0, none⟩)), (6, .pointer (some ⟨g4, 0, none⟩)), (56, .slice D e.drop.length d), (57, .int .i64 e.drop.length), (58, .int .i64 p.1)]) (fun p => [rowTb C p.2.length k p.2, blk g4 24 [.slice C p.2.length k, .int .i64 v.nx, .int .i64 v.lg, .int .i64 v.sq], blk g3 24 [.slice none 0 0, .int .i64 0, .int .i64 0, .int .i64 0], blk g2 27 [.slice B e.add.length b, .slice D e.drop.length d, .int .i64 e.nx, .int .i64 e.lg, .int .i64 e.sq], blk g1 24 [.slice A v.tbs.length c, .int .i64 v.nx, .int .i64 v.lg, .int .i64 v.sq], rdT A v.tbs, rdT B e.add, rd D e.drop.length 1 (ints e.drop)]) (fun p => p.1 ≤ e.drop.length ∧ p.2 = keptT v (e.drop.take p.1) ∧ DropOk v (e.drop.take p.1)) (fun p => e.drop.length - p.1) ((0, v.tbs)) (⟨Nat.zero_le _, hk0.symm, DropOk.nil v⟩) ?_ rfl ?_
    · (repeat (first | exact trivial | refine ⟨by rfl, ?_⟩))
    rintro ⟨j, K⟩ ⟨hj, hK, hD⟩
    dsimp only at hj hK hD ⊢
    have hKl : K.length ≤ 70000000 := by
      rw [hK]
      exact Nat.le_trans (List.length_filter_le _ _) hv
    refine Cd.seq ?_
    refine Cd.region ?_
    refine Ls.qE 59 (Ev.lss rfl (by rfl) (by rfl)) ?_
    refine Ls.nil ?_
    refine Cd.seq ?_
    refine Cd.cond _ (by rfl) (fun h2 => ?_) (fun h2 => ?_)
    · skip
      have hjl : j < e.drop.length := by have := of_decide_eq_true h2; omega
      obtain ⟨x, hx⟩ := get_of_lt hjl
      have htk : e.drop.take (j + 1) = e.drop.take j ++ [x] := by rw [List.take_add_one, hx]; rfl
      refine Ent.rdSome 7 (by rfl) (by omega) (fun dd hdd => ?_)
      obtain rfl : D = some dd := hdd
      refine Cd.skip ?_
      refine Cd.seq ?_
      refine Cd.block ?_
      refine Cd.seq ?_
      refine Cd.region ?_
      refine Ls.qE 60 (Ev.indexAt (sz := 1) rfl (by rfl) (by rfl) Tryz.underlying25 (by kernel_rfl) (by omega)) ?_
      refine Ls.qE 61 (Ev.loadInt rfl (by rfl) (ReadsIn.rd 7 (by rfl)) (by kernel_rfl) (by assumption)) ?_
      refine Ls.does (some 8) (Does.alloc (cs := [.int .i64 0]) rfl (ZeroIs.mk (.int .i64 0) (by kernel_rfl) (by rfl))) (by rfl) (by rfl) ?_
      intro g5 _
      refine Ls.qD (Does.store 0 rfl (by rfl) (by rfl) (by rfl) (by kernel_rfl) (by rfl) (by kernel_rfl) (by rfl)) ?_
      intro _ _
      refine Ls.nil ?_
      refine Cd.seq ?_
      refine Cd.region ?_
      refine Ls.qF 62 0 ?_
      refine Ls.qL 63 2 ?_
      refine Ls.qE 64 (Ev.makeFunc1 rfl (by rfl)) ?_
      refine Ls.does (some 65) (Does.read rfl Tryz.func36 (by kernel_rfl) (by kernel_rfl) (index_sl C k K g5 x (by omega)) (by rfl) (by rfl) ⟨ReadsIn.row 1 (by rfl), blkIn 0 (by rfl), trivial⟩) (by rfl) (by rfl) ?_
      rintro r hr2
      refine Ls.qA 9 ?_
      refine Ls.nil ?_
      refine Cd.seq ?_
      refine Cd.seq ?_
      refine Cd.region ?_
      refine Ls.qM 66 ?_
      refine Ls.qE 67 (Ev.lss rfl (by rfl) (by rfl)) ?_
      refine Ls.nil ?_
      have hspl : e.drop = e.drop.take j ++ x :: e.drop.drop (j + 1) := by
        obtain ⟨q1, q2⟩ := List.getElem?_eq_some_iff.1 hx
        rw [← q2, ← List.drop_eq_getElem_cons q1, List.take_append_drop]
      rcases hr2 with ⟨rfl, hno⟩ | ⟨i, t, rfl, hit, hnum⟩
      · skip
        refine Cd.cond_true (by rfl) (decide_eq_true (show (-1 : Int) < 0 by decide)) ?_
        refine Cd.seq ?_
        refine Cd.region ?_
        refine Ls.qE 68 (Ev.buildP (pl := [(0, 1), (1, 1), (2, 1), (3, 1)]) (zs := [.slice none 0 0, .int .i64 0, .int .i64 0, .int .i64 0]) rfl (by rfl) (by kernel_rfl) (by rfl)) ?_
        refine Ls.qD (Does.store 3 rfl (by rfl) (by rfl) (by rfl) (by kernel_rfl) (by rfl) (by kernel_rfl) (by rfl)) ?_
        intro _ _
        refine Ls.qA 5 ?_
        refine Ls.nil ?_
        refine Cd.ret ?_
        refine Ent.ret (none) (⟨fun h => (by cases h), fun h => absurd h.2.2.1 (by rw [hspl]; exact drop_bad (by rw [← hK]; exact hno))⟩) (Res.cell_tmp 3 (by rfl) (by rfl) (by rfl) (n := 4) (by kernel_rfl) (by rfl) (by rfl) (by rfl)) ?_ [] (by rfl) ?_
        · rfl
        · rfl
      · skip
        have hil := (List.getElem?_eq_some_iff.1 hit).1
        obtain ⟨m1, m2, m3⟩ := kept_step hg1 (ds := e.drop.take j) (n := x) (i := i) (t := t) (by rw [← hK]; exact hit) hnum
        rw [← hK] at m1
        have hel : (K.eraseIdx i).length = K.length - 1 := List.length_eraseIdx_of_lt hil
        refine Cd.cond_false (by rfl) (decide_eq_false (show ¬ ((i : Int) < 0) by omega)) ?_
        refine Cd.skip ?_
        refine Cd.region ?_
        refine Ls.qF 69 0 ?_
        refine Ls.qL 70 2 ?_
        refine Ls.qM 71 ?_
        refine Ls.qM 72 ?_
        refine Ls.qE 73 (Ev.addN (b := 1) rfl (by rfl) (by rfl) (by omega)) ?_
        refine Ls.does (some 74) (Does.call [1, 0, 2, 3, 4, 5, 6, 7, 8] rfl Tryz.func38 (by kernel_rfl) (by kernel_rfl) (del_sl C K.length k i K rfl hil (by omega)) (by rfl) (by rfl) (by rfl)) (by rfl) (by rfl) ?_
        rintro _ -
        rw [← hel]
        refine Ls.qF 75 0 ?_
        refine Ls.qD (Does.store 2 rfl (by rfl) (by rfl) (by rfl) (by kernel_rfl) (by rfl) (by kernel_rfl) (by rfl)) ?_
        intro _ _
        refine Ls.nil ?_
        refine Cd.region ?_
        refine Ls.qE 76 (Ev.addN (b := 1) rfl (by rfl) (by rfl) (by omega)) ?_
        refine Ls.qM 58 ?_
        refine Ls.nil ?_
        refine Ent.pick [0, 2, 3, 4, 5, 6, 7, 8] (by rfl) ?_
        refine Ent.inv ((j + 1, K.eraseIdx i)) ?_ ?_ ?_
        · (try dsimp only); exact ⟨⟨hjl, by rw [htk]; exact m1, by rw [htk]; exact hD.snoc m2 m3⟩, by omega⟩
        · (repeat (first | exact trivial | refine ⟨by rfl, ?_⟩ | refine ⟨by simp only [List.length_append, List.length_cons, List.length_nil]; rfl, ?_⟩ | refine ⟨by push_cast; rfl, ?_⟩))
        · rfl
    · skip
      have hge : e.drop.length ≤ j := by have := of_decide_eq_false h2; omega
      rw [List.take_of_length_le hge] at hK hD
      refine Cd.exit ?_
      refine Cd.seq ?_
      refine Cd.region ?_
      refine Ls.qF 77 0 ?_
      refine Ls.qL 78 1 ?_
      refine Ls.qF 79 0 ?_
      refine Ls.qL 80 3 ?_
      refine Ls.does (some 81) (Does.app (xs := tbs K) (news := tbs e.add) 0 rfl (by rfl) (by rfl) (by rfl) (ReadsIn.rd 6 (by rfl)) elem_tb (one_tb _) (show (K.length + e.add.length) * 48 ≤ 140737488355328 by omega)) (by rfl) (by rfl) ?_
      rintro ⟨qA, qc⟩ -
      dsimp only
      have hL : row qA (K.length + e.add.length) qc 42 4 (tbs K ++ tbs e.add) = rowTb qA (K.length + e.add.length) qc (K ++ e.add) := by
        dsimp only [rowTb]
        rw [tbs_append]
      rw [hL]
      refine Ls.qF 82 0 ?_
      refine Ls.qD (Does.store 1 rfl (by rfl) (by rfl) (by rfl) (by kernel_rfl) (by rfl) (by kernel_rfl) (by rfl)) ?_
      intro _ _
      refine Ls.nil ?_
      refine Cd.seq ?_
      refine Cd.region ?_
      refine Ls.qF 83 0 ?_
      refine Ls.qL 84 1 ?_
      refine Ls.does (some 85) (Does.call [0, 1, 2, 3, 4, 5, 6, 7] rfl Tryz.func39 (by kernel_rfl) (by kernel_rfl) (sort_sl qA (K.length + e.add.length) qc (K ++ e.add) List.length_append (by omega)) (by rfl) (by rfl) (by rfl)) (by rfl) (by rfl) ?_
      rintro Q ⟨hp, hs⟩
      have hQl : K.length + e.add.length = Q.length := by rw [hp.length_eq, List.length_append]
      rw [hQl]
      have hmx : ∀ a b : Int, (if a < b then b else a) = max a b := fun a b => by split <;> omega
      refine Ls.nil ?_
      refine Cd.seq ?_
      skip
      refine Cd.drawS [3, 4] [20] (by kernel_rfl) ?_
      refine Rg.ev 0 (by rfl) (fun _ h => h.pick [3, 4] rfl) (Ev.fieldAddr (k := 1) rfl (by rfl) (by kernel_rfl) (by rfl)) (by rfl) (some 86) (by rfl) (by kernel_rfl) (by kernel_rfl) (by kernel_rfl) (by kernel_rfl) ?_
      refine Rg.ev 1 (by rfl) (fun _ h => h.pick [3, 4] rfl) (Ev.load 1 rfl (by rfl) (by rfl) (by kernel_rfl) (by rfl)) (by rfl) (some 87) (by rfl) (by kernel_rfl) (by kernel_rfl) (by kernel_rfl) (by kernel_rfl) ?_
      refine Rg.ev 2 (by rfl) (fun _ h => h.pick [3, 4] rfl) (Ev.fieldAddr (k := 2) rfl (by rfl) (by kernel_rfl) (by rfl)) (by rfl) (some 88) (by rfl) (by kernel_rfl) (by kernel_rfl) (by kernel_rfl) (by kernel_rfl) ?_
      refine Rg.ev 3 (by rfl) (fun _ h => h.pick [3, 4] rfl) (Ev.load 0 rfl (by rfl) (by rfl) (by kernel_rfl) (by rfl)) (by rfl) (some 89) (by rfl) (by kernel_rfl) (by kernel_rfl) (by kernel_rfl) (by kernel_rfl) ?_
      refine Rg.ev 4 (by rfl) (fun _ h => h.pick [3, 4] rfl) (Ev.max rfl (by rfl) (by rfl)) (by rfl) (some 90) (by rfl) (by kernel_rfl) (by kernel_rfl) (by kernel_rfl) (by kernel_rfl) ?_
      refine Rg.ev 5 (by rfl) (fun _ h => h.pick [3, 4] rfl) (Ev.fieldAddr (k := 2) rfl (by rfl) (by kernel_rfl) (by rfl)) (by rfl) (some 91) (by rfl) (by kernel_rfl) (by kernel_rfl) (by kernel_rfl) (by kernel_rfl) ?_
      refine Rg.ev 6 (by rfl) (fun _ h => h.pick [3, 4] rfl) (Ev.load 1 rfl (by rfl) (by rfl) (by kernel_rfl) (by rfl)) (by rfl) (some 92) (by rfl) (by kernel_rfl) (by kernel_rfl) (by kernel_rfl) (by kernel_rfl) ?_
      refine Rg.ev 7 (by rfl) (fun _ h => h.pick [3, 4] rfl) (Ev.fieldAddr (k := 3) rfl (by rfl) (by kernel_rfl) (by rfl)) (by rfl) (some 93) (by rfl) (by kernel_rfl) (by kernel_rfl) (by kernel_rfl) (by kernel_rfl) ?_
      refine Rg.ev 8 (by rfl) (fun _ h => h.pick [3, 4] rfl) (Ev.load 0 rfl (by rfl) (by rfl) (by kernel_rfl) (by rfl)) (by rfl) (some 94) (by rfl) (by kernel_rfl) (by kernel_rfl) (by kernel_rfl) (by kernel_rfl) ?_
      refine Rg.ev 9 (by rfl) (fun _ h => h.pick [3, 4] rfl) (Ev.max rfl (by rfl) (by rfl)) (by rfl) (some 95) (by rfl) (by kernel_rfl) (by kernel_rfl) (by kernel_rfl) (by kernel_rfl) ?_
      refine Rg.ev 10 (by rfl) (fun _ h => h.pick [3, 4] rfl) (Ev.fieldAddr (k := 3) rfl (by rfl) (by kernel_rfl) (by rfl)) (by rfl) (some 96) (by rfl) (by kernel_rfl) (by kernel_rfl) (by kernel_rfl) (by kernel_rfl) ?_
      refine Rg.ev 11 (by rfl) (fun _ h => h.pick [3, 4] rfl) (Ev.load 1 rfl (by rfl) (by rfl) (by kernel_rfl) (by rfl)) (by rfl) (some 97) (by rfl) (by kernel_rfl) (by kernel_rfl) (by kernel_rfl) (by kernel_rfl) ?_
      refine Rg.ev 12 (by rfl) (fun _ h => h.pick [3, 4] rfl) (Ev.fieldAddr (k := 4) rfl (by rfl) (by kernel_rfl) (by rfl)) (by rfl) (some 98) (by rfl) (by kernel_rfl) (by kernel_rfl) (by kernel_rfl) (by kernel_rfl) ?_
      refine Rg.ev 13 (by rfl) (fun _ h => h.pick [3, 4] rfl) (Ev.load 0 rfl (by rfl) (by rfl) (by kernel_rfl) (by rfl)) (by rfl) (some 99) (by rfl) (by kernel_rfl) (by kernel_rfl) (by kernel_rfl) (by kernel_rfl) ?_
      refine Rg.ev 14 (by rfl) (fun _ h => h.pick [3, 4] rfl) (Ev.max rfl (by rfl) (by rfl)) (by rfl) (some 100) (by rfl) (by kernel_rfl) (by kernel_rfl) (by kernel_rfl) (by kernel_rfl) ?_
      refine Rg.ev 15 (by rfl) (fun _ h => h.pick [3, 4] rfl) (Ev.fieldAddr (k := 1) rfl (by rfl) (by kernel_rfl) (by rfl)) (by rfl) (some 101) (by rfl) (by kernel_rfl) (by kernel_rfl) (by kernel_rfl) (by kernel_rfl) ?_
      refine Rg.keep 16 (by rfl) (by kernel_rfl) (Does.store 1 rfl (by rfl) (by rfl) (by rfl) (by kernel_rfl) (by rfl) (by kernel_rfl) (by rfl)) (by rfl) none (by rfl) (fun _ _ h => by have h2 := h.pick [3, 4] (by rfl); exact h2) ?_
      intro _ _
      refine Rg.ev 17 (by rfl) (fun _ h => h.pick [3, 4] rfl) (Ev.fieldAddr (k := 2) rfl (by rfl) (by kernel_rfl) (by rfl)) (by rfl) (some 102) (by rfl) (by kernel_rfl) (by kernel_rfl) (by kernel_rfl) (by kernel_rfl) ?_
      refine Rg.keep 18 (by rfl) (by kernel_rfl) (Does.store 1 rfl (by rfl) (by rfl) (by rfl) (by kernel_rfl) (by rfl) (by kernel_rfl) (by rfl)) (by rfl) none (by rfl) (fun _ _ h => by have h2 := h.pick [3, 4] (by rfl); exact h2) ?_
      intro _ _
      refine Rg.ev 19 (by rfl) (fun _ h => h.pick [3, 4] rfl) (Ev.fieldAddr (k := 3) rfl (by rfl) (by kernel_rfl) (by rfl)) (by rfl) (some 103) (by rfl) (by kernel_rfl) (by kernel_rfl) (by kernel_rfl) (by kernel_rfl) ?_
      refine Rg.tail 20 [] (by rfl) (by kernel_rfl) (Does.store 1 rfl (by rfl) (by rfl) (by rfl) (by kernel_rfl) (by rfl) (by kernel_rfl) (by rfl)) (by rfl) none (by rfl) (by kernel_rfl) (by kernel_rfl) ?_
      intro _ _
      refine Rg.done (by kernel_rfl) ?_ _
      refine Cd.seq ?_
      refine Cd.seq ?_
      rw [hmx, hmx, hmx]
      have hfQ : Fine Q := fun t ht => by
        rcases List.mem_append.1 (hp.mem_iff.1 ht) with h | h
        · rw [hK] at h
          exact fv t (List.mem_filter.1 h).1
        · exact fe t h
      have hgs := good_sort (nx := max v.nx e.nx) (lg := max v.lg e.lg) (sq := max v.sq e.sq) hp hs
      have hout : outP v e = ⟨sortT (K ++ e.add), max v.nx e.nx, max v.lg e.lg, max v.sq e.sq⟩ := by
        unfold outP
        rw [← hK]
      refine Cd.region ?_
      refine Ls.qE 104 (Ev.loads 1 rfl (by rfl) (by rfl) (n := 4) (by kernel_rfl) (by rfl) (by rfl)) ?_
      refine Ls.does (some 105) (Does.read rfl Tryz.func34 (by kernel_rfl) (by kernel_rfl) (good_slV ⟨Q, max v.nx e.nx, max v.lg e.lg, max v.sq e.sq⟩ qA qc (by dsimp only; omega) hfQ) (by rfl) (by rfl) ⟨ReadsIn.row 0 (by rfl), trivial⟩) (by rfl) (by rfl) ?_
      rintro _ -
      refine Ls.qE 106 (Ev.not rfl (by rfl)) ?_
      refine Ls.nil ?_
      by_cases hGo : goodP ⟨Q, max v.nx e.nx, max v.lg e.lg, max v.sq e.sq⟩
      · skip
        have hQ := hgs.2 hGo
        rw [decide_eq_true hGo]
        refine Cd.cond_false (by rfl) (rfl) ?_
        refine Cd.skip ?_
        refine Cd.seq ?_
        refine Cd.region ?_
        refine Ls.qE 108 (Ev.loads 1 rfl (by rfl) (by rfl) (n := 4) (by kernel_rfl) (by rfl) (by rfl)) ?_
        refine Ls.qD (Does.store 2 rfl (by rfl) (by rfl) (by rfl) (by kernel_rfl) (by rfl) (by kernel_rfl) (by rfl)) ?_
        intro _ _
        refine Ls.qA 5 ?_
        refine Ls.nil ?_
        refine Cd.ret ?_
        refine Ent.ret (some (qA, qc)) (⟨fun _ => ⟨hg1, hg2, hD, by rw [hout]; exact hgs.1.1 hGo⟩, fun _ => rfl⟩) (Res.cell_tmp 2 (by rfl) (by rfl) (by rfl) (n := 4) (by kernel_rfl) (by rfl) (by rfl) (by rfl)) ?_ [0] (by rfl) ?_
        · unfold fitV
          rw [hout, ← hQ]
          try rfl
        · unfold fitC
          rw [hout, ← hQ]
          try rfl
      · skip
        rw [decide_eq_false hGo]
        refine Cd.cond_true (by rfl) (rfl) ?_
        refine Cd.seq ?_
        refine Cd.region ?_
        refine Ls.qE 107 (Ev.buildP (pl := [(0, 1), (1, 1), (2, 1), (3, 1)]) (zs := [.slice none 0 0, .int .i64 0, .int .i64 0, .int .i64 0]) rfl (by rfl) (by kernel_rfl) (by rfl)) ?_
        refine Ls.qD (Does.store 2 rfl (by rfl) (by rfl) (by rfl) (by kernel_rfl) (by rfl) (by kernel_rfl) (by rfl)) ?_
        intro _ _
        refine Ls.qA 5 ?_
        refine Ls.nil ?_
        refine Cd.ret ?_
        refine Ent.ret (none) (⟨fun h => (by cases h), fun h => absurd (hgs.1.2 (by rw [← hout]; exact h.2.2.2)) hGo⟩) (Res.cell_tmp 2 (by rfl) (by rfl) (by rfl) (n := 4) (by kernel_rfl) (by rfl) (by rfl) (by rfl)) ?_ [] (by rfl) ?_
        · rfl
        · rfl
end Go.Proofs.YtacbkganjkipdaaGreatDoor
/- numbers and texts at the front of bytes, over pieces -/
namespace Go.Proofs.YtacbkganjkipdaaGreatDoor
open Go.RowKit
def textB (l : List UInt8) : List UInt8 := uintL l.length ++ l
theorem textB_length (l : List UInt8) : (textB l).length = (uintL l.length).length + l.length := by
  unfold textB
  rw [List.length_append]
theorem uint_sl (n : Nat) (hn : n < 18446744073709551616) : Fn Tryz.prog 92 #[.int .u64 n] [] (Option Addr × Nat) (fun p => .slice p.1 (uintL n).length p.2) (fun p => [rowB p.1 p.2 (uintL n)]) (fun _ => True) :=
  Fn.of_own (res := fun p => .slice p.1 (uintL n).length p.2) fun w _ => uint_any n w hn
theorem ftext_sl (l : List UInt8) (hs : l.length ≤ 140737488351232) : Fn Tryz.prog 94 #[.string (txt l)] [] (Option Addr × Nat) (fun p => .slice p.1 (textB l).length p.2) (fun p => [rowB p.1 p.2 (textB l)]) (fun _ => True) :=
  Fn.of_own (res := fun p => .slice p.1 (textB l).length p.2) fun w _ => by
    have h := text_any (txt l) w hs
    rw [show (uintL (txt l).size).length + (txt l).size = (textB l).length from (textB_length l).symm] at h
    exact h
theorem takeUint_sl (A : Option Addr) (c : Nat) (l : List UInt8) (hn : l.length ≤ maxLen) : Fn Tryz.prog 129 #[.slice A l.length c] [rdB A l] Unit (fun _ => .tuple #[.int .u64 (takeU l).1, .int .i64 (takeU l).2]) (fun _ => []) (fun _ => True) :=
  Fn.of_same fun w hs => takeUint_any A l.length c l w (sat_rd 0 rfl hs) hn
theorem takeText_sl (A : Option Addr) (c : Nat) (l : List UInt8) (hc : l.length ≤ c) (hn : l.length ≤ maxLen) : Fn Tryz.prog 130 #[.slice A l.length c] [rdB A l] Unit (fun _ => .tuple #[.string ⟨(takeT l).1.toArray⟩, .int .i64 (takeT l).2]) (fun _ => []) (fun _ => True) :=
  Fn.of_same fun w hs => takeText_any A l.length c l w (sat_rd 0 rfl hs) hc hn
/-- A number at the front: it, how much it took, was there none. -/
def numC (l : List UInt8) : Nat × Nat × Bool := if (takeU l).2 = 0 ∨ 4611686018427387904 < (takeU l).1 then (0, 0, true) else ((takeU l).1, (takeU l).2, false)
def txtC (l : List UInt8) : ByteArray × Nat × Bool := if (takeT l).2 = 0 then (⟨#[]⟩, 0, true) else (txt (takeT l).1, (takeT l).2, false)
theorem takeT_le (l : List UInt8) : (takeT l).2 ≤ l.length ∧ (takeT l).1.length ≤ l.length := by
  have := takeU_le l
  unfold takeT
  split
  · simp
  · rename_i h
    simp only [List.length_take, List.length_drop]
    omega
theorem numC_le (l : List UInt8) : (numC l).2.1 ≤ l.length ∧ (numC l).1 ≤ 4611686018427387904 ∧ ((numC l).2.2 = false → 1 ≤ (numC l).2.1) := by
  have := takeU_le l
  unfold numC
  split
  · simp
  · dsimp only; omega
theorem txtC_le (l : List UInt8) : (txtC l).2.1 ≤ l.length ∧ (txtC l).1.size ≤ l.length ∧ ((txtC l).2.2 = false → 1 ≤ (txtC l).2.1) := by
  have h := takeT_le l
  unfold txtC
  split
  · exact ⟨Nat.zero_le _, Nat.zero_le _, fun h => by cases h⟩
  · refine ⟨h.1, ?_, fun _ => by dsimp only; omega⟩
    show (takeT l).1.toArray.size ≤ _
    simpa using h.2
section
variable {Γ : Ctx} {N : Frm} {P : Program} {E : Env} {H : List Chunk} {o : Oper} {x y z : Operand}
theorem Ent.cutB {A : Option Addr} {l : List UInt8} {B : Asrt} (i lo hi m : Nat) (hi' : H[i]? = some (rdB A l)) (hlo : lo ≤ hi ∧ hi ≤ l.length ∧ hi ≤ m) (h : Ent Γ N E (rdB (cutA A m lo 1) ((l.drop lo).take (hi - lo)) :: H) B) : Ent Γ N E H B := by
  refine Ent.cut i lo hi m hi' hlo ?_
  have e : ((u8s l).drop (lo * 1)).take ((hi - lo) * 1) = u8s ((l.drop lo).take (hi - lo)) := by
    rw [Nat.mul_one, Nat.mul_one, u8s_drop]
    simp [u8s, List.map_take]
  have e2 : ((l.drop lo).take (hi - lo)).length = hi - lo := by rw [List.length_take, List.length_drop]; omega
  rw [e]
  unfold rdB at h
  rw [e2] at h
  exact h
theorem Ent.dropB {A : Option Addr} {l : List UInt8} {B : Asrt} (i lo m : Nat) (hi' : H[i]? = some (rdB A l)) (hlo : lo ≤ l.length ∧ l.length ≤ m) (h : Ent Γ N E (rdB (cutA A m lo 1) (l.drop lo) :: H) B) : Ent Γ N E H B := by
  refine Ent.cutB i lo l.length m hi' ⟨hlo.1, Nat.le_refl _, hlo.2⟩ ?_
  rw [List.take_of_length_le (by rw [List.length_drop]; exact Nat.le_refl _)]
  exact h
theorem Ev.dropB {t e c lo : Nat} {A : Option Addr} {k : IntKind} {l : List UInt8} (ho : o.op = .slice t x (some y) none none) (hx : E.ev x = some (.slice A l.length c)) (hy : E.ev y = some (.int k lo)) (ht : P.underlying t = some (.slice e)) (he : (P.info? e).map (·.size) = some 1) (hl : lo ≤ l.length) :
    Ev Γ N P E H o (.slice (cutA A c lo 1) (l.drop lo).length (c - lo)) := by
  rw [List.length_drop]
  exact Ev.sliceLn ho hx hy ht he hl
theorem Ev.cutB {t e c lo hi : Nat} {A : Option Addr} {k k' : IntKind} {l : List UInt8} (ho : o.op = .slice t x (some y) (some z) none) (hx : E.ev x = some (.slice A l.length c)) (hy : E.ev y = some (.int k lo)) (hz : E.ev z = some (.int k' hi)) (ht : P.underlying t = some (.slice e)) (he : (P.info? e).map (·.size) = some 1) (hl : lo ≤ hi ∧ hi ≤ l.length ∧ l.length ≤ c) :
    Ev Γ N P E H o (.slice (cutA A c lo 1) ((l.drop lo).take (hi - lo)).length (c - lo)) := by
  rw [List.length_take, List.length_drop, Nat.min_eq_left (by omega)]
  exact Ev.sliceLHn ho hx hy hz ht he (by omega)
end
/-- The cutter's pieces. -/
def cutC (g : Nat) (l : List UInt8) (bad : Bool) (p : Option Addr × Nat) : List Chunk := [blk g 148 [.slice p.1 l.length p.2, .bool bad], rdB p.1 l]
theorem number_sl (g : Nat) (A : Option Addr) (c : Nat) (l : List UInt8) (bad : Bool) (hc : l.length ≤ c) (hm : l.length ≤ maxLen) :
    Fn Tryz.prog 89 #[.pointer (some ⟨g, 0, none⟩)] (cutC g l bad (A, c)) (Option Addr × Nat) (fun _ => .int .i64 (numC l).1) (fun p => cutC g (l.drop (numC l).2.1) (bad || (numC l).2.2) p) (fun p => (l.drop (numC l).2.1).length ≤ p.2) := by
  have hle := takeU_le l
  refine Fn.enter Tryz.func89 rfl Tryz.ntmps89 (by rfl) ?_
  intro w0
  refine Cd.seq ?_
  refine Cd.region ?_
  refine Ls.qA 2 ?_
  refine Ls.nil ?_
  refine Cd.seq ?_
  refine Cd.region ?_
  refine Ls.qM 6 ?_
  refine Ls.qE 7 (Ev.nilCheck rfl (by rfl)) ?_
  refine Ls.qF 8 0 ?_
  refine Ls.qL 9 0 ?_
  refine Ls.does (some 10) (Does.read rfl Tryz.func129 (by kernel_rfl) (by kernel_rfl) (takeUint_sl A c l hm) (by rfl) (by rfl) ⟨ReadsIn.rd 1 (by rfl), trivial⟩) (by rfl) (by rfl) ?_
  rintro _ -
  refine Ls.qM 5 ?_
  refine Ls.qE 11 (Ev.extract rfl (by rfl) (by rfl)) ?_
  refine Ls.qE 12 (Ev.extract rfl (by rfl) (by rfl)) ?_
  refine Ls.qA 3 ?_
  refine Ls.qA 4 ?_
  refine Ls.nil ?_
  refine Cd.seq ?_
  refine Cd.seq ?_
  refine Cd.cut (ι := Unit) (fun _ => [(0, .pointer (some ⟨g, 0, none⟩)), (3, .int .u64 (takeU l).1), (4, .int .i64 (takeU l).2), (18, .bool (decide ((takeU l).2 = 0 ∨ 4611686018427387904 < (takeU l).1)))]) (fun _ => cutC g l bad (A, c)) (fun _ => True) ?_ ?_
  · skip
    refine Cd.region ?_
    refine Ls.qM 13 ?_
    refine Ls.qE 14 (Ev.eql rfl (by rfl) (by rfl)) ?_
    refine Ls.qM 15 ?_
    refine Ent.split 15 (by rfl) (fun h => ?_) (fun h => ?_)
    · skip
      have h1 : (takeU l).2 ≠ 0 := by have := of_decide_eq_false h; omega
      refine Ls.qM 16 ?_
      refine Ls.qE 17 (Ev.gtr rfl (by rfl) (by rfl)) ?_
      refine Ls.qN 18 ?_
      refine Ls.nil ?_
      refine Ent.inv (()) ?_ ?_ ?_
      · (try dsimp only); skip
      · (repeat (first | exact trivial | refine ⟨by rfl, ?_⟩ | refine ⟨by simp only [List.length_append, List.length_cons, List.length_nil]; rfl, ?_⟩ | refine ⟨by push_cast; rfl, ?_⟩ | refine ⟨by (show some (Value.bool _) = some (Value.bool _); congr 2; rw [decide_eq_decide]; omega), ?_⟩))
      · rfl
    · skip
      have h1 : (takeU l).2 = 0 := by have := of_decide_eq_true h; omega
      refine Ls.qP 16 ?_
      refine Ls.qP 17 ?_
      refine Ls.qT 18 ?_
      refine Ls.nil ?_
      refine Ent.inv (()) ?_ ?_ ?_
      · (try dsimp only); skip
      · (repeat (first | exact trivial | refine ⟨by rfl, ?_⟩ | refine ⟨by simp only [List.length_append, List.length_cons, List.length_nil]; rfl, ?_⟩ | refine ⟨by push_cast; rfl, ?_⟩ | refine ⟨by (show some (Value.bool _) = some (Value.bool _); congr 2; exact (decide_eq_true (.inl h1)).symm), ?_⟩))
      · rfl
  skip
  rintro _ -
  refine Cd.cond _ (by rfl) (fun h => ?_) (fun h => ?_)
  · skip
    have hn : numC l = (0, 0, true) := by unfold numC; rw [if_pos (of_decide_eq_true h)]
    rw [hn]
    refine Cd.seq ?_
    refine Cd.region ?_
    refine Ls.qM 19 ?_
    refine Ls.qE 20 (Ev.nilCheck rfl (by rfl)) ?_
    refine Ls.qF 21 1 ?_
    refine Ls.qD (Does.store 0 rfl (by rfl) (by rfl) (by rfl) (by kernel_rfl) (by rfl) (by kernel_rfl) (by rfl)) ?_
    intro _ _
    refine Ls.nil ?_
    refine Cd.seq ?_
    refine Cd.region ?_
    refine Ls.qA 2 ?_
    refine Ls.nil ?_
    refine Cd.ret ?_
    refine Ent.ret ((A, c)) (hc) (Res.tmp (by rfl) (by rfl)) ?_ [0, 1] (by rfl) ?_
    · rfl
    · rw [Bool.or_true]; rfl
  · skip
    have hn : numC l = ((takeU l).1, (takeU l).2, false) := by unfold numC; rw [if_neg (of_decide_eq_false h)]
    have hbig := of_decide_eq_false h
    rw [hn]
    refine Cd.skip ?_
    refine Cd.seq ?_
    refine Cd.region ?_
    refine Ls.qM 22 ?_
    refine Ls.qM 23 ?_
    refine Ls.qE 24 (Ev.nilCheck rfl (by rfl)) ?_
    refine Ls.qF 25 0 ?_
    refine Ls.qL 26 0 ?_
    refine Ls.qM 27 ?_
    refine Ls.qE 28 (Ev.dropB rfl (by rfl) (by rfl) Tryz.underlying47 (by kernel_rfl) hle.1) ?_
    refine Ent.dropB 1 (takeU l).2 c (by rfl) ⟨hle.1, hc⟩ ?_
    refine Ls.qE 29 (Ev.nilCheck rfl (by rfl)) ?_
    refine Ls.qF 30 0 ?_
    refine Ls.qD (Does.store 1 rfl (by rfl) (by rfl) (by rfl) (by kernel_rfl) (by rfl) (by kernel_rfl) (by rfl)) ?_
    intro _ _
    refine Ls.nil ?_
    refine Cd.seq ?_
    refine Cd.region ?_
    refine Ls.qM 31 ?_
    refine Ls.qE 32 (Ev.convI rfl (by rfl) (by kernel_rfl) Tryz.underlying3 (by omega)) ?_
    refine Ls.qA 2 ?_
    refine Ls.nil ?_
    refine Cd.ret ?_
    refine Ent.ret ((cutA A c (takeU l).2 1, c - (takeU l).2)) ((by dsimp only; rw [List.length_drop]; omega)) (Res.tmp (by rfl) (by rfl)) ?_ [1, 0] (by rfl) ?_
    · rfl
    · rw [Bool.or_false]; rfl
theorem text_sl (g : Nat) (A : Option Addr) (c : Nat) (l : List UInt8) (bad : Bool) (hc : l.length ≤ c) (hm : l.length ≤ maxLen) :
    Fn Tryz.prog 90 #[.pointer (some ⟨g, 0, none⟩)] (cutC g l bad (A, c)) (Option Addr × Nat) (fun _ => .string (txtC l).1) (fun p => cutC g (l.drop (txtC l).2.1) (bad || (txtC l).2.2) p) (fun p => (l.drop (txtC l).2.1).length ≤ p.2) := by
  have hle := takeT_le l
  refine Fn.enter Tryz.func90 rfl Tryz.ntmps90 (by rfl) ?_
  intro w0
  refine Cd.seq ?_
  refine Cd.region ?_
  refine Ls.qA 2 ?_
  refine Ls.nil ?_
  refine Cd.seq ?_
  refine Cd.region ?_
  refine Ls.qM 6 ?_
  refine Ls.qE 7 (Ev.nilCheck rfl (by rfl)) ?_
  refine Ls.qF 8 0 ?_
  refine Ls.qL 9 0 ?_
  refine Ls.does (some 10) (Does.read rfl Tryz.func130 (by kernel_rfl) (by kernel_rfl) (takeText_sl A c l hc hm) (by rfl) (by rfl) ⟨ReadsIn.rd 1 (by rfl), trivial⟩) (by rfl) (by rfl) ?_
  rintro _ -
  refine Ls.qM 5 ?_
  refine Ls.qE 11 (Ev.extract rfl (by rfl) (by rfl)) ?_
  refine Ls.qE 12 (Ev.extract rfl (by rfl) (by rfl)) ?_
  refine Ls.qA 3 ?_
  refine Ls.qA 4 ?_
  refine Ls.nil ?_
  refine Cd.seq ?_
  refine Cd.seq ?_
  refine Cd.region ?_
  refine Ls.qM 13 ?_
  refine Ls.qE 14 (Ev.eql rfl (by rfl) (by rfl)) ?_
  refine Ls.nil ?_
  refine Cd.cond _ (by rfl) (fun h => ?_) (fun h => ?_)
  · skip
    have h1 : (takeT l).2 = 0 := by have := of_decide_eq_true h; omega
    have hn : txtC l = (⟨#[]⟩, 0, true) := by unfold txtC; rw [if_pos h1]
    rw [hn]
    refine Cd.seq ?_
    refine Cd.region ?_
    refine Ls.qM 15 ?_
    refine Ls.qE 16 (Ev.nilCheck rfl (by rfl)) ?_
    refine Ls.qF 17 1 ?_
    refine Ls.qD (Does.store 0 rfl (by rfl) (by rfl) (by rfl) (by kernel_rfl) (by rfl) (by kernel_rfl) (by rfl)) ?_
    intro _ _
    refine Ls.nil ?_
    refine Cd.seq ?_
    refine Cd.region ?_
    refine Ls.qA 2 ?_
    refine Ls.nil ?_
    refine Cd.ret ?_
    refine Ent.ret ((A, c)) (hc) (Res.tmp (by rfl) (by rfl)) ?_ [0, 1] (by rfl) ?_
    · rfl
    · rw [Bool.or_true]; rfl
  · skip
    have h1 : ¬ (takeT l).2 = 0 := by have := of_decide_eq_false h; omega
    have hn : txtC l = (txt (takeT l).1, (takeT l).2, false) := by unfold txtC; rw [if_neg h1]
    rw [hn]
    refine Cd.skip ?_
    refine Cd.seq ?_
    refine Cd.region ?_
    refine Ls.qM 18 ?_
    refine Ls.qM 19 ?_
    refine Ls.qE 20 (Ev.nilCheck rfl (by rfl)) ?_
    refine Ls.qF 21 0 ?_
    refine Ls.qL 22 0 ?_
    refine Ls.qM 23 ?_
    refine Ls.qE 24 (Ev.dropB rfl (by rfl) (by rfl) Tryz.underlying47 (by kernel_rfl) hle.1) ?_
    refine Ent.dropB 1 (takeT l).2 c (by rfl) ⟨hle.1, hc⟩ ?_
    refine Ls.qE 25 (Ev.nilCheck rfl (by rfl)) ?_
    refine Ls.qF 26 0 ?_
    refine Ls.qD (Does.store 1 rfl (by rfl) (by rfl) (by rfl) (by kernel_rfl) (by rfl) (by kernel_rfl) (by rfl)) ?_
    intro _ _
    refine Ls.nil ?_
    refine Cd.seq ?_
    refine Cd.region ?_
    refine Ls.qM 27 ?_
    refine Ls.qA 2 ?_
    refine Ls.nil ?_
    refine Cd.ret ?_
    refine Ent.ret ((cutA A c (takeT l).2 1, c - (takeT l).2)) ((by dsimp only; rw [List.length_drop]; omega)) (Res.tmp (by rfl) (by rfl)) ?_ [1, 0] (by rfl) ?_
    · rfl
    · rw [Bool.or_false]; rfl
end Go.Proofs.YtacbkganjkipdaaGreatDoor
/- payloads of edits, plain -/
namespace Go.Proofs.YtacbkganjkipdaaGreatDoor
def tabB (t : TbP) : List UInt8 := uintL t.num.toNat ++ uintL t.lev.toNat ++ textB t.fst ++ textB t.lst
def drpB (n : Int) : List UInt8 := uintL n.toNat
def edB (e : EdP) : List UInt8 := uintL e.add.length ++ e.add.flatMap tabB ++ uintL e.drop.length ++ e.drop.flatMap drpB ++ uintL e.nx.toNat ++ uintL e.lg.toNat ++ uintL e.sq.toNat
/-- Tables whose numbers are not below 0, whose keys are keys. -/
structure TabOk (t : TbP) : Prop where
  num : 0 ≤ t.num ∧ t.num ≤ 1000000
  lev : 0 ≤ t.lev ∧ t.lev ≤ 1000000
  fst : t.fst.length ≤ 64
  lst : t.lst.length ≤ 64
/-- Edits that have a payload, but for its length. -/
structure EncOk (e : EdP) : Prop where
  tab : ∀ t ∈ e.add, TabOk t
  drp : ∀ n ∈ e.drop, 0 ≤ n ∧ n ≤ 1000000
  nx : 0 ≤ e.nx ∧ e.nx ≤ 9223372036854775807
  lg : 0 ≤ e.lg ∧ e.lg ≤ 9223372036854775807
  sq : 0 ≤ e.sq ∧ e.sq ≤ 9223372036854775807
  add : e.add.length ≤ 10000000
  drl : e.drop.length ≤ 10000000
theorem flat_le {α : Type} {g : α → List UInt8} {b : Nat} : ∀ {l : List α}, (∀ x ∈ l, (g x).length ≤ b) → (l.flatMap g).length ≤ l.length * b
  | [], _ => Nat.zero_le _
  | x :: l, h => by
    have h1 := h x List.mem_cons_self
    have h2 := flat_le (l := l) fun y hy => h y (List.mem_cons_of_mem _ hy)
    rw [List.flatMap_cons, List.length_append, List.length_cons, Nat.succ_mul]
    omega
theorem textB_le {l : List UInt8} (h : l.length ≤ 64) : (textB l).length ≤ 74 := by
  have := uintL_len64 (n := l.length) (by omega)
  rw [textB_length]
  omega
theorem tabB_le {t : TbP} (h : TabOk t) : (tabB t).length ≤ 168 := by
  have h1 := uintL_len64 (n := t.num.toNat) (by have := h.num; omega)
  have h2 := uintL_len64 (n := t.lev.toNat) (by have := h.lev; omega)
  have h3 := textB_le h.fst
  have h4 := textB_le h.lst
  unfold tabB
  simp only [List.length_append]
  omega
theorem drpB_le {n : Int} (h : 0 ≤ n ∧ n ≤ 1000000) : (drpB n).length ≤ 10 := uintL_len64 (n := n.toNat) (by omega)
theorem RngOk.nx {v : VsP} (h : RngOk v) : 1 ≤ v.nx ∧ v.nx ≤ 1000000 := h.1
theorem RngOk.lg {v : VsP} (h : RngOk v) : 1 ≤ v.lg ∧ v.lg ≤ 999999 := h.2.1
theorem RngOk.sq {v : VsP} (h : RngOk v) : 0 ≤ v.sq ∧ v.sq ≤ 4611686018427387904 := h.2.2
theorem TbOk.tab {nx : Int} {t : TbP} (h : TbOk nx t) : TabOk t := ⟨by have k := h.lo; have k2 := h.hi; omega, by have := h.lev; omega, h.fst, h.lst⟩
theorem goodP.tab {v : VsP} (h : goodP v) : ∀ t ∈ v.tbs, TbOk v.nx t := fun t ht => by
  obtain ⟨i, hi⟩ := List.getElem?_of_mem ht
  exact (h.2 i t hi).ok
theorem good_fine {v : VsP} (h : goodP v) : Fine v.tbs := fun t ht => by
  have k := h.tab t ht
  have k1 := k.fst
  have k2 := k.lst
  have k3 := k.lo
  have k4 := k.hi
  exact ⟨by omega, by omega, by omega, by omega⟩
theorem pigG {α : Type} [DecidableEq α] : ∀ {l m : List α}, l.Nodup → (∀ x ∈ l, x ∈ m) → l.length ≤ m.length
  | [], _, _, _ => Nat.zero_le _
  | x :: l, m, hn, h => by
    obtain ⟨h1, h2⟩ := List.nodup_cons.1 hn
    have hx := h x List.mem_cons_self
    have := pigG (l := l) (m := m.erase x) h2 (fun y hy => (List.mem_erase_of_ne (fun e : y = x => h1 (by rw [← e]; exact hy))).2 (h y (List.mem_cons_of_mem _ hy)))
    rw [List.length_erase_of_mem hx] at this
    have : 0 < m.length := List.length_pos_of_mem hx
    rw [List.length_cons]
    omega
/-- A version's tables are few. -/
theorem good_few {v : VsP} (h : goodP v) : v.tbs.length ≤ 1000000 := by
  have h1 := good_nums h
  have h2 : (v.tbs.map TbP.num).length ≤ ((List.range 1000000).map fun k => ((k : Nat) : Int)).length := by
    refine pigG h1 fun n hn => ?_
    obtain ⟨t, ht, rfl⟩ := List.mem_map.1 hn
    have k := h.tab t ht
    have k1 := k.lo
    have k2 := k.hi
    exact List.mem_map.2 ⟨t.num.toNat, List.mem_range.2 (by omega), by omega⟩
  simpa using h2
/-- An edit that fits has a payload, but for its length. -/
theorem FitOk.enc {v : VsP} {e : EdP} (h : FitOk v e) (ha : e.add.length ≤ 10000000) (hn : e.nx ≤ 9223372036854775807 ∧ e.lg ≤ 9223372036854775807 ∧ e.sq ≤ 9223372036854775807) : EncOk e := by
  obtain ⟨hv, ⟨r1, r2, r3⟩, ⟨d1, d2⟩, ho⟩ := h
  have q1 := hv.1.nx
  have q2 := hv.1.lg
  have q3 := hv.1.sq
  have hdr : ∀ n ∈ e.drop, 0 ≤ n ∧ n ≤ 1000000 := fun n hn => by
    obtain ⟨t, ht, rfl⟩ := d2 n hn
    have k := hv.tab t ht
    have k1 := k.lo
    have k2 := k.hi
    exact ⟨by omega, by omega⟩
  refine ⟨fun t ht => ?_, hdr, by omega, by omega, by omega, ha, ?_⟩
  · refine (ho.tab t ?_).tab
    exact (sortT_perm _).mem_iff.2 (List.mem_append_right _ ht)
  · have h1 : e.drop.length ≤ (v.tbs.map TbP.num).length := pigG d1 fun n hn => by
      obtain ⟨t, ht, rfl⟩ := d2 n hn
      exact List.mem_map_of_mem ht
    rw [List.length_map] at h1
    have := good_few hv
    omega
theorem FitOk.out {v : VsP} {e : EdP} (h : FitOk v e) : goodP (outP v e) := h.2.2.2
/-- Numbers taken, one behind the other: the first four things of a table. -/
def tabR (l : List UInt8) : TbP × List UInt8 × Bool :=
  let a := numC l
  let l1 := l.drop a.2.1
  let b := numC l1
  let l2 := l1.drop b.2.1
  let c := txtC l2
  let l3 := l2.drop c.2.1
  let d := txtC l3
  (⟨a.1, b.1, c.1.data.toList, d.1.data.toList⟩, l3.drop d.2.1, a.2.2 || b.2.2 || c.2.2 || d.2.2)
def stE (L : List TbP) (D : List Int) (l : List UInt8) : Option EdP :=
  let a := numC l
  let l1 := l.drop a.2.1
  let b := numC l1
  let l2 := l1.drop b.2.1
  let c := numC l2
  if (a.2.2 || b.2.2 || c.2.2) = true ∨ l2.drop c.2.1 ≠ [] then none else some ⟨L, D, a.1, b.1, c.1⟩
def stC (L : List TbP) : Nat → List Int → List UInt8 → Option EdP
  | 0, D, l => stE L D l
  | j + 1, D, l => if (numC l).2.2 then none else stC L j (D ++ [((numC l).1 : Int)]) (l.drop (numC l).2.1)
def stB (L : List TbP) (l : List UInt8) : Option EdP := if (numC l).2.2 then none else stC L (numC l).1 [] (l.drop (numC l).2.1)
def stA : Nat → List TbP → List UInt8 → Option EdP
  | 0, L, l => stB L l
  | j + 1, L, l => if (tabR l).2.2 then none else stA j (L ++ [(tabR l).1]) (tabR l).2.1
/-- The edit whose payload this is. -/
def decP (l : List UInt8) : Option EdP := if 4096 < l.length ∨ (numC l).2.2 = true then none else stA (numC l).1 [] (l.drop (numC l).2.1)
theorem numC_drop (l : List UInt8) : (l.drop (numC l).2.1).length ≤ l.length ∧ ((numC l).2.2 = false → (l.drop (numC l).2.1).length + 1 ≤ l.length) := by
  have := numC_le l
  rw [List.length_drop]
  refine ⟨by omega, fun h => ?_⟩
  have := this.2.2 h
  omega
theorem txtC_drop (l : List UInt8) : (l.drop (txtC l).2.1).length ≤ l.length := by
  rw [List.length_drop]
  omega
theorem tabR_le (l : List UInt8) : (tabR l).2.1.length ≤ l.length ∧ ((tabR l).2.2 = false → (tabR l).2.1.length + 1 ≤ l.length) := by
  have h1 := numC_drop l
  have h2 := numC_drop (l.drop (numC l).2.1)
  have h3 := txtC_drop ((l.drop (numC l).2.1).drop (numC (l.drop (numC l).2.1)).2.1)
  have h4 := txtC_drop (((l.drop (numC l).2.1).drop (numC (l.drop (numC l).2.1)).2.1).drop (txtC ((l.drop (numC l).2.1).drop (numC (l.drop (numC l).2.1)).2.1)).2.1)
  unfold tabR
  dsimp only
  refine ⟨by omega, fun h => ?_⟩
  have h5 : (numC l).2.2 = false := by
    cases hb : (numC l).2.2 with
    | false => rfl
    | true => rw [hb] at h; simp at h
  have := h1.2 h5
  omega
/-- A table as read: numbers and texts that are small. -/
structure TabS (m : Nat) (t : TbP) : Prop where
  num : 0 ≤ t.num ∧ t.num ≤ 4611686018427387904
  lev : 0 ≤ t.lev ∧ t.lev ≤ 4611686018427387904
  fst : t.fst.length ≤ m
  lst : t.lst.length ≤ m
theorem tabR_s {m : Nat} (l : List UInt8) (h : l.length ≤ m) : TabS m (tabR l).1 := by
  have h1 := numC_le l
  have h2 := numC_le (l.drop (numC l).2.1)
  have h0 := numC_drop l
  have h00 := numC_drop (l.drop (numC l).2.1)
  have h3 := txtC_le ((l.drop (numC l).2.1).drop (numC (l.drop (numC l).2.1)).2.1)
  have h30 := txtC_drop ((l.drop (numC l).2.1).drop (numC (l.drop (numC l).2.1)).2.1)
  have h4 := txtC_le (((l.drop (numC l).2.1).drop (numC (l.drop (numC l).2.1)).2.1).drop (txtC ((l.drop (numC l).2.1).drop (numC (l.drop (numC l).2.1)).2.1)).2.1)
  refine ⟨?_, ?_, ?_, ?_⟩ <;> unfold tabR <;> dsimp only
  · omega
  · omega
  · have : ∀ x : ByteArray, x.data.toList.length = x.size := fun x => rfl
    rw [this]
    omega
  · have : ∀ x : ByteArray, x.data.toList.length = x.size := fun x => rfl
    rw [this]
    omega
/-- An edit as read. -/
structure EdS (m : Nat) (e : EdP) : Prop where
  tab : ∀ t ∈ e.add, TabS m t
  add : e.add.length ≤ m
  drp : ∀ n ∈ e.drop, 0 ≤ n ∧ n ≤ 4611686018427387904
  drl : e.drop.length ≤ m
  nx : 0 ≤ e.nx ∧ e.nx ≤ 4611686018427387904
  lg : 0 ≤ e.lg ∧ e.lg ≤ 4611686018427387904
  sq : 0 ≤ e.sq ∧ e.sq ≤ 4611686018427387904
theorem stE_s {m : Nat} {L : List TbP} {D : List Int} {l : List UInt8} {e : EdP} (hL : ∀ t ∈ L, TabS m t) (hl : L.length ≤ m) (hD : ∀ n ∈ D, 0 ≤ n ∧ n ≤ 4611686018427387904) (hd : D.length ≤ m) (h : stE L D l = some e) : EdS m e := by
  have h1 := numC_le l
  have h2 := numC_le (l.drop (numC l).2.1)
  have h3 := numC_le ((l.drop (numC l).2.1).drop (numC (l.drop (numC l).2.1)).2.1)
  unfold stE at h
  dsimp only at h
  split at h
  · cases h
  · obtain rfl := Option.some.inj h
    exact ⟨hL, hl, hD, hd, by dsimp only; omega, by dsimp only; omega, by dsimp only; omega⟩
theorem stC_s {m : Nat} {L : List TbP} {e : EdP} (hL : ∀ t ∈ L, TabS m t) (hl : L.length ≤ m) : ∀ {j : Nat} {D : List Int} {l : List UInt8}, (∀ n ∈ D, 0 ≤ n ∧ n ≤ 4611686018427387904) → D.length + l.length ≤ m → stC L j D l = some e → EdS m e
  | 0, D, l, hD, hd, h => stE_s hL hl hD (by omega) h
  | j + 1, D, l, hD, hd, h => by
    rw [stC] at h
    split at h
    · cases h
    · rename_i hb
      have h1 := (numC_drop l).2 (by simpa using hb)
      have h2 := numC_le l
      exact stC_s hL hl (fun n hn => (List.mem_append.1 hn).elim (hD n) fun hn => by rw [List.mem_singleton.1 hn]; omega) (by rw [List.length_append, List.length_singleton]; omega) h
theorem stA_s {m : Nat} {e : EdP} : ∀ {j : Nat} {L : List TbP} {l : List UInt8}, (∀ t ∈ L, TabS m t) → L.length + l.length ≤ m → stA j L l = some e → EdS m e
  | 0, L, l, hL, hl, h => by
    rw [stA, stB] at h
    split at h
    · cases h
    · have h1 := (numC_drop l).1
      exact stC_s hL (by omega) (fun n hn => absurd hn List.not_mem_nil) (by rw [List.length_nil]; omega) h
  | j + 1, L, l, hL, hl, h => by
    rw [stA] at h
    split at h
    · cases h
    · rename_i hb
      have h1 := (tabR_le l).2 (by simpa using hb)
      exact stA_s (fun t ht => (List.mem_append.1 ht).elim (hL t) fun ht => by rw [List.mem_singleton.1 ht]; exact tabR_s l (by omega)) (by rw [List.length_append, List.length_singleton]; omega) h
theorem decP_s {l : List UInt8} {e : EdP} (h : decP l = some e) : EdS 4096 e := by
  unfold decP at h
  split at h
  · cases h
  · rename_i hb
    have h1 := (numC_drop l).1
    exact stA_s (fun t ht => absurd ht List.not_mem_nil) (by rw [List.length_nil]; omega) h
end Go.Proofs.YtacbkganjkipdaaGreatDoor
/- the manifest, plain -/
namespace Go.Proofs.YtacbkganjkipdaaGreatDoor
def firstV : VsP := ⟨[], 1, 1, 0⟩
theorem firstV_good : goodP firstV := ⟨⟨by decide, by decide, by decide, by decide⟩, fun i t h => by cases h⟩
/-- Payloads, one behind the other. -/
noncomputable def repP : VsP → List (List UInt8) → VsP
  | v, [] => v
  | v, p :: r => match decP p with
    | none => v
    | some e => if FitOk v e then repP (outP v e) r else v
/-- The name of the current log; empty: there is none. -/
def nowP (P : DrP) : List UInt8 := if numK kMan (P.bytes qCur) = 0 ∨ P.find (P.bytes qCur) = none then [] else P.bytes qCur
structure MfP where
  v : VsP
  num : Nat
  made : Bool
  dead : Bool
  deriving Inhabited
/-- The number behind all that names have. -/
def topN (l : List (List UInt8)) (s : Nat) : Nat := l.foldl (fun m q => max m (numK kMan q + 1)) s
theorem topN_le : ∀ {l : List (List UInt8)} {s : Nat}, s ≤ 1000000 → topN l s ≤ 1000000 ∧ s ≤ topN l s
  | [], _, h => ⟨h, Nat.le_refl _⟩
  | q :: l, s, h => by
    have h1 := numK_le kMan q
    have ih := topN_le (l := l) (s := max s (numK kMan q + 1)) (by omega)
    refine ⟨ih.1, Nat.le_trans ?_ ih.2⟩
    omega
noncomputable def openP (P : DrP) : MfP := ⟨repP firstV (scanF (P.bytes (nowP P))).1, topN (P.fs.map FiP.nm) 1, false, false⟩
/-- Steps, up to the first that is refused. -/
def runP : List (DrP → DrP × Int) → DrP → DrP × Int
  | [], P => (P, 0)
  | f :: r, P => if (f P).2 ≠ 0 then f P else runP r (f P).1
/-- The bytes of a version. -/
def snapE (v : VsP) : List EdP := ⟨[], [], v.nx, v.lg, v.sq⟩ :: v.tbs.map fun t => ⟨[t], [], 0, 0, 0⟩
def snapB (v : VsP) : List UInt8 := (snapE v).flatMap fun e => sealL (edB e)
def manN (l : List (List UInt8)) : List (List UInt8) := l.filter fun q => decide (numK kMan q ≠ 0)
/-- A log with these bytes becomes the current one. -/
def swapL (P : DrP) (log b : List UInt8) : List (DrP → DrP × Int) :=
  (if P.find qTmp = none then [] else [fun P => P.delete qTmp]) ++ [fun P => P.append log b, fun P => P.sync log, fun P => P.append qTmp log, fun P => P.sync qTmp, fun P => P.rename qTmp qCur] ++ (manN (P.fs.map FiP.nm)).map fun q P => P.delete q
noncomputable def chgP (P : DrP) (m : MfP) (e : EdP) : DrP × MfP × Int :=
  if ¬ FitOk m.v e then (P, m, 80)
  else if 4096 < (edB e).length then (P, m, 3)
  else if 999999 < m.num then (P, m, 5)
  else if m.dead then (P, m, 6)
  else
    let r := if m.made then runP [fun P => P.append (nameK kMan m.num) (sealL (edB e)), fun P => P.sync (nameK kMan m.num)] P else runP (swapL P (nameK kMan m.num) (snapB (outP m.v e))) P
    if r.2 ≠ 0 then (r.1, { m with dead := true }, 6) else (r.1, { m with made := true, v := outP m.v e }, 0)
theorem DrP.Ok.rename {P : DrP} (h : P.Ok) (q p : List UInt8) : (DrP.rename P q p).1.Ok := by
  unfold DrP.rename
  split
  · exact h
  · rename_i hp
    have hp : Good p := Decidable.not_not.1 hp
    cases hf : P.find q with
    | none => exact h
    | some f =>
      dsimp only
      split
      · exact h
      · have hm := (findG_some hf).1
        have hw := h.step.without q
        refine hw.put hp (h.size f hm) (h.sync f hm) (.inr ?_)
        show (delG FiP.nm q P.fs).length < 256
        have h1 : (delG FiP.nm q P.fs).length < P.fs.length := by
          unfold delG
          refine List.length_filter_lt_length_iff_exists.2 ⟨f, hm, ?_⟩
          simp [(findG_some hf).2]
        have := h.len
        omega
end Go.Proofs.YtacbkganjkipdaaGreatDoor
/- slices of slices of bytes, over pieces -/
namespace Go.Proofs.YtacbkganjkipdaaGreatDoor
open Go.RowKit
/-- A slice of bytes as it lies. -/
structure ByS where
  A : Option Addr
  c : Nat
  l : List UInt8
  deriving Inhabited
abbrev ByS.v (s : ByS) : Value := .slice s.A s.l.length s.c
abbrev ByS.R (s : ByS) : Chunk := row s.A s.l.length s.c 5 1 (u8s s.l)
abbrev ByS.r (s : ByS) : Chunk := rd s.A s.l.length 1 (u8s s.l)
abbrev payW (A : Option Addr) (c : Nat) (S : List ByS) : Chunk := row A S.length c 47 1 (S.map ByS.v)
abbrev payX (S : List ByS) : Chunk := starx (S.map ByS.R)
abbrev rdV (A : Option Addr) (S : List ByS) : Chunk := rd A S.length 1 (S.map ByS.v)
abbrev payR (S : List ByS) : Chunk := stars (S.map ByS.r)
theorem Ev.loadV {Γ : Ctx} {N : Frm} {P : Program} {E : Env} {H : List Chunk} {o : Oper} {x : Operand} {t n k : Nat} {ad : Addr} {S : List ByS} {s : ByS} (ho : o.op = .load t x) (hx : E.ev x = some (.pointer (some (ad.add (k * 1))))) (hi : ReadsIn Γ H 1 (some ad) n (S.map ByS.v)) (ht : one P t = true) (hu : S[k]? = some s) : Ev Γ N P E H o s.v :=
  .loadOf ho hx fun w hs => by
    have hh : Reads w w.heap.size 1 (some ad) n (S.map ByS.v) := hi w hs
    have hk : k < S.length := (List.getElem?_eq_some_iff.1 hu).1
    have := hh.1
    exact run_loadVar_one ht (rd_cell hh (by simp at this; omega) (show (S.map ByS.v)[k * 1]? = some s.v by rw [Nat.mul_one, List.getElem?_map, hu]; rfl))
theorem payGet {Γ : Ctx} {H : List Chunk} {w : World} {S : List ByS} {s : ByS} (i : Nat) (hi : H[i]? = some (payR S)) (hs : s ∈ S) (h : Sat Γ H w) : Sat Γ (s.r :: H) w := Sat.stars_get hi (List.mem_map_of_mem hs) h
theorem paySee {Γ : Ctx} {H : List Chunk} {w : World} {S : List ByS} (i : Nat) (hi : H[i]? = some (payX S)) (h : Sat Γ H w) : Sat Γ (H.set i (payR S)) w := h.see hi rfl (fun w hw C hC => by
    obtain ⟨s, hsm, rfl⟩ := List.mem_map.1 hC
    exact ⟨rfl, row_rd.1 w (hw.1 s.R (List.mem_map_of_mem hsm))⟩) (fun k ⟨C, hC, hk⟩ => by
    obtain ⟨s, hsm, rfl⟩ := List.mem_map.1 hC
    exact ⟨s.R, List.mem_map_of_mem hsm, hk.2⟩)
end Go.Proofs.YtacbkganjkipdaaGreatDoor
/- frames over pieces: Seal, Scan, both sides -/
namespace Go.Proofs.YtacbkganjkipdaaGreatDoor
open Go.RowKit
abbrev ptrV (g : Nat) : Value := .pointer (some ⟨g, 0, none⟩)
theorem seal_sl (A : Option Addr) (c : Nat) (l : List UInt8) (hn : l.length ≤ 4096) : Fn Tryz.prog 50 #[.slice A l.length c] [rdB A l] (Option Addr × Nat) (fun p => .tuple #[.slice p.1 (sealL l).length p.2, .int .i64 0]) (fun p => [rowB p.1 p.2 (sealL l)]) (fun _ => True) :=
  Fn.of_own (res := fun p => .tuple #[.slice p.1 (sealL l).length p.2, .int .i64 0]) fun w hs => seal_any A l.length c l w (sat_rd 0 rfl hs) hn
theorem sealL_len (l : List UInt8) (h : l.length ≤ 4096) : (sealL l).length ≤ 4110 := by
  have := uintL_len64 (n := l.length) (by omega)
  rw [sealL_length]
  omega
theorem rows_of {w : World} {base : Nat} : ∀ {vs : List Value} {ls : List (List UInt8)}, OwnRows w base vs ls → ∃ S : List ByS, S.map ByS.l = ls ∧ S.map ByS.v = vs ∧ (∀ s ∈ S, Own w base 5 1 s.A s.l.length s.c (u8s s.l))
  | [], [], _ => ⟨[], rfl, rfl, fun _ h => absurd h List.not_mem_nil⟩
  | [], _ :: _, h => absurd h.len (by simp)
  | _ :: _, [], h => absurd h.len (by simp)
  | v :: vs, l :: ls, h => by
    obtain ⟨A, c, rfl, ho⟩ := h.row 0 v l rfl rfl
    obtain ⟨S, h1, h2, h3⟩ := rows_of (vs := vs) (ls := ls) ⟨by simpa using h.len, fun i v' l' hv hl => h.row (i + 1) v' l' (by simpa using hv) (by simpa using hl), fun i j v1 v2 g g' hij hv hv' => h.apart (i + 1) (j + 1) v1 v2 g g' (by omega) (by simpa using hv) (by simpa using hv')⟩
    exact ⟨⟨A, c, l⟩ :: S, by rw [List.map_cons, h1], by rw [List.map_cons, h2], fun s hs => (List.mem_cons.1 hs).elim (fun e => e ▸ ho) (h3 s)⟩
theorem sat_rows {w w' : World} {H : List Chunk} {A : Option Addr} {c : Nat} {vs : List Value} {ls : List (List UInt8)} (hb : Below w.heap.size w w') (ho : Own w' w.heap.size 47 1 A ls.length c vs) (hr : OwnRows w' w.heap.size vs ls) :
    ∃ S : List ByS, S.map ByS.l = ls ∧ Sat ⟨w, H⟩ [payW A c S, payX S] w' := by
  obtain ⟨S, rfl, rfl, h3⟩ := rows_of hr
  rw [List.length_map] at ho
  have hap : (S.map ByS.R).Pairwise apart := by
    rw [List.pairwise_iff_getElem]
    intro i j hi hj hij _ k hk hk'
    rw [List.length_map] at hi hj
    rw [List.getElem_map] at hk hk'
    have := hr.apart i j _ _ k k hij (show (S.map ByS.v)[i]? = some S[i].v by rw [List.getElem?_map, List.getElem?_eq_getElem hi]; rfl) (show (S.map ByS.v)[j]? = some S[j].v by rw [List.getElem?_map, List.getElem?_eq_getElem hj]; rfl) hk hk'
    exact absurd this (Nat.lt_irrefl _)
  refine ⟨S, rfl, Upd.of_below hb, ⟨fun D hD => ?_, List.pairwise_pair.2 fun _ k hk hk' => ?_⟩, fun D hD => ?_⟩
  · rcases List.mem_cons.1 hD with rfl | hD
    · exact ho.mono (Nat.zero_le _)
    · obtain rfl := List.mem_singleton.1 hD
      refine ⟨fun C hC => ?_, hap⟩
      obtain ⟨s, hs, rfl⟩ := List.mem_map.1 hC
      exact (h3 s hs).mono (Nat.zero_le _)
  · obtain ⟨C, hC, hk'⟩ := hk'
    obtain ⟨s, hs, rfl⟩ := List.mem_map.1 hC
    exact hr.off ho (by decide) (List.mem_map_of_mem hs) k hk' hk
  · rcases List.mem_cons.1 hD with rfl | hD
    · intro k hk hlt
      have := (ho.ge k hk).1
      dsimp only at hlt
      omega
    · obtain rfl := List.mem_singleton.1 hD
      rintro k ⟨C, hC, hk⟩ hlt
      obtain ⟨s, hs, rfl⟩ := List.mem_map.1 hC
      have := ((h3 s hs).ge k hk).1
      dsimp only at hlt
      omega
theorem scan_sl (A : Option Addr) (c : Nat) (l : List UInt8) (hl : l.length ≤ 1048576) (hc : l.length ≤ c ∧ c ≤ maxLen) : Fn Tryz.prog 46 #[.slice A l.length c] [rdB A l] ((Option Addr × Nat) × List ByS) (fun p => .tuple #[.slice p.1.1 p.2.length p.1.2, .int .i64 (scanF l).2]) (fun p => [payW p.1.1 p.1.2 p.2, payX p.2]) (fun p => p.2.map ByS.l = (scanF l).1) := fun w hs => by
  refine (scan_any A l.length c l w (sat_rd 0 rfl hs) hc.1 hc.2 (by omega)).mono ?_
  rintro e w' ⟨D, d, vs, rfl, ho, hr, hb⟩
  obtain ⟨S, h1, h2⟩ := sat_rows (H := [rdB A l]) hb ho hr
  refine ⟨((D, d), S), h1, ?_, h2⟩
  dsimp only
  rw [← h1, List.length_map]
section
variable {Γ : Ctx} {H : List Chunk} {w : World}
end
end Go.Proofs.YtacbkganjkipdaaGreatDoor
/- slices.Contains; the name of the current log -/
namespace Go.Proofs.YtacbkganjkipdaaGreatDoor
open Go.RowKit
theorem sindex_sl (A : Option Addr) (c : Nat) (ns : List (List UInt8)) (q : List UInt8) (hn : ns.length ≤ 1000000) : Fn Tryz.prog 128 #[.slice A ns.length c, .string (txt q)] [rd A ns.length 1 (txts ns)] Int (fun r => .int .i64 r) (fun _ => []) (fun r => 0 ≤ r ↔ q ∈ ns) := by
  refine Fn.enter Tryz.func128 rfl Tryz.ntmps128 (by rfl) ?_
  intro w0
  skip
  refine Cd.seq ?_
  refine Cd.region ?_
  refine Ls.qA 4 ?_
  refine Ls.nil ?_
  refine Cd.seq ?_
  refine Cd.seq ?_
  refine Cd.region ?_
  refine Ls.qM 6 ?_
  refine Ls.qE 7 (Ev.len rfl (by rfl) Tryz.underlying49) ?_
  refine Ls.qM 8 ?_
  refine Ls.nil ?_
  refine Cd.block ?_
  refine Cd.loop (ι := Nat) (fun k => [(0, .slice A ns.length c), (1, .string (txt q)), (7, .int .i64 ns.length), (8, .int .i64 k)]) (fun _ => [rd A ns.length 1 (txts ns)]) (fun k => k ≤ ns.length ∧ q ∉ ns.take k) (fun k => ns.length - k) (0) (⟨Nat.zero_le _, by simp⟩) ?_ rfl ?_
  · (repeat (first | exact trivial | refine ⟨by rfl, ?_⟩))
  rintro k ⟨hk, hall⟩
  refine Cd.seq ?_
  refine Cd.region ?_
  refine Ls.qE 9 (Ev.lss rfl (by rfl) (by rfl)) ?_
  refine Ls.nil ?_
  refine Cd.seq ?_
  refine Cd.cond _ (by rfl) (fun h2 => ?_) (fun h2 => ?_)
  · skip
    have hlt : k < ns.length := by have := of_decide_eq_true h2; omega
    obtain ⟨x, hx⟩ := get_of_lt hlt
    have hqt : (ns.map txt)[k]? = some (txt x) := by rw [List.getElem?_map, hx]; rfl
    refine Ent.rdSome 0 (by rfl) (by omega) (fun ad had => ?_)
    subst had
    refine Cd.skip ?_
    refine Cd.seq ?_
    refine Cd.block ?_
    refine Cd.seq ?_
    refine Cd.region ?_
    refine Ls.qM 10 ?_
    refine Ls.qA 5 ?_
    refine Ls.nil ?_
    refine Cd.seq ?_
    refine Cd.region ?_
    refine Ls.qM 11 ?_
    refine Ls.qM 12 ?_
    refine Ls.qM 13 ?_
    refine Ls.qE 14 (Ev.indexAt (sz := 1) rfl (by rfl) (by rfl) Tryz.underlying49 (by kernel_rfl) (by omega)) ?_
    refine Ls.qE 15 (Ev.loadStr rfl (by rfl) (ReadsIn.rd 0 (by rfl)) (by kernel_rfl) (by assumption)) ?_
    refine Ls.qE 16 (Ev.eqlS rfl (by rfl) (by rfl)) ?_
    refine Ls.nil ?_
    by_cases hq : q = x
    · skip
      refine Cd.cond_true (by rfl) (decide_eq_true (txt_eq_iff.2 hq)) ?_
      refine Cd.seq ?_
      refine Cd.region ?_
      refine Ls.qM 17 ?_
      refine Ls.qA 4 ?_
      refine Ls.nil ?_
      refine Cd.ret ?_
      refine Ent.ret ((k : Int)) (⟨fun _ => hq ▸ List.mem_of_getElem? hx, fun _ => by omega⟩) (Res.tmp (by rfl) (by rfl)) ?_ [] (by rfl) ?_
      · rfl
      · rfl
    · skip
      refine Cd.cond_false (by rfl) (decide_eq_false (fun e => hq (txt_eq_iff.1 e))) ?_
      refine Cd.skip ?_
      refine Cd.region ?_
      refine Ls.qE 18 (Ev.addN (b := 1) rfl (by rfl) (by rfl) (by omega)) ?_
      refine Ls.qM 8 ?_
      refine Ls.nil ?_
      refine Ent.inv (k + 1) ?_ ?_ ?_
      · (try dsimp only); exact ⟨⟨hlt, fun h => by
        rw [List.take_add_one, hx] at h
        rcases List.mem_append.1 h with h | h
        · exact hall h
        · exact hq (by simpa using h)⟩, by omega⟩
      · (repeat (first | exact trivial | refine ⟨by rfl, ?_⟩ | refine ⟨by simp only [List.length_append, List.length_cons, List.length_nil]; rfl, ?_⟩ | refine ⟨by push_cast; rfl, ?_⟩))
      · rfl
  · skip
    have hge : ns.length ≤ k := by have := of_decide_eq_false h2; omega
    rw [List.take_of_length_le hge] at hall
    refine Cd.exit ?_
    refine Cd.seq ?_
    refine Cd.region ?_
    refine Ls.qE 4 (Ev.assign (show Oper.op _ = Op.assign (Operand.const (Value.int IntKind.i64 (-1))) from rfl) (by rfl)) ?_
    refine Ls.nil ?_
    refine Cd.ret ?_
    refine Ent.ret ((-1 : Int)) (⟨fun h => absurd h (by decide), fun h => absurd h hall⟩) (Res.tmp (by rfl) (by rfl)) ?_ [] (by rfl) ?_
    · rfl
    · rfl
theorem contains_sl (A : Option Addr) (c : Nat) (ns : List (List UInt8)) (q : List UInt8) (hn : ns.length ≤ 1000000) : Fn Tryz.prog 87 #[.slice A ns.length c, .string (txt q)] [rd A ns.length 1 (txts ns)] Unit (fun _ => .bool (decide (q ∈ ns))) (fun _ => []) (fun _ => True) := by
  refine Fn.enter Tryz.func87 rfl Tryz.ntmps87 (by rfl) ?_
  intro w0
  refine Cd.seq ?_
  refine Cd.region ?_
  refine Ls.qA 4 ?_
  refine Ls.nil ?_
  refine Cd.seq ?_
  refine Cd.region ?_
  refine Ls.qM 5 ?_
  refine Ls.qM 6 ?_
  refine Ls.does (some 7) (Does.read rfl Tryz.func128 (by kernel_rfl) (by kernel_rfl) (sindex_sl A c ns q hn) (by rfl) (by rfl) ⟨ReadsIn.rd 0 (by rfl), trivial⟩) (by rfl) (by rfl) ?_
  rintro r hr
  refine Ls.qE 8 (Ev.geq rfl (by rfl) (by rfl)) ?_
  refine Ls.qA 4 ?_
  refine Ls.nil ?_
  refine Cd.ret ?_
  refine Ent.ret (()) (trivial) (Res.tmp (by rfl) (by rfl)) ?_ [] (by rfl) ?_
  · exact congrArg Value.bool (decide_eq_decide.2 hr)
  · rfl
theorem numK_nil : numK kMan [] = 0 := by simp [numK, numG]
theorem find_mem {P : DrP} (hok : P.Ok) (q : List UInt8) : q ∈ P.fs.map FiP.nm ↔ P.find q ≠ none := by
  constructor
  · intro h e
    obtain ⟨f, hf, rfl⟩ := List.mem_map.1 h
    exact findG_none e f hf rfl
  · intro h
    cases hf : P.find q with
    | none => exact absurd hf h
    | some f =>
      obtain ⟨h1, h2⟩ := findG_some hf
      exact List.mem_map.2 ⟨f, h1, h2⟩
abbrev mfV (d : Nat) (A : Option Addr) (c : Nat) (m : MfP) : List Value := [ptrV d, .slice A m.v.tbs.length c, .int .i64 m.v.nx, .int .i64 m.v.lg, .int .i64 m.v.sq, .int .i64 m.num, .bool m.made, .bool m.dead]
abbrev mfB (g d : Nat) (A : Option Addr) (c : Nat) (m : MfP) : Chunk := blk g 90 (mfV d A c m)
abbrev rmfB (g d : Nat) (A : Option Addr) (c : Nat) (m : MfP) : Chunk := rblk g 90 (mfV d A c m)
theorem now_sl {D : DrS} {P : DrP} (h : Drv D P) (g : Nat) (A : Option Addr) (c : Nat) (m : MfP) : Fn Tryz.prog 45 #[ptrV g] [rmfB g D.d A c m, D.rB, D.rM, D.rF, laidC] Unit (fun _ => .string (txt (nowP P))) (fun _ => []) (fun _ => True) := by
  have hpl := h.ok.len
  cases hf : P.find qCur with
  | none =>
    have hm := read_miss h qCur hf
    rw [if_pos qCur_good] at hm
    have hb : P.bytes qCur = [] := by unfold DrP.bytes; rw [hf]
    have hr : nowP P = [] := by unfold nowP; rw [hb, numK_nil, if_pos (.inl rfl)]
    rw [hr]
    refine Fn.enter Tryz.func45 rfl Tryz.ntmps45 (by rfl) ?_
    intro w0
    skip
    refine Cd.seq ?_
    refine Cd.region ?_
    refine Ls.qA 2 ?_
    refine Ls.nil ?_
    refine Cd.seq ?_
    refine Cd.region ?_
    refine Ls.qM 6 ?_
    refine Ls.qE 7 (Ev.nilCheck rfl (by rfl)) ?_
    refine Ls.qF 8 0 ?_
    refine Ls.qE 9 (Ev.loadB 0 rfl (by rfl) (by rfl) (by kernel_rfl) (by rfl)) ?_
    refine Ls.does (some 10) (Does.read rfl Tryz.func44 (by kernel_rfl) (by kernel_rfl) (hm) (by rfl) (by rfl) ⟨rblkIn 1 (by rfl), rmapIn_ 2 (by rfl), trivial⟩) (by rfl) (by rfl) ?_
    rintro _ -
    refine Ls.qM 5 ?_
    refine Ls.qE 11 (Ev.extract rfl (by rfl) (by rfl)) ?_
    refine Ls.qE 12 (Ev.extract rfl (by rfl) (by rfl)) ?_
    refine Ls.qA 3 ?_
    refine Ls.qA 4 ?_
    refine Ls.nil ?_
    refine Cd.seq ?_
    refine Cd.seq ?_
    refine Cd.draw [] (by kernel_rfl) ?_
    refine Rg.qE 0 13 (by rfl) (Ev.move rfl (by rfl)) ?_
    refine Rg.qE 1 14 (by rfl) (Ev.textOf (l := []) rfl (by rfl) ReadsIn.nil_ Tryz.underlying47 Tryz.underlying5 Tryz.underlying9) ?_
    refine Rg.does 2 (by rfl) (by kernel_rfl) (Does.read rfl Tryz.func43 (by kernel_rfl) (by kernel_rfl) (nrk_sl kMan [] (by decide) (by decide)) (by rfl) (by rfl) ⟨laidIn 4 (by rfl), trivial⟩) (by rfl) (some 15) (by rfl) (by exact fun _ _ h => h) ?_
    rintro _ -
    rw [numK_nil]
    refine Rg.qE 3 16 (by rfl) (Ev.eql rfl (by rfl) (by rfl)) ?_
    refine Rg.qE 4 17 (by rfl) (Ev.move rfl (by rfl)) ?_
    refine Ent.known 17 true (by rfl) (by exact (decide_eq_true rfl)) ?_
    refine Rg.qP 5 18 ?_
    refine Rg.qP 6 19 ?_
    refine Rg.qP 7 20 ?_
    refine Rg.qP 8 21 ?_
    refine Rg.qP 10 23 ?_
    refine Rg.qP 11 24 ?_
    refine Rg.qP 9 22 ?_
    refine Rg.qP 12 25 ?_
    refine Rg.qP 13 26 ?_
    refine Rg.qE 14 27 (by rfl) (Ev.pickT rfl (by rfl) (by rfl)) ?_
    refine Rg.done (by kernel_rfl) ?_ _
    refine Cd.cond_true (by rfl) (rfl) ?_
    refine Cd.seq ?_
    refine Cd.region ?_
    refine Ls.qA 2 ?_
    refine Ls.nil ?_
    refine Cd.ret ?_
    refine Ent.ret (()) (trivial) (Res.tmp (by rfl) (by rfl)) ?_ [] (by rfl) ?_
    · rfl
    · rfl
  | some f =>
    have hb : P.bytes qCur = f.b := by unfold DrP.bytes; rw [hf]
    have hfs := h.ok.size f (findG_some hf).1
    have hmem := find_mem h.ok f.b
    have hnm := names_sl h
    obtain ⟨ns, hns⟩ : ∃ ns, ns = P.fs.map FiP.nm := ⟨_, rfl⟩
    have hnl : P.fs.length = ns.length := by rw [hns, List.length_map]
    rw [hnl, ← hns] at hnm
    rw [← hns] at hmem
    refine Fn.enter Tryz.func45 rfl Tryz.ntmps45 (by rfl) ?_
    intro w0
    skip
    refine Cd.seq ?_
    refine Cd.region ?_
    refine Ls.qA 2 ?_
    refine Ls.nil ?_
    refine Cd.seq ?_
    refine Cd.region ?_
    refine Ls.qM 6 ?_
    refine Ls.qE 7 (Ev.nilCheck rfl (by rfl)) ?_
    refine Ls.qF 8 0 ?_
    refine Ls.qE 9 (Ev.loadB 0 rfl (by rfl) (by rfl) (by kernel_rfl) (by rfl)) ?_
    refine Ls.does (some 10) (Does.readN rfl Tryz.func44 (by kernel_rfl) (by kernel_rfl) (read_sl h qCur qCur_good hf) (by rfl) (by rfl) ⟨rblkIn 1 (by rfl), rmapIn_ 2 (by rfl), filRin 3 (by rfl), trivial⟩ (fun _ => by rfl)) (by rfl) (by rfl) ?_
    rintro ⟨bA, bc⟩ -
    refine Ls.qM 5 ?_
    refine Ls.qE 11 (Ev.extract rfl (by rfl) (by rfl)) ?_
    refine Ls.qE 12 (Ev.extract rfl (by rfl) (by rfl)) ?_
    refine Ls.qA 3 ?_
    refine Ls.qA 4 ?_
    refine Ls.nil ?_
    refine Cd.seq ?_
    refine Cd.seq ?_
    refine Cd.draw [] (by kernel_rfl) ?_
    refine Rg.qE 0 13 (by rfl) (Ev.move rfl (by rfl)) ?_
    refine Rg.qE 1 14 (by rfl) (Ev.textOf (l := f.b) rfl (by rfl) (ReadsIn.row 0 (by rfl)) Tryz.underlying47 Tryz.underlying5 Tryz.underlying9) ?_
    refine Rg.does 2 (by rfl) (by kernel_rfl) (Does.read rfl Tryz.func43 (by kernel_rfl) (by kernel_rfl) (nrk_sl kMan f.b (by decide) (by omega)) (by rfl) (by rfl) ⟨laidIn 5 (by rfl), trivial⟩) (by rfl) (some 15) (by rfl) (by exact fun _ _ h => h) ?_
    rintro _ -
    refine Rg.qE 3 16 (by rfl) (Ev.eql rfl (by rfl) (by rfl)) ?_
    refine Rg.qE 4 17 (by rfl) (Ev.move rfl (by rfl)) ?_
    by_cases h0 : numK kMan f.b = 0
    · have hr : nowP P = [] := by unfold nowP; rw [hb, if_pos (.inl h0)]
      rw [hr]
      skip
      refine Ent.known 17 true (by rfl) (by exact (decide_eq_true (by omega))) ?_
      refine Rg.qP 5 18 ?_
      refine Rg.qP 6 19 ?_
      refine Rg.qP 7 20 ?_
      refine Rg.qP 8 21 ?_
      refine Rg.qP 10 23 ?_
      refine Rg.qP 11 24 ?_
      refine Rg.qP 9 22 ?_
      refine Rg.qP 12 25 ?_
      refine Rg.qP 13 26 ?_
      refine Rg.qE 14 27 (by rfl) (Ev.pickT rfl (by rfl) (by rfl)) ?_
      refine Rg.done (by kernel_rfl) ?_ _
      refine Cd.cond_true (by rfl) (rfl) ?_
      refine Cd.seq ?_
      refine Cd.region ?_
      refine Ls.qA 2 ?_
      refine Ls.nil ?_
      refine Cd.ret ?_
      refine Ent.ret (()) (trivial) (Res.tmp (by rfl) (by rfl)) ?_ [] (by rfl) ?_
      · rfl
      · rfl
    · skip
      refine Ent.known 17 false (by rfl) (by exact (decide_eq_false (by omega))) ?_
      refine Rg.qE 5 18 (by rfl) (Ev.move rfl (by rfl)) ?_
      refine Rg.qE 6 19 (by rfl) (Ev.nilCheck rfl (by rfl)) ?_
      refine Rg.qE 7 20 (by rfl) (Ev.fieldAddr (k := 0) rfl (by rfl) (by kernel_rfl) (by rfl)) ?_
      refine Rg.qE 8 21 (by rfl) (Ev.loadB 1 rfl (by rfl) (by rfl) (by kernel_rfl) (by rfl)) ?_
      refine Rg.qE 10 23 (by rfl) (Ev.move rfl (by rfl)) ?_
      refine Rg.qE 11 24 (by rfl) (Ev.textOf rfl (by rfl) (ReadsIn.row 0 (by rfl)) Tryz.underlying47 Tryz.underlying5 Tryz.underlying9) ?_
      skip
      refine Rg.does 9 (by rfl) (by kernel_rfl) (Does.readN rfl Tryz.func42 (by kernel_rfl) (by kernel_rfl) (hnm) (by rfl) (by rfl) ⟨rblkIn 2 (by rfl), rmapIn_ 3 (by rfl), trivial⟩ (fun _ => by rfl)) (by rfl) (some 22) (by rfl) (fun _ _ h => h.tail_) ?_
      rintro ⟨nA, nc⟩ -
      refine Rg.does 12 (by rfl) (by kernel_rfl) (Does.read rfl Tryz.func87 (by kernel_rfl) (by kernel_rfl) (contains_sl nA nc ns f.b (by omega)) (by rfl) (by rfl) ⟨ReadsIn.row 0 (by rfl), trivial⟩) (by rfl) (some 25) (by rfl) (by exact fun _ _ h => h) ?_
      rintro _ -
      refine Rg.qE 13 26 (by rfl) (Ev.not rfl (by rfl)) ?_
      refine Rg.qE 14 27 (by rfl) (Ev.pickF rfl (by rfl) (by rfl)) ?_
      refine Rg.done (by kernel_rfl) ?_ _
      by_cases hm : f.b ∈ ns
      · have hr : nowP P = f.b := by unfold nowP; rw [hb, if_neg (fun e => e.elim h0 (hmem.1 hm))]
        rw [hr]
        skip
        rw [decide_eq_true hm]
        refine Cd.cond_false (by rfl) (rfl) ?_
        refine Cd.skip ?_
        refine Cd.seq ?_
        refine Cd.region ?_
        refine Ls.qM 28 ?_
        refine Ls.qE 29 (Ev.textOf (l := f.b) rfl (by rfl) (ReadsIn.row 1 (by rfl)) Tryz.underlying47 Tryz.underlying5 Tryz.underlying9) ?_
        refine Ls.qA 2 ?_
        refine Ls.nil ?_
        refine Cd.ret ?_
        refine Ent.ret (()) (trivial) (Res.tmp (by rfl) (by rfl)) ?_ [] (by rfl) ?_
        · rfl
        · rfl
      · have hr : nowP P = [] := by
          unfold nowP
          rw [hb, if_pos (.inr (Decidable.not_not.1 fun e => hm (hmem.2 e)))]
        rw [hr]
        skip
        rw [decide_eq_false hm]
        refine Cd.cond_true (by rfl) (rfl) ?_
        refine Cd.seq ?_
        refine Cd.region ?_
        refine Ls.qA 2 ?_
        refine Ls.nil ?_
        refine Cd.ret ?_
        refine Ent.ret (()) (trivial) (Res.tmp (by rfl) (by rfl)) ?_ [] (by rfl) ?_
        · rfl
        · rfl
end Go.Proofs.YtacbkganjkipdaaGreatDoor
/- library functions over pieces: slices.Grow, slices.Concat -/
namespace Go.Proofs.YtacbkganjkipdaaGreatDoor
open Go.RowKit
theorem grow_sl (n : Nat) (hn : n ≤ 140737488355328) : Fn Tryz.prog 131 #[.slice none 0 0, .int .i64 n] [] (Option Addr × Nat) (fun p => .slice p.1 0 p.2) (fun p => [rowB p.1 p.2 []]) (fun _ => True) := by
  refine Fn.enter Tryz.func131 rfl Tryz.ntmps131 (by rfl) ?_
  intro w0
  refine Cd.seq ?_
  refine Cd.region ?_
  refine Ls.qA 4 ?_
  refine Ls.nil ?_
  refine Cd.seq ?_
  refine Cd.seq ?_
  refine Cd.region ?_
  refine Ls.qM 5 ?_
  refine Ls.qE 6 (Ev.lss rfl (by rfl) (by rfl)) ?_
  refine Ls.nil ?_
  refine Cd.cond_false (by rfl) (decide_eq_false (by omega)) ?_
  refine Cd.skip ?_
  refine Cd.seq ?_
  refine Cd.seq ?_
  refine Cd.region ?_
  refine Ls.qM 8 ?_
  refine Ls.qM 9 ?_
  refine Ls.qE 10 (Ev.cap rfl (by rfl) Tryz.underlying47) ?_
  refine Ls.qM 11 ?_
  refine Ls.qE 12 (Ev.len rfl (by rfl) Tryz.underlying47) ?_
  refine Ls.qE 13 (Ev.subI rfl (by rfl) (by rfl) (by omega)) ?_
  refine Ls.qE 14 (Ev.subI rfl (by rfl) (by rfl) (by omega)) ?_
  refine Ls.qA 1 ?_
  refine Ls.nil ?_
  refine Cd.seq ?_
  refine Cd.region ?_
  refine Ls.qM 15 ?_
  refine Ls.qE 16 (Ev.gtr rfl (by rfl) (by rfl)) ?_
  refine Ls.nil ?_
  refine Cd.cond _ (by rfl) (fun h => ?_) (fun h => ?_)
  · skip
    refine Cd.region ?_
    refine Ls.qM 17 ?_
    refine Ls.qM 18 ?_
    refine Ls.qE 19 (Ev.cap rfl (by rfl) Tryz.underlying47) ?_
    refine Ls.qE 20 (Ev.sliceHn (sz := 1) rfl (by rfl) (by rfl) Tryz.underlying47 (by kernel_rfl) (by omega)) ?_
    refine Ls.qM 21 ?_
    refine Ls.does (some 22) (Does.growZ rfl (by rfl) (by rfl) elem_u8 (v := .int .u8 0) (by kernel_rfl) (by rfl) Tryz.underlying3 (by simpa using of_decide_eq_true h) (by omega)) (by rfl) (by rfl) ?_
    intro p _
    refine Ls.qM 23 ?_
    refine Ls.qE 24 (Ev.len rfl (by rfl) Tryz.underlying47) ?_
    refine Ls.qE 25 (Ev.sliceHn (sz := 1) rfl (by rfl) (by rfl) Tryz.underlying47 (by kernel_rfl) (by omega)) ?_
    refine Ls.qA 0 ?_
    refine Ls.nil ?_
    refine Cd.seq ?_
    refine Cd.region ?_
    refine Ls.qM 26 ?_
    refine Ls.qA 4 ?_
    refine Ls.nil ?_
    refine Ent.trunc 0 0 (by rfl) (by omega) ?_
    refine Cd.ret ?_
    refine Ent.ret ((p.1, p.2)) (trivial) (Res.tmp (by rfl) (by rfl)) ?_ [0] (by rfl) ?_
    · rfl
    · rfl
  · skip
    refine Cd.skip ?_
    refine Cd.seq ?_
    refine Cd.region ?_
    refine Ls.qM 26 ?_
    refine Ls.qA 4 ?_
    refine Ls.nil ?_
    refine Ent.nil 5 1 ?_
    refine Cd.ret ?_
    refine Ent.ret ((none, 0)) (trivial) (Res.tmp (by rfl) (by rfl)) ?_ [0] (by rfl) ?_
    · rfl
    · rfl
/-- An append of bytes. -/
theorem Does.appB {Γ : Ctx} {N : Frm} {E : Env} {H : List Chunk} {o : Oper} {x y : Operand} {c d : Nat} {A D : Option Addr} {l m : List UInt8} (i : Nat) (ho : o.op = .call { callee := .builtin .append, args := #[x, y], argTypes := #[47, 47] }) (hx : E.ev x = some (.slice A l.length c)) (hy : E.ev y = some (.slice D m.length d))
    (hi : H[i]? = some (rowB A c l)) (hr : ReadsIn Γ H 1 D m.length (u8s m)) (hb : l.length + m.length ≤ 140737488355328) :
    Does Γ N Tryz.prog E H o (Option Addr × Nat) (fun p => .slice p.1 (l ++ m).length p.2) (fun p => H.set i (rowB p.1 p.2 (l ++ m))) (fun _ => True) := by
  have := Does.app (Γ := Γ) (N := N) (P := Tryz.prog) (E := E) (xs := u8s l) (news := u8s m) i ho hx hy hi hr elem_u8 (u8s_one _) (by omega)
  unfold rowB
  rw [List.length_append, u8s_append]
  exact this
/-- Slices of bytes, as values, and what is read of them. -/
structure Bs where
  A : Option Addr
  c : Nat
  l : List UInt8
  deriving Inhabited
def Bs.val (p : Bs) : Value := .slice p.A p.l.length p.c
def Bs.rd (p : Bs) : Chunk := rdB p.A p.l
def catB (ls : List Bs) : List UInt8 := ls.flatMap Bs.l
theorem catB_take {ls : List Bs} {k : Nat} {p : Bs} (h : ls[k]? = some p) : catB (ls.take (k + 1)) = catB (ls.take k) ++ p.l := by
  unfold catB
  rw [List.take_add_one, h]
  simp
theorem catB_le (ls : List Bs) (k : Nat) : (catB (ls.take k)).length ≤ (catB ls).length := by
  unfold catB
  conv => rhs; rw [← List.take_append_drop k ls]
  rw [List.flatMap_append, List.length_append]
  omega
section
variable {Γ : Ctx} {H : List Chunk}
def AllBs (Γ : Ctx) (H : List Chunk) : List Bs → Prop
  | [] => True
  | p :: r => ReadsIn Γ H 1 p.A p.l.length (u8s p.l) ∧ AllBs Γ H r
theorem AllBs.mem : ∀ {ls : List Bs}, AllBs Γ H ls → ∀ p ∈ ls, ReadsIn Γ H 1 p.A p.l.length (u8s p.l)
  | [], _, _, h => (List.not_mem_nil h).elim
  | q :: r, h, p, hp => by
    rcases List.mem_cons.1 hp with rfl | hp
    · exact h.1
    · exact AllBs.mem h.2 p hp
theorem starsB (ls : List Bs) (h : AllBs Γ H ls) : ∀ w, Sat Γ H w → (stars (ls.map Bs.rd)).holds w := fun w hs C hC => by
  obtain ⟨p, hp, rfl⟩ := List.mem_map.1 hC
  exact ⟨rfl, h.mem p hp w hs⟩
end
theorem concat_sl (A : Option Addr) (c : Nat) (ls : List Bs) (hn : ls.length ≤ 17592186044415) (hb : (catB ls).length ≤ 140737488355328) :
    Fn Tryz.prog 93 #[.slice A ls.length c] [rd A ls.length 1 (ls.map Bs.val), stars (ls.map Bs.rd)] (Option Addr × Nat) (fun p => .slice p.1 (catB ls).length p.2) (fun p => [rowB p.1 p.2 (catB ls)]) (fun _ => True) := by
  refine Fn.enter Tryz.func93 rfl Tryz.ntmps93 (by rfl) ?_
  intro w0
  refine Cd.seq ?_
  refine Cd.region ?_
  refine Ls.qA 2 ?_
  refine Ls.nil ?_
  refine Cd.seq ?_
  refine Cd.region ?_
  refine Ls.qA 3 ?_
  refine Ls.nil ?_
  refine Cd.seq ?_
  refine Cd.seq ?_
  refine Cd.region ?_
  refine Ls.qM 9 ?_
  refine Ls.qE 10 (Ev.len rfl (by rfl) Tryz.underlying48) ?_
  refine Ls.qM 11 ?_
  refine Ls.nil ?_
  refine Cd.block ?_
  refine Cd.loop (ι := Nat) (fun k => [(0, .slice A ls.length c), (9, .slice A ls.length c), (10, .int .i64 ls.length), (11, .int .i64 k), (3, .int .i64 (catB (ls.take k)).length)]) (fun _ => [rd A ls.length 1 (ls.map Bs.val), stars (ls.map Bs.rd)]) (fun k => k ≤ ls.length) (fun k => ls.length - k) (0) (Nat.zero_le _) ?_ rfl ?_
  · (repeat (first | exact trivial | refine ⟨by rfl, ?_⟩))
  intro k hk
  refine Cd.seq ?_
  refine Cd.region ?_
  refine Ls.qE 12 (Ev.lss rfl (by rfl) (by rfl)) ?_
  refine Ls.nil ?_
  refine Cd.seq ?_
  refine Cd.cond _ (by rfl) (fun h => ?_) (fun h => ?_)
  · skip
    have hlt : k < ls.length := by have := of_decide_eq_true h; omega
    obtain ⟨p, hp⟩ := get_of_lt hlt
    have hv : (ls.map Bs.val)[k * 1]? = some p.val := by simp [hp]
    have hcat := catB_take hp
    have hle := catB_le ls (k + 1)
    have hl2 : (catB (ls.take (k + 1))).length = (catB (ls.take k)).length + p.l.length := by rw [hcat, List.length_append]
    refine Ent.rdSome 0 (by rfl) (by omega) (fun ad had => ?_)
    subst had
    refine Cd.skip ?_
    refine Cd.seq ?_
    refine Cd.block ?_
    refine Cd.seq ?_
    refine Cd.region ?_
    refine Ls.qE 13 (Ev.indexAt (sz := 1) rfl (by rfl) (by rfl) Tryz.underlying48 (by kernel_rfl) (by omega)) ?_
    refine Ls.qE 14 (Ev.loadR 0 rfl (by rfl) (by rfl) (by kernel_rfl) (by omega) (by assumption)) ?_
    refine Ls.qA 5 ?_
    refine Ls.nil ?_
    refine Cd.seq ?_
    refine Cd.region ?_
    refine Ls.qM 15 ?_
    refine Ls.qM 16 ?_
    refine Ls.qE 17 (Ev.len rfl (by rfl) Tryz.underlying47) ?_
    refine Ls.qE 18 (Ev.addI rfl (by rfl) (by rfl) (by omega)) ?_
    refine Ls.qA 3 ?_
    refine Ls.nil ?_
    refine Cd.seq ?_
    refine Cd.region ?_
    refine Ls.qM 19 ?_
    refine Ls.qE 20 (Ev.lss rfl (by rfl) (by rfl)) ?_
    refine Ls.nil ?_
    refine Cd.cond_false (by rfl) (decide_eq_false (by omega)) ?_
    refine Cd.skip ?_
    refine Cd.region ?_
    refine Ls.qE 22 (Ev.addI rfl (by rfl) (by rfl) (by omega)) ?_
    refine Ls.qM 11 ?_
    refine Ls.nil ?_
    refine Ent.inv (k + 1) ?_ ?_ ?_
    · (try dsimp only); exact ⟨by omega, by omega⟩
    · (repeat (first | exact trivial | refine ⟨by rfl, ?_⟩ | refine ⟨by simp only [List.length_append, List.length_cons, List.length_nil]; rfl, ?_⟩ | refine ⟨by push_cast; rfl, ?_⟩ | refine ⟨by (show some (Value.int .i64 _) = some (Value.int .i64 _); rw [hl2]; rfl), ?_⟩))
    · rfl
  · skip
    have hk : k = ls.length := by have := of_decide_eq_false h; omega
    subst hk
    have ht : ls.take ls.length = ls := List.take_length
    rw [ht]
    refine Cd.exit ?_
    refine Cd.seq ?_
    refine Cd.region ?_
    refine Ls.qM 23 ?_
    refine Ls.does (some 24) (Does.call [0, 1] rfl Tryz.func131 (by kernel_rfl) (by kernel_rfl) (grow_sl (catB ls).length hb) (by rfl) (by rfl) (by rfl)) (by rfl) (by rfl) ?_
    intro g _
    refine Ls.qA 6 ?_
    refine Ls.nil ?_
    refine Cd.seq ?_
    refine Cd.seq ?_
    refine Cd.region ?_
    refine Ls.qM 25 ?_
    refine Ls.qE 26 (Ev.len rfl (by rfl) Tryz.underlying48) ?_
    refine Ls.qM 27 ?_
    refine Ls.nil ?_
    refine Cd.block ?_
    refine Cd.loop (ι := Nat × Option Addr × Nat) (fun j => [(25, .slice A ls.length c), (26, .int .i64 ls.length), (27, .int .i64 j.1), (6, .slice j.2.1 (catB (ls.take j.1)).length j.2.2)]) (fun j => [rowB j.2.1 j.2.2 (catB (ls.take j.1)), rd A ls.length 1 (ls.map Bs.val), stars (ls.map Bs.rd)]) (fun j => j.1 ≤ ls.length) (fun j => ls.length - j.1) ((0, g.1, g.2)) (Nat.zero_le _) ?_ rfl ?_
    · (repeat (first | exact trivial | refine ⟨by rfl, ?_⟩))
    rintro ⟨k, D, d⟩ hk
    dsimp only at hk ⊢
    refine Cd.seq ?_
    refine Cd.region ?_
    refine Ls.qE 28 (Ev.lss rfl (by rfl) (by rfl)) ?_
    refine Ls.nil ?_
    refine Cd.seq ?_
    refine Cd.cond _ (by rfl) (fun h => ?_) (fun h => ?_)
    · skip
      have hlt : k < ls.length := by have := of_decide_eq_true h; omega
      obtain ⟨p, hp⟩ := get_of_lt hlt
      have hv : (ls.map Bs.val)[k * 1]? = some p.val := by simp [hp]
      have hcat := catB_take hp
      have hle := catB_le ls (k + 1)
      have hl2 : (catB (ls.take (k + 1))).length = (catB (ls.take k)).length + p.l.length := by rw [hcat, List.length_append]
      refine Ent.rdSome 1 (by rfl) (by omega) (fun ad had => ?_)
      subst had
      refine Cd.skip ?_
      refine Cd.seq ?_
      refine Cd.block ?_
      refine Cd.seq ?_
      refine Cd.region ?_
      refine Ls.qE 29 (Ev.indexAt (sz := 1) rfl (by rfl) (by rfl) Tryz.underlying48 (by kernel_rfl) (by omega)) ?_
      refine Ls.qE 30 (Ev.loadR 1 rfl (by rfl) (by rfl) (by kernel_rfl) (by omega) (by assumption)) ?_
      refine Ls.qA 8 ?_
      refine Ls.nil ?_
      refine Cd.region ?_
      refine Ls.qM 31 ?_
      refine Ls.qM 32 ?_
      refine Ent.map (fun w hs => hs.stars_get (i := 2) (C := p.rd) rfl (List.mem_map_of_mem (List.mem_of_getElem? hp))) ?_
      refine Ls.does (some 33) (Does.app (xs := u8s (catB (ls.take k))) (news := u8s p.l) 1 rfl (by rfl) (by rfl) (by rfl) (ReadsIn.rd 0 (by rfl)) elem_u8 (u8s_one _) (by omega)) (by rfl) (by rfl) ?_
      intro q _
      refine Ls.qA 6 ?_
      refine Ls.nil ?_
      refine Cd.region ?_
      refine Ls.qE 34 (Ev.addI rfl (by rfl) (by rfl) (by omega)) ?_
      refine Ls.qM 27 ?_
      refine Ls.nil ?_
      refine Ent.pick [1, 2, 3] (by rfl) ?_
      refine Ent.inv ((k + 1, q.1, q.2)) ?_ ?_ ?_
      · (try dsimp only); exact ⟨by omega, by omega⟩
      · (repeat (first | exact trivial | refine ⟨by rfl, ?_⟩ | refine ⟨by simp only [List.length_append, List.length_cons, List.length_nil]; rfl, ?_⟩ | refine ⟨by push_cast; rfl, ?_⟩ | refine ⟨by (show some (Value.slice _ _ _) = some (Value.slice _ _ _); dsimp only; rw [hl2]), ?_⟩))
      · (show [_, _, _] = [_, _, _]; dsimp only [rowB]; rw [hl2, hcat, u8s_append])
    · skip
      have hk : k = ls.length := by have := of_decide_eq_false h; omega
      subst hk
      rw [ht]
      refine Cd.exit ?_
      refine Cd.seq ?_
      refine Cd.region ?_
      refine Ls.qM 35 ?_
      refine Ls.qA 2 ?_
      refine Ls.nil ?_
      refine Cd.ret ?_
      refine Ent.ret ((D, d)) (trivial) (Res.tmp (by rfl) (by rfl)) ?_ [0] (by rfl) ?_
      · rfl
      · rfl
end Go.Proofs.YtacbkganjkipdaaGreatDoor
/- manifest.Encode -/
namespace Go.Proofs.YtacbkganjkipdaaGreatDoor
open Go.RowKit
theorem uintI_sl (n : Int) (hn : 0 ≤ n ∧ n ≤ 9223372036854775807) : Fn Tryz.prog 92 #[.int .u64 n] [] (Option Addr × Nat) (fun p => .slice p.1 (uintL n.toNat).length p.2) (fun p => [rowB p.1 p.2 (uintL n.toNat)]) (fun _ => True) := by
  have h := uint_sl n.toNat (by omega)
  have e : ((n.toNat : Nat) : Int) = n := by omega
  rw [e] at h
  exact h
section
variable {Γ : Ctx} {N : Frm} {P : Program} {E : Env} {H : List Chunk} {o : Oper} {x y z : Operand}
theorem Ev.min3 {ts : Array TypeId} {k : IntKind} {a b d m : Int} (ho : o.op = .call { callee := .builtin .min, args := #[x, y, z], argTypes := ts }) (hx : E.ev x = some (.int k a)) (hy : E.ev y = some (.int k b)) (hz : E.ev z = some (.int k d)) (hm : Min.min (Min.min a b) d = m) : Ev Γ N P E H o (.int k m) := .of fun ρ hρ w => by
  have e : (if d < (if b < a then b else a) then d else (if b < a then b else a)) = m := by
    rw [← hm]
    split <;> split <;> omega
  rw [← e]
  simp [execOp, ho, resolve, invoke, builtin, hρ x _ hx, hρ y _ hy, hρ z _ hz, Builtin.min_, Builtin.min2]
theorem Ev.minI {ts : Array TypeId} {k : IntKind} {a b m : Int} (ho : o.op = .call { callee := .builtin .min, args := #[x, y], argTypes := ts }) (hx : E.ev x = some (.int k a)) (hy : E.ev y = some (.int k b)) (hm : Min.min a b = m) : Ev Γ N P E H o (.int k m) := by
  subst hm
  have := Ev.min (Γ := Γ) (N := N) (P := P) (H := H) ho hx hy
  have e : (if b < a then b else a) = Min.min a b := by split <;> omega
  rwa [e] at this
end
abbrev encF : Value := .func (.func 91) #[] #[]
theorem enc1_sl (n : Int) (hn : 0 ≤ n ∧ n ≤ 9223372036854775807) : Fn Tryz.prog 91 #[.int .i64 n] [] (Option Addr × Nat) (fun p => .slice p.1 (uintL n.toNat).length p.2) (fun p => [rowB p.1 p.2 (uintL n.toNat)]) (fun _ => True) := by
  refine Fn.enter Tryz.func91 rfl Tryz.ntmps91 (by rfl) ?_
  intro w0
  refine Cd.seq ?_
  refine Cd.region ?_
  refine Ls.qA 2 ?_
  refine Ls.nil ?_
  refine Cd.seq ?_
  refine Cd.region ?_
  refine Ls.qM 3 ?_
  refine Ls.qE 4 (Ev.convU rfl (by rfl) (by kernel_rfl) Tryz.underlying150 (by omega)) ?_
  refine Ls.does (some 5) (Does.call [] rfl Tryz.func92 (by kernel_rfl) (by kernel_rfl) (uintI_sl n hn) (by rfl) (by rfl) (by rfl)) (by rfl) (by rfl) ?_
  rintro q -
  refine Ls.qA 2 ?_
  refine Ls.nil ?_
  refine Cd.ret ?_
  refine Ent.ret (q) (trivial) (Res.tmp (by rfl) (by rfl)) ?_ [0] (by rfl) ?_
  · rfl
  · rfl
theorem enc1_fnv (n : Int) (hn : 0 ≤ n ∧ n ≤ 9223372036854775807) : FnV Tryz.prog encF [.int .i64 n] [] (Option Addr × Nat) (fun p => .slice p.1 (uintL n.toNat).length p.2) (fun p => [rowB p.1 p.2 (uintL n.toNat)]) (fun _ => True) :=
  ⟨91, Tryz.f91, [], rfl, Tryz.func91, by kernel_rfl, by kernel_rfl, enc1_sl n hn⟩
theorem enc1N_fnv (n : Nat) (hn : n ≤ 9223372036854775807) : FnV Tryz.prog encF [.int .i64 n] [] (Option Addr × Nat) (fun p => .slice p.1 (uintL n).length p.2) (fun p => [rowB p.1 p.2 (uintL n)]) (fun _ => True) := enc1_fnv n (by omega)
theorem flatT_take {α β : Type} {g : α → List β} {l : List α} {k : Nat} {x : α} (h : l[k]? = some x) : (l.take (k + 1)).flatMap g = (l.take k).flatMap g ++ g x := by
  rw [List.take_add_one, h]
  simp
theorem flat_take_le {α : Type} {g : α → List UInt8} {b : Nat} {l : List α} (h : ∀ x ∈ l, (g x).length ≤ b) (k : Nat) : ((l.take k).flatMap g).length ≤ l.length * b := by
  have h1 := flat_le (l := l.take k) (fun x hx => h x (List.mem_of_mem_take hx))
  have h2 : (l.take k).length * b ≤ l.length * b := Nat.mul_le_mul_right _ (by rw [List.length_take]; omega)
  omega
def encR (e : EdP) (p : Option Addr × Nat) : Value := if 4096 < (edB e).length then .tuple #[.slice none 0 0, .int .i64 3] else .tuple #[.slice p.1 (edB e).length p.2, .int .i64 0]
def encP (e : EdP) (p : Option Addr × Nat) : List Chunk := if 4096 < (edB e).length then [] else [rowB p.1 p.2 (edB e)]
set_option maxHeartbeats 2000000 in
theorem encode_sl (e : EdP) (h : EncOk e) (B D : Option Addr) (b d : Nat) : Fn Tryz.prog 48 #[.agg (e.val B b D d).toArray] [rdT B e.add, rd D e.drop.length 1 (ints e.drop)] (Option Addr × Nat) (encR e) (encP e) (fun _ => True) := by
  obtain ⟨ad, dr, nx, lg, sq⟩ := e
  obtain ⟨htab, hdrp, hnx, hlg, hsq, hadl, hdrl⟩ := h
  dsimp only [EdP.val] at htab hdrp hnx hlg hsq hadl hdrl ⊢
  have hfl : ∀ k, _ := fun k => flat_take_le (g := tabB) (fun t ht => tabB_le (htab t ht)) k
  have hdl : ∀ k, _ := fun k => flat_take_le (g := drpB) (fun n hn => drpB_le (hdrp n hn)) k
  have hu1 := uintL_len64 (n := ad.length) (by omega)
  have hu2 := uintL_len64 (n := dr.length) (by omega)
  have hu3 := uintL_len64 (n := nx.toNat) (by omega)
  have hu4 := uintL_len64 (n := lg.toNat) (by omega)
  have hu5 := uintL_len64 (n := sq.toNat) (by omega)
  refine Fn.enter Tryz.func48 rfl Tryz.ntmps48 (by rfl) ?_
  intro w0
  skip
  obtain ⟨m0, hm0⟩ : ∃ m, min (min nx lg) sq = m := ⟨_, rfl⟩
  refine Cd.seq ?_
  refine Cd.region ?_
  refine Ls.does (some 1) (Does.box rfl (by rfl)) (by rfl) (by rfl) ?_
  intro g1 _
  refine Ls.qA 2 ?_
  refine Ls.qA 3 ?_
  refine Ls.nil ?_
  refine Cd.seq ?_
  refine Cd.region ?_
  refine Ls.qF 15 2 ?_
  refine Ls.qL 16 0 ?_
  refine Ls.qF 17 3 ?_
  refine Ls.qL 18 0 ?_
  refine Ls.qF 19 4 ?_
  refine Ls.qL 20 0 ?_
  refine Ls.qE 21 (Ev.min3 rfl (by rfl) (by rfl) (by rfl) hm0) ?_
  refine Ls.qA 4 ?_
  refine Ls.nil ?_
  refine Cd.seq ?_
  refine Cd.seq ?_
  refine Cd.region ?_
  refine Ls.qF 22 0 ?_
  refine Ls.qL 23 0 ?_
  refine Ls.qE 24 (Ev.len rfl (by rfl) Tryz.underlying22) ?_
  refine Ls.qM 25 ?_
  refine Ls.nil ?_
  refine Cd.block ?_
  refine Cd.loop (ι := Nat × Int) (fun p => [(1, .pointer (some ⟨g1, 0, none⟩)), (4, .int .i64 p.2), (23, .slice B ad.length b), (24, .int .i64 ad.length), (25, .int .i64 p.1)]) (fun _ => [blk g1 27 [.slice B ad.length b, .slice D dr.length d, .int .i64 nx, .int .i64 lg, .int .i64 sq], rdT B ad, rd D dr.length 1 (ints dr)]) (fun p => p.1 ≤ ad.length ∧ 0 ≤ p.2) (fun p => ad.length - p.1) ((0, m0)) (⟨Nat.zero_le _, by omega⟩) ?_ rfl ?_
  · (repeat (first | exact trivial | refine ⟨by rfl, ?_⟩))
  rintro ⟨j, m⟩ ⟨hj, hm⟩
  dsimp only at hj hm ⊢
  refine Cd.seq ?_
  refine Cd.region ?_
  refine Ls.qE 26 (Ev.lss rfl (by rfl) (by rfl)) ?_
  refine Ls.nil ?_
  refine Cd.seq ?_
  refine Cd.cond _ (by rfl) (fun h2 => ?_) (fun h2 => ?_)
  · skip
    have hlt : j < ad.length := by have := of_decide_eq_true h2; omega
    obtain ⟨t, ht⟩ := get_of_lt hlt
    have htk := htab t (List.mem_of_getElem? ht)
    have ht1 := htk.num
    have ht2 := htk.lev
    refine Ent.rdSome 1 (by rfl) (by omega) (fun bd hbd => ?_)
    subst hbd
    refine Cd.skip ?_
    refine Cd.seq ?_
    refine Cd.block ?_
    refine Cd.seq ?_
    refine Cd.region ?_
    refine Ls.qE 27 (Ev.indexAt (sz := 4) rfl (by rfl) (by rfl) Tryz.underlying22 (by kernel_rfl) (by omega)) ?_
    refine Ls.qE 28 (Ev.loadEl (enc := TbP.enc) (sz := 4) rfl (by rfl) (ReadsIn.rd 1 (by rfl)) (by kernel_rfl) (fun _ => rfl) ht) ?_
    obtain ⟨m1, hm1⟩ : ∃ m1, min (min m t.num) t.lev = m1 := ⟨_, rfl⟩
    refine Ls.does (some 6) (Does.alloc (cs := [.int .i64 0, .int .i64 0, .string ⟨#[]⟩, .string ⟨#[]⟩]) rfl (ZeroIs.mk (.agg #[.int .i64 0, .int .i64 0, .string ⟨#[]⟩, .string ⟨#[]⟩]) (by kernel_rfl) (by rfl))) (by rfl) (by rfl) ?_
    intro g2 _
    refine Ls.qD (Does.store 0 rfl (by rfl) (by rfl) (by rfl) (by kernel_rfl) (by rfl) (by kernel_rfl) (by rfl)) ?_
    intro _ _
    refine Ls.nil ?_
    refine Cd.region ?_
    refine Ls.qM 29 ?_
    refine Ls.qF 30 0 ?_
    refine Ls.qL 31 0 ?_
    refine Ls.qF 32 1 ?_
    refine Ls.qL 33 0 ?_
    refine Ls.qE 34 (Ev.min3 rfl (by rfl) (by rfl) (by rfl) hm1) ?_
    refine Ls.qA 4 ?_
    refine Ls.nil ?_
    refine Cd.region ?_
    refine Ls.qE 35 (Ev.addN (b := 1) rfl (by rfl) (by rfl) (by omega)) ?_
    refine Ls.qM 25 ?_
    refine Ls.nil ?_
    refine Ent.pick [1, 2, 3] (by rfl) ?_
    refine Ent.inv ((j + 1, m1)) ?_ ?_ ?_
    · (try dsimp only); exact ⟨⟨hlt, by omega⟩, by omega⟩
    · (repeat (first | exact trivial | refine ⟨by rfl, ?_⟩ | refine ⟨by simp only [List.length_append, List.length_cons, List.length_nil]; rfl, ?_⟩ | refine ⟨by push_cast; rfl, ?_⟩))
    · rfl
  skip
  refine Cd.exit ?_
  refine Cd.seq ?_
  refine Cd.seq ?_
  refine Cd.region ?_
  refine Ls.qF 36 1 ?_
  refine Ls.qL 37 0 ?_
  refine Ls.qE 38 (Ev.len rfl (by rfl) Tryz.underlying25) ?_
  refine Ls.qM 39 ?_
  refine Ls.nil ?_
  refine Cd.block ?_
  refine Cd.loop (ι := Nat × Int) (fun p => [(1, .pointer (some ⟨g1, 0, none⟩)), (4, .int .i64 p.2), (37, .slice D dr.length d), (38, .int .i64 dr.length), (39, .int .i64 p.1)]) (fun _ => [blk g1 27 [.slice B ad.length b, .slice D dr.length d, .int .i64 nx, .int .i64 lg, .int .i64 sq], rdT B ad, rd D dr.length 1 (ints dr)]) (fun p => p.1 ≤ dr.length ∧ 0 ≤ p.2) (fun p => dr.length - p.1) ((0, m)) (⟨Nat.zero_le _, hm⟩) ?_ rfl ?_
  · (repeat (first | exact trivial | refine ⟨by rfl, ?_⟩))
  clear hm hj h2 m
  rintro ⟨k, m⟩ ⟨hk, hm⟩
  dsimp only at hk hm ⊢
  refine Cd.seq ?_
  refine Cd.region ?_
  refine Ls.qE 40 (Ev.lss rfl (by rfl) (by rfl)) ?_
  refine Ls.nil ?_
  refine Cd.seq ?_
  refine Cd.cond _ (by rfl) (fun h2 => ?_) (fun h2 => ?_)
  · skip
    have hlt : k < dr.length := by have := of_decide_eq_true h2; omega
    obtain ⟨x, hx⟩ := get_of_lt hlt
    have hx0 := hdrp x (List.mem_of_getElem? hx)
    refine Ent.rdSome 2 (by rfl) (by omega) (fun bd hbd => ?_)
    subst hbd
    obtain ⟨m1, hm1⟩ : ∃ m1, min m x = m1 := ⟨_, rfl⟩
    refine Cd.skip ?_
    refine Cd.seq ?_
    refine Cd.block ?_
    refine Cd.seq ?_
    refine Cd.region ?_
    refine Ls.qE 41 (Ev.indexAt (sz := 1) rfl (by rfl) (by rfl) Tryz.underlying25 (by kernel_rfl) (by omega)) ?_
    refine Ls.qE 42 (Ev.loadInt rfl (by rfl) (ReadsIn.rd 2 (by rfl)) (by kernel_rfl) (by assumption)) ?_
    refine Ls.qA 8 ?_
    refine Ls.nil ?_
    refine Cd.region ?_
    refine Ls.qM 43 ?_
    refine Ls.qM 44 ?_
    refine Ls.qE 45 (Ev.minI rfl (by rfl) (by rfl) hm1) ?_
    refine Ls.qA 4 ?_
    refine Ls.nil ?_
    refine Cd.region ?_
    refine Ls.qE 46 (Ev.addN (b := 1) rfl (by rfl) (by rfl) (by omega)) ?_
    refine Ls.qM 39 ?_
    refine Ls.nil ?_
    refine Ent.inv ((k + 1, m1)) ?_ ?_ ?_
    · (try dsimp only); exact ⟨⟨hlt, by omega⟩, by omega⟩
    · (repeat (first | exact trivial | refine ⟨by rfl, ?_⟩ | refine ⟨by simp only [List.length_append, List.length_cons, List.length_nil]; rfl, ?_⟩ | refine ⟨by push_cast; rfl, ?_⟩))
    · rfl
  skip
  refine Cd.exit ?_
  refine Cd.seq ?_
  refine Cd.seq ?_
  refine Cd.region ?_
  refine Ls.qM 47 ?_
  refine Ls.qE 48 (Ev.lss rfl (by rfl) (by rfl)) ?_
  refine Ls.nil ?_
  refine Cd.cond_false (by rfl) (decide_eq_false (show ¬ (m < 0) by omega)) ?_
  refine Cd.skip ?_
  refine Cd.seq ?_
  refine Cd.region ?_
  refine Ls.qA 9 ?_
  refine Ls.nil ?_
  refine Cd.seq ?_
  refine Cd.regionI ?_
  refine Li.ev (some 49) (Ev.move rfl (by rfl)) (by rfl) (by rfl) ?_
  refine Li.ev (some 50) (Ev.fieldAddr (k := 0) rfl (by rfl) (by kernel_rfl) (by rfl)) (by rfl) (by rfl) ?_
  refine Li.ev (some 51) (Ev.load 0 rfl (by rfl) (by rfl) (by kernel_rfl) (by rfl)) (by rfl) (by rfl) ?_
  refine Li.ev (some 52) (Ev.len rfl (by rfl) Tryz.underlying22) (by rfl) (by rfl) ?_
  refine Li.does (some 53) (Does.callV [0, 1, 2] rfl (by rfl) (enc1N_fnv ad.length (by omega)) (by rfl) (by rfl) (by rfl)) (by rfl) (by rfl) ?_
  rintro ⟨qA, qc⟩ -
  refine Li.ev (some 10) (Ev.assign rfl (by rfl)) (by rfl) (by rfl) ?_
  refine Li.nil ?_
  refine Cd.seq ?_
  refine Cd.seq ?_
  refine Cd.region ?_
  refine Ls.qF 54 0 ?_
  refine Ls.qL 55 1 ?_
  refine Ls.qE 56 (Ev.len rfl (by rfl) Tryz.underlying22) ?_
  refine Ls.qM 57 ?_
  refine Ls.nil ?_
  refine Cd.block ?_
  have hz : ∀ j, (uintL ad.length ++ (ad.take j).flatMap tabB).length ≤ 10 + ad.length * 168 := fun j => by
    rw [List.length_append]
    have := hfl j
    omega
  refine Ent.norm ([(1, .pointer (some ⟨g1, 0, none⟩)), (9, encF), (10, .slice qA (uintL ad.length ++ (ad.take 0).flatMap tabB).length qc), (55, .slice B ad.length b), (56, .int .i64 ad.length), (57, .int .i64 (0 : Nat))]) ([rowB qA qc (uintL ad.length ++ (ad.take 0).flatMap tabB), blk g1 27 [.slice B ad.length b, .slice D dr.length d, .int .i64 nx, .int .i64 lg, .int .i64 sq], rdT B ad, rd D dr.length 1 (ints dr)]) (by repeat (first | refine ⟨by (show some (Value.slice _ _ _) = some (Value.slice _ _ _); simp), ?_⟩ | exact trivial | refine ⟨by rfl, ?_⟩ | refine ⟨by simp only [List.length_append, List.length_cons, List.length_nil]; rfl, ?_⟩ | refine ⟨by push_cast; rfl, ?_⟩)) (by (show [rowB _ _ _, _, _, _] = [rowB _ _ _, _, _, _]; simp)) ?_
  refine Cd.loop (ι := Nat × (Option Addr × Nat)) (fun p => [(1, .pointer (some ⟨g1, 0, none⟩)), (9, encF), (10, .slice p.2.1 (uintL ad.length ++ (ad.take p.1).flatMap tabB).length p.2.2), (55, .slice B ad.length b), (56, .int .i64 ad.length), (57, .int .i64 p.1)]) (fun p => [rowB p.2.1 p.2.2 (uintL ad.length ++ (ad.take p.1).flatMap tabB), blk g1 27 [.slice B ad.length b, .slice D dr.length d, .int .i64 nx, .int .i64 lg, .int .i64 sq], rdT B ad, rd D dr.length 1 (ints dr)]) (fun p => p.1 ≤ ad.length) (fun p => ad.length - p.1) ((0, (qA, qc))) (Nat.zero_le _) ?_ rfl ?_
  · (repeat (first | exact trivial | refine ⟨by rfl, ?_⟩))
  rintro ⟨j, xA, xc⟩ hj
  dsimp only at hj ⊢
  have hzj := hz j
  obtain ⟨X, hX⟩ : ∃ X, X = uintL ad.length ++ (ad.take j).flatMap tabB := ⟨_, rfl⟩
  rw [← hX] at hzj ⊢
  refine Cd.seq ?_
  refine Cd.region ?_
  refine Ls.qE 58 (Ev.lss rfl (by rfl) (by rfl)) ?_
  refine Ls.nil ?_
  refine Cd.seq ?_
  refine Cd.cond _ (by rfl) (fun h3 => ?_) (fun h3 => ?_)
  · skip
    have hlt : j < ad.length := by have := of_decide_eq_true h3; omega
    obtain ⟨t, ht⟩ := get_of_lt hlt
    have htk := htab t (List.mem_of_getElem? ht)
    have ht1 := htk.num
    have ht2 := htk.lev
    have ht3 := htk.fst
    have ht4 := htk.lst
    have htB : X ++ tabB t = uintL ad.length ++ (ad.take (j + 1)).flatMap tabB := by rw [hX, flatT_take ht, List.append_assoc]
    have hbl := tabB_le htk
    refine Ent.rdSome 2 (by rfl) (by omega) (fun bd hbd => ?_)
    subst hbd
    refine Cd.skip ?_
    refine Cd.seq ?_
    refine Cd.block ?_
    refine Cd.seq ?_
    refine Cd.region ?_
    refine Ls.qE 59 (Ev.indexAt (sz := 4) rfl (by rfl) (by rfl) Tryz.underlying22 (by kernel_rfl) (by omega)) ?_
    refine Ls.qE 60 (Ev.loadEl (enc := TbP.enc) (sz := 4) rfl (by rfl) (ReadsIn.rd 2 (by rfl)) (by kernel_rfl) (fun _ => rfl) ht) ?_
    refine Ls.does (some 12) (Does.alloc (cs := [.int .i64 0, .int .i64 0, .string ⟨#[]⟩, .string ⟨#[]⟩]) rfl (ZeroIs.mk (.agg #[.int .i64 0, .int .i64 0, .string ⟨#[]⟩, .string ⟨#[]⟩]) (by kernel_rfl) (by rfl))) (by rfl) (by rfl) ?_
    intro g2 _
    refine Ls.qD (Does.store 0 rfl (by rfl) (by rfl) (by rfl) (by kernel_rfl) (by rfl) (by kernel_rfl) (by rfl)) ?_
    intro _ _
    refine Ls.nil ?_
    refine Cd.draw [] (by kernel_rfl) ?_
    refine Rg.qE 0 61 (by rfl) (Ev.move rfl (by rfl)) ?_
    refine Rg.qE 1 62 (by rfl) (Ev.move rfl (by rfl)) ?_
    refine Rg.qE 2 63 (by rfl) (Ev.fieldAddr (k := 0) rfl (by rfl) (by kernel_rfl) (by rfl)) ?_
    refine Rg.qE 3 64 (by rfl) (Ev.load 0 rfl (by rfl) (by rfl) (by kernel_rfl) (by rfl)) ?_
    refine Rg.qE 5 66 (by rfl) (Ev.move rfl (by rfl)) ?_
    refine Rg.qE 6 67 (by rfl) (Ev.fieldAddr (k := 1) rfl (by rfl) (by kernel_rfl) (by rfl)) ?_
    refine Rg.qE 7 68 (by rfl) (Ev.load 0 rfl (by rfl) (by rfl) (by kernel_rfl) (by rfl)) ?_
    refine Rg.qE 9 70 (by rfl) (Ev.fieldAddr (k := 2) rfl (by rfl) (by kernel_rfl) (by rfl)) ?_
    refine Rg.qE 10 71 (by rfl) (Ev.load 0 rfl (by rfl) (by rfl) (by kernel_rfl) (by rfl)) ?_
    refine Rg.qE 12 73 (by rfl) (Ev.fieldAddr (k := 3) rfl (by rfl) (by kernel_rfl) (by rfl)) ?_
    refine Rg.qE 13 74 (by rfl) (Ev.load 0 rfl (by rfl) (by rfl) (by kernel_rfl) (by rfl)) ?_
    refine Rg.does 4 (by rfl) (by kernel_rfl) (Does.callV [0, 1, 2, 3, 4] rfl (by rfl) (enc1_fnv t.num (by omega)) (by rfl) (by rfl) (by rfl)) (by rfl) (some 65) (by rfl) (fun _ _ h => h.tail_) ?_
    rintro ⟨a1, c1⟩ -
    skip
    refine Rg.does 8 (by rfl) (by kernel_rfl) (Does.callV [0, 1, 2, 3, 4, 5] rfl (by rfl) (enc1_fnv t.lev (by omega)) (by rfl) (by rfl) (by rfl)) (by rfl) (some 69) (by rfl) (fun _ _ h => h.tail_) ?_
    rintro ⟨a2, c2⟩ -
    skip
    refine Rg.does 11 (by rfl) (by kernel_rfl) (Does.call [0, 1, 2, 3, 4, 5, 6] rfl Tryz.func94 (by kernel_rfl) (by kernel_rfl) (ftext_sl t.fst (by omega)) (by rfl) (by rfl) (by rfl)) (by rfl) (some 72) (by rfl) (fun _ _ h => h.tail_) ?_
    rintro ⟨a3, c3⟩ -
    skip
    refine Rg.does 14 (by rfl) (by kernel_rfl) (Does.call [0, 1, 2, 3, 4, 5, 6, 7] rfl Tryz.func94 (by kernel_rfl) (by kernel_rfl) (ftext_sl t.lst (by omega)) (by rfl) (by rfl) (by rfl)) (by rfl) (some 75) (by rfl) (fun _ _ h => h.tail_) ?_
    rintro ⟨a4, c4⟩ -
    refine Rg.does 15 (by rfl) (by kernel_rfl) (Does.lit (sz := 1) rfl (by rfl) Tryz.underlying48 (by kernel_rfl) (by rfl) (by kernel_rfl)) (by rfl) (some 76) (by rfl) (fun _ _ h => h.tail_) ?_
    intro g3 _
    obtain ⟨ls, hls⟩ : ∃ ls : List Bs, ls = [⟨xA, xc, X⟩, ⟨a1, c1, uintL t.num.toNat⟩, ⟨a2, c2, uintL t.lev.toNat⟩, ⟨a3, c3, textB t.fst⟩, ⟨a4, c4, textB t.lst⟩] := ⟨_, rfl⟩
    have hcat : catB ls = X ++ tabB t := by rw [hls]; simp [catB, tabB]
    rw [hls] at hcat
    refine Rg.does 16 (by rfl) (by kernel_rfl) (Does.readN rfl Tryz.func93 (by kernel_rfl) (by kernel_rfl) (concat_sl (some ⟨g3, 0, none⟩) 5 [⟨xA, xc, X⟩, ⟨a1, c1, uintL t.num.toNat⟩, ⟨a2, c2, uintL t.lev.toNat⟩, ⟨a3, c3, textB t.fst⟩, ⟨a4, c4, textB t.lst⟩] (by simp) (by rw [hcat, List.length_append]; omega)) (by rfl) (by rfl) ⟨ReadsIn.row 0 (by rfl), starsB _ ⟨ReadsIn.row 6 (by rfl), ReadsIn.row 4 (by rfl), ReadsIn.row 3 (by rfl), ReadsIn.row 2 (by rfl), ReadsIn.row 1 (by rfl), trivial⟩, trivial⟩ (fun _ => by rfl)) (by rfl) (some 77) (by rfl) (fun _ _ h => h.tail_) ?_
    rw [hcat, htB]
    rintro ⟨q, qq⟩ -
    refine Rg.qE 17 10 (by rfl) (Ev.assign rfl (by rfl)) ?_
    refine Rg.done (by kernel_rfl) ?_ _
    refine Cd.region ?_
    refine Ls.qE 78 (Ev.addN (b := 1) rfl (by rfl) (by rfl) (by omega)) ?_
    refine Ls.qM 57 ?_
    refine Ls.nil ?_
    refine Ent.pick [0, 8, 9, 10] (by rfl) ?_
    refine Ent.inv ((j + 1, (q, qq))) ?_ ?_ ?_
    · (try dsimp only); exact ⟨hlt, by omega⟩
    · (repeat (first | exact trivial | refine ⟨by rfl, ?_⟩ | refine ⟨by simp only [List.length_append, List.length_cons, List.length_nil]; rfl, ?_⟩ | refine ⟨by push_cast; rfl, ?_⟩))
    · rfl
  skip
  have hge : ad.length ≤ j := by have := of_decide_eq_false h3; omega
  rw [List.take_of_length_le hge] at hX
  refine Cd.exit ?_
  refine Cd.seq ?_
  refine Cd.regionI ?_
  refine Li.ev (some 79) (Ev.move rfl (by rfl)) (by rfl) (by rfl) ?_
  refine Li.ev (some 80) (Ev.move rfl (by rfl)) (by rfl) (by rfl) ?_
  refine Li.ev (some 81) (Ev.fieldAddr (k := 1) rfl (by rfl) (by kernel_rfl) (by rfl)) (by rfl) (by rfl) ?_
  refine Li.ev (some 82) (Ev.load 1 rfl (by rfl) (by rfl) (by kernel_rfl) (by rfl)) (by rfl) (by rfl) ?_
  refine Li.ev (some 83) (Ev.len rfl (by rfl) Tryz.underlying25) (by rfl) (by rfl) ?_
  refine Li.does (some 84) (Does.callV [0, 1, 2, 3] rfl (by rfl) (enc1N_fnv dr.length (by omega)) (by rfl) (by rfl) (by rfl)) (by rfl) (by rfl) ?_
  rintro ⟨a1, c1⟩ -
  skip
  refine Li.does (some 85) (Does.appB 1 rfl (by rfl) (by rfl) (by rfl) (ReadsIn.row 0 (by rfl)) (by omega)) (by rfl) (by rfl) ?_
  rintro ⟨yA, yc⟩ -
  refine Li.ev (some 10) (Ev.assign rfl (by rfl)) (by rfl) (by rfl) ?_
  refine Li.nil ?_
  refine Cd.seq ?_
  refine Cd.seq ?_
  refine Cd.region ?_
  refine Ls.qF 86 1 ?_
  refine Ls.qL 87 2 ?_
  refine Ls.qE 88 (Ev.len rfl (by rfl) Tryz.underlying25) ?_
  refine Ls.qM 89 ?_
  refine Ls.nil ?_
  refine Cd.block ?_
  refine Ent.pick [1, 2, 3, 4] (by rfl) ?_
  have hY : ∀ j, (X ++ uintL dr.length ++ (dr.take j).flatMap drpB).length ≤ 20 + ad.length * 168 + dr.length * 10 := fun j => by
    rw [List.length_append, List.length_append]
    have := hdl j
    omega
  refine Ent.norm ([(1, .pointer (some ⟨g1, 0, none⟩)), (9, encF), (10, .slice yA (X ++ uintL dr.length ++ (dr.take 0).flatMap drpB).length yc), (87, .slice D dr.length d), (88, .int .i64 dr.length), (89, .int .i64 (0 : Nat))]) ([rowB yA yc (X ++ uintL dr.length ++ (dr.take 0).flatMap drpB), blk g1 27 [.slice B ad.length b, .slice D dr.length d, .int .i64 nx, .int .i64 lg, .int .i64 sq], rdT B ad, rd D dr.length 1 (ints dr)]) (by repeat (first | refine ⟨by (show some (Value.slice _ _ _) = some (Value.slice _ _ _); simp), ?_⟩ | exact trivial | refine ⟨by rfl, ?_⟩ | refine ⟨by simp only [List.length_append, List.length_cons, List.length_nil]; rfl, ?_⟩ | refine ⟨by push_cast; rfl, ?_⟩)) (by (show [rowB _ _ _, _, _, _] = [rowB _ _ _, _, _, _]; simp)) ?_
  refine Cd.loop (ι := Nat × (Option Addr × Nat)) (fun p => [(1, .pointer (some ⟨g1, 0, none⟩)), (9, encF), (10, .slice p.2.1 (X ++ uintL dr.length ++ (dr.take p.1).flatMap drpB).length p.2.2), (87, .slice D dr.length d), (88, .int .i64 dr.length), (89, .int .i64 p.1)]) (fun p => [rowB p.2.1 p.2.2 (X ++ uintL dr.length ++ (dr.take p.1).flatMap drpB), blk g1 27 [.slice B ad.length b, .slice D dr.length d, .int .i64 nx, .int .i64 lg, .int .i64 sq], rdT B ad, rd D dr.length 1 (ints dr)]) (fun p => p.1 ≤ dr.length) (fun p => dr.length - p.1) ((0, (yA, yc))) (Nat.zero_le _) ?_ rfl ?_
  · (repeat (first | exact trivial | refine ⟨by rfl, ?_⟩))
  rintro ⟨k2, zA, zc⟩ hk2
  dsimp only at hk2 ⊢
  have hYj := hY k2
  obtain ⟨Y, hYe⟩ : ∃ Y, Y = X ++ uintL dr.length ++ (dr.take k2).flatMap drpB := ⟨_, rfl⟩
  rw [← hYe] at hYj ⊢
  refine Cd.seq ?_
  refine Cd.region ?_
  refine Ls.qE 90 (Ev.lss rfl (by rfl) (by rfl)) ?_
  refine Ls.nil ?_
  refine Cd.seq ?_
  refine Cd.cond _ (by rfl) (fun h4 => ?_) (fun h4 => ?_)
  · skip
    have hlt : k2 < dr.length := by have := of_decide_eq_true h4; omega
    obtain ⟨x, hx⟩ := get_of_lt hlt
    have hx0 := hdrp x (List.mem_of_getElem? hx)
    have hxB : Y ++ uintL x.toNat = X ++ uintL dr.length ++ (dr.take (k2 + 1)).flatMap drpB := by rw [hYe, flatT_take hx, List.append_assoc]; rfl
    have hxl := uintL_len64 (n := x.toNat) (by omega)
    refine Ent.rdSome 3 (by rfl) (by omega) (fun bd hbd => ?_)
    subst hbd
    refine Cd.skip ?_
    refine Cd.seq ?_
    refine Cd.block ?_
    refine Cd.seq ?_
    refine Cd.region ?_
    refine Ls.qE 91 (Ev.indexAt (sz := 1) rfl (by rfl) (by rfl) Tryz.underlying25 (by kernel_rfl) (by omega)) ?_
    refine Ls.qE 92 (Ev.loadInt rfl (by rfl) (ReadsIn.rd 3 (by rfl)) (by kernel_rfl) (by assumption)) ?_
    refine Ls.qA 14 ?_
    refine Ls.nil ?_
    refine Cd.regionI ?_
    refine Li.ev (some 93) (Ev.move rfl (by rfl)) (by rfl) (by rfl) ?_
    refine Li.ev (some 94) (Ev.move rfl (by rfl)) (by rfl) (by rfl) ?_
    refine Li.ev (some 95) (Ev.move rfl (by rfl)) (by rfl) (by rfl) ?_
    refine Li.does (some 96) (Does.callV [0, 1, 2, 3] rfl (by rfl) (enc1_fnv x (by omega)) (by rfl) (by rfl) (by rfl)) (by rfl) (by rfl) ?_
    rintro ⟨a5, c5⟩ -
    skip
    refine Li.does (some 97) (Does.appB 1 rfl (by rfl) (by rfl) (by rfl) (ReadsIn.row 0 (by rfl)) (by omega)) (by rfl) (by rfl) ?_
    rw [hxB]
    rintro ⟨q, qq⟩ -
    refine Li.ev (some 10) (Ev.assign rfl (by rfl)) (by rfl) (by rfl) ?_
    refine Li.nil ?_
    refine Cd.region ?_
    refine Ls.qE 98 (Ev.addN (b := 1) rfl (by rfl) (by rfl) (by omega)) ?_
    refine Ls.qM 89 ?_
    refine Ls.nil ?_
    refine Ent.pick [1, 2, 3, 4] (by rfl) ?_
    refine Ent.inv ((k2 + 1, (q, qq))) ?_ ?_ ?_
    · (try dsimp only); exact ⟨hlt, by omega⟩
    · (repeat (first | exact trivial | refine ⟨by rfl, ?_⟩ | refine ⟨by simp only [List.length_append, List.length_cons, List.length_nil]; rfl, ?_⟩ | refine ⟨by push_cast; rfl, ?_⟩))
    · rfl
  skip
  have hge2 : dr.length ≤ k2 := by have := of_decide_eq_false h4; omega
  rw [List.take_of_length_le hge2] at hYe
  refine Cd.exit ?_
  refine Cd.seq ?_
  refine Cd.draw [] (by kernel_rfl) ?_
  refine Rg.qE 0 99 (by rfl) (Ev.move rfl (by rfl)) ?_
  refine Rg.qE 1 100 (by rfl) (Ev.move rfl (by rfl)) ?_
  refine Rg.qE 2 101 (by rfl) (Ev.fieldAddr (k := 2) rfl (by rfl) (by kernel_rfl) (by rfl)) ?_
  refine Rg.qE 3 102 (by rfl) (Ev.load 1 rfl (by rfl) (by rfl) (by kernel_rfl) (by rfl)) ?_
  refine Rg.qE 5 104 (by rfl) (Ev.move rfl (by rfl)) ?_
  refine Rg.qE 6 105 (by rfl) (Ev.fieldAddr (k := 3) rfl (by rfl) (by kernel_rfl) (by rfl)) ?_
  refine Rg.qE 7 106 (by rfl) (Ev.load 1 rfl (by rfl) (by rfl) (by kernel_rfl) (by rfl)) ?_
  refine Rg.qE 9 108 (by rfl) (Ev.move rfl (by rfl)) ?_
  refine Rg.qE 10 109 (by rfl) (Ev.fieldAddr (k := 4) rfl (by rfl) (by kernel_rfl) (by rfl)) ?_
  refine Rg.qE 11 110 (by rfl) (Ev.load 1 rfl (by rfl) (by rfl) (by kernel_rfl) (by rfl)) ?_
  refine Rg.does 4 (by rfl) (by kernel_rfl) (Does.callV [0, 1, 2, 3] rfl (by rfl) (enc1_fnv nx hnx) (by rfl) (by rfl) (by rfl)) (by rfl) (some 103) (by rfl) (fun _ _ h => h.tail_) ?_
  rintro ⟨b1, d1⟩ -
  skip
  refine Rg.does 8 (by rfl) (by kernel_rfl) (Does.callV [0, 1, 2, 3, 4] rfl (by rfl) (enc1_fnv lg hlg) (by rfl) (by rfl) (by rfl)) (by rfl) (some 107) (by rfl) (fun _ _ h => h.tail_) ?_
  rintro ⟨b2, d2⟩ -
  skip
  refine Rg.does 12 (by rfl) (by kernel_rfl) (Does.callV [0, 1, 2, 3, 4, 5] rfl (by rfl) (enc1_fnv sq hsq) (by rfl) (by rfl) (by rfl)) (by rfl) (some 111) (by rfl) (fun _ _ h => h.tail_) ?_
  rintro ⟨b3, d3⟩ -
  refine Rg.does 13 (by rfl) (by kernel_rfl) (Does.lit (sz := 1) rfl (by rfl) Tryz.underlying48 (by kernel_rfl) (by rfl) (by kernel_rfl)) (by rfl) (some 112) (by rfl) (fun _ _ h => h.tail_) ?_
  intro g2 _
  obtain ⟨ls, hls⟩ : ∃ ls : List Bs, ls = [⟨zA, zc, Y⟩, ⟨b1, d1, uintL nx.toNat⟩, ⟨b2, d2, uintL lg.toNat⟩, ⟨b3, d3, uintL sq.toNat⟩] := ⟨_, rfl⟩
  have hcat : catB ls = edB ⟨ad, dr, nx, lg, sq⟩ := by rw [hls, hYe, hX]; simp [catB, edB]
  have hcl : (edB ⟨ad, dr, nx, lg, sq⟩).length ≤ 100000000000 := by
    rw [← hcat, hls]
    simp only [catB, List.flatMap_cons, List.flatMap_nil, List.length_append, List.length_nil]
    omega
  rw [hls] at hcat
  refine Rg.does 14 (by rfl) (by kernel_rfl) (Does.readN rfl Tryz.func93 (by kernel_rfl) (by kernel_rfl) (concat_sl (some ⟨g2, 0, none⟩) 4 [⟨zA, zc, Y⟩, ⟨b1, d1, uintL nx.toNat⟩, ⟨b2, d2, uintL lg.toNat⟩, ⟨b3, d3, uintL sq.toNat⟩] (by simp) (by rw [hcat]; omega)) (by rfl) (by rfl) ⟨ReadsIn.row 0 (by rfl), starsB _ ⟨ReadsIn.row 4 (by rfl), ReadsIn.row 3 (by rfl), ReadsIn.row 2 (by rfl), ReadsIn.row 1 (by rfl), trivial⟩, trivial⟩ (fun _ => by rfl)) (by rfl) (some 113) (by rfl) (fun _ _ h => h.tail_) ?_
  rw [hcat]
  rintro ⟨q, qq⟩ -
  refine Rg.qE 15 10 (by rfl) (Ev.assign rfl (by rfl)) ?_
  refine Rg.done (by kernel_rfl) ?_ _
  refine Cd.seq ?_
  refine Cd.seq ?_
  refine Cd.region ?_
  refine Ls.qM 114 ?_
  refine Ls.qE 115 (Ev.len rfl (by rfl) Tryz.underlying47) ?_
  refine Ls.qE 116 (Ev.gtr rfl (by rfl) (by rfl)) ?_
  refine Ls.nil ?_
  unfold encR encP
  by_cases hlong : 4096 < (edB ⟨ad, dr, nx, lg, sq⟩).length
  · skip
    refine Cd.cond_true (by rfl) (decide_eq_true (show (4096 : Int) < ((edB ⟨ad, dr, nx, lg, sq⟩).length : Int) by omega)) ?_
    refine Cd.seq ?_
    refine Cd.region ?_
    refine Ls.qA 2 ?_
    refine Ls.qA 3 ?_
    refine Ls.nil ?_
    refine Cd.ret ?_
    refine Ent.ret ((q, qq)) (trivial) (Res.tmp2 (by rfl) (by rfl) (by rfl)) ?_ [] (by rfl) ?_
    · rw [if_pos hlong]
      try rfl
    · rw [if_pos hlong]
      try rfl
  · skip
    refine Cd.cond_false (by rfl) (decide_eq_false (show ¬ ((4096 : Int) < ((edB ⟨ad, dr, nx, lg, sq⟩).length : Int)) by omega)) ?_
    refine Cd.skip ?_
    refine Cd.seq ?_
    refine Cd.region ?_
    refine Ls.qM 117 ?_
    refine Ls.qA 2 ?_
    refine Ls.qA 3 ?_
    refine Ls.nil ?_
    refine Cd.ret ?_
    refine Ent.ret ((q, qq)) (trivial) (Res.tmp2 (by rfl) (by rfl) (by rfl)) ?_ [0] (by rfl) ?_
    · rw [if_neg hlong]
      try rfl
    · rw [if_neg hlong]
      try rfl
end Go.Proofs.YtacbkganjkipdaaGreatDoor
/- the document's Encode -/
namespace Go.Proofs.YtacbkganjkipdaaGreatDoor
open Go.RowKit
end Go.Proofs.YtacbkganjkipdaaGreatDoor
/- the version; its bytes -/
namespace Go.Proofs.YtacbkganjkipdaaGreatDoor
open Go.RowKit
theorem mversion_sl (g d : Nat) (A : Option Addr) (c : Nat) (m : MfP) (hl : m.v.tbs.length ≤ 1000000000) : Fn Tryz.prog 17 #[ptrV g] [rmfB g d A c m, rdT A m.v.tbs] (Option Addr × Nat) (fun q => .agg (m.v.val q.1 q.2).toArray) (fun q => [rowTb q.1 m.v.tbs.length q.2 m.v.tbs]) (fun _ => True) := by
  refine Fn.enter Tryz.func17 rfl Tryz.ntmps17 (by rfl) ?_
  intro w0
  skip
  refine Cd.seq ?_
  refine Cd.region ?_
  refine Ls.does (some 2) (Does.alloc (cs := [.slice none 0 0, .int .i64 0, .int .i64 0, .int .i64 0]) rfl (ZeroIs.mk (.agg #[.slice none 0 0, .int .i64 0, .int .i64 0, .int .i64 0]) (by kernel_rfl) (by rfl))) (by rfl) (by rfl) ?_
  intro g1 _
  refine Ls.nil ?_
  refine Cd.seq ?_
  refine Cd.region ?_
  refine Ls.qM 4 ?_
  refine Ls.qE 5 (Ev.nilCheck rfl (by rfl)) ?_
  refine Ls.qF 6 1 ?_
  refine Ls.qE 7 (Ev.loadsB 1 rfl (by rfl) (by rfl) (n := 4) (by kernel_rfl) (by rfl) (by rfl)) ?_
  refine Ls.does (some 3) (Does.alloc (cs := [.slice none 0 0, .int .i64 0, .int .i64 0, .int .i64 0]) rfl (ZeroIs.mk (.agg #[.slice none 0 0, .int .i64 0, .int .i64 0, .int .i64 0]) (by kernel_rfl) (by rfl))) (by rfl) (by rfl) ?_
  intro g2 _
  refine Ls.qD (Does.store 0 rfl (by rfl) (by rfl) (by rfl) (by kernel_rfl) (by rfl) (by kernel_rfl) (by rfl)) ?_
  intro _ _
  refine Ls.nil ?_
  refine Cd.seq ?_
  refine Cd.region ?_
  refine Ls.qF 8 0 ?_
  refine Ls.qL 9 0 ?_
  refine Ls.does (some 10) (Does.readN rfl Tryz.func35 (by kernel_rfl) (by kernel_rfl) (cloneT_sl A c m.v.tbs hl) (by rfl) (by rfl) ⟨ReadsIn.rd 3 (by rfl), trivial⟩ (fun _ => by rfl)) (by rfl) (by rfl) ?_
  rintro ⟨qA, qc⟩ -
  refine Ls.qF 11 0 ?_
  refine Ls.qD (Does.store 1 rfl (by rfl) (by rfl) (by rfl) (by kernel_rfl) (by rfl) (by kernel_rfl) (by rfl)) ?_
  intro _ _
  refine Ls.nil ?_
  refine Cd.seq ?_
  refine Cd.region ?_
  refine Ls.qE 12 (Ev.loads 1 rfl (by rfl) (by rfl) (n := 4) (by kernel_rfl) (by rfl) (by rfl)) ?_
  refine Ls.qD (Does.store 2 rfl (by rfl) (by rfl) (by rfl) (by kernel_rfl) (by rfl) (by kernel_rfl) (by rfl)) ?_
  intro _ _
  refine Ls.nil ?_
  refine Cd.ret ?_
  refine Ent.ret ((qA, qc)) (trivial) (Res.cell 2 (by rfl) (by rfl) (by rfl) (n := 4) (by kernel_rfl) (by rfl) (by rfl)) ?_ [0] (by rfl) ?_
  · rfl
  · rfl
/-- An edit as it lies, nothing dropped. -/
structure EdX where
  A : Option Addr
  c : Nat
  e : EdP
  deriving Inhabited
abbrev EdX.enc (x : EdX) : List Value := x.e.val x.A x.c none 0
abbrev EdX.R (x : EdX) : Chunk := rowTb x.A x.e.add.length x.c x.e.add
abbrev edW (A : Option Addr) (c : Nat) (X : List EdX) : Chunk := row A X.length c 27 5 (X.flatMap EdX.enc)
theorem elem_ed : Elem Tryz.prog 159 27 5 72 := elem_of (by kernel_rfl)
theorem one_ed (X : List EdX) : ∀ u ∈ X.flatMap EdX.enc, u.oneCell' = true := fun u hu => by
  obtain ⟨x, _, hu⟩ := List.mem_flatMap.1 hu
  simp only [List.mem_cons, List.not_mem_nil, or_false] at hu
  rcases hu with rfl | rfl | rfl | rfl | rfl <;> rfl
theorem Sat.rdNilI {Γ : Ctx} {H : List Chunk} {w : World} (h : Sat Γ H w) : Sat Γ (rd none 0 1 (ints []) :: H) w :=
  h.free rfl (fun k hk => absurd hk.1 (Nat.lt_irrefl 0)) ⟨rfl, fun hn => absurd hn (Nat.lt_irrefl 0)⟩
def oneE (t : TbP) : EdP := ⟨[t], [], 0, 0, 0⟩
theorem snap_enc {v : VsP} (hv : goodP v) {e : EdP} (he : e ∈ snapE v) : EncOk e ∧ e.drop = [] ∧ (edB e).length ≤ 4096 := by
  have q1 := hv.1.nx
  have q2 := hv.1.lg
  have q3 := hv.1.sq
  unfold snapE at he
  rcases List.mem_cons.1 he with rfl | he
  · refine ⟨⟨fun t h => absurd h List.not_mem_nil, fun n h => absurd h List.not_mem_nil, by dsimp only; omega, by dsimp only; omega, by dsimp only; omega, Nat.zero_le _, Nat.zero_le _⟩, rfl, ?_⟩
    have h1 := uintL_len64 (n := 0) (by decide)
    have h3 := uintL_len64 (n := v.nx.toNat) (by omega)
    have h4 := uintL_len64 (n := v.lg.toNat) (by omega)
    have h5 := uintL_len64 (n := v.sq.toNat) (by omega)
    unfold edB
    simp only [List.length_append, List.flatMap_nil, List.length_nil]
    omega
  · obtain ⟨t, ht, rfl⟩ := List.mem_map.1 he
    have hk := (hv.tab t ht).tab
    refine ⟨⟨fun u h => by rw [List.mem_singleton.1 h]; exact hk, fun n h => absurd h List.not_mem_nil, by dsimp only; omega, by dsimp only; omega, by dsimp only; omega, by dsimp only [List.length_cons, List.length_nil]; omega, Nat.zero_le _⟩, rfl, ?_⟩
    have h1 := uintL_len64 (n := 0) (by decide)
    have h2 := uintL_len64 (n := 0 + 1) (by decide)
    have h3 := tabB_le hk
    unfold edB
    simp only [List.length_append, List.flatMap_nil, List.flatMap_cons, List.length_nil, List.length_cons]
    have e0 : (0 : Int).toNat = 0 := rfl
    rw [e0]
    omega
theorem encode_yes {e : EdP} (h : EncOk e) (hs : (edB e).length ≤ 4096) (B D : Option Addr) (b d : Nat) : Fn Tryz.prog 48 #[.agg (e.val B b D d).toArray] [rdT B e.add, rd D e.drop.length 1 (ints e.drop)] (Option Addr × Nat) (fun p => .tuple #[.slice p.1 (edB e).length p.2, .int .i64 0]) (fun p => [rowB p.1 p.2 (edB e)]) (fun _ => True) :=
  (encode_sl e h B D b d).turn fun i _ => ⟨i, trivial, by unfold encR; rw [if_neg (by omega)], fun Γ w hw => by unfold encP at hw; rw [if_neg (by omega)] at hw; exact hw⟩
theorem encode_no {e : EdP} (h : EncOk e) (hs : 4096 < (edB e).length) (B D : Option Addr) (b d : Nat) : Fn Tryz.prog 48 #[.agg (e.val B b D d).toArray] [rdT B e.add, rd D e.drop.length 1 (ints e.drop)] Unit (fun _ => .tuple #[.slice none 0 0, .int .i64 3]) (fun _ => []) (fun _ => True) :=
  (encode_sl e h B D b d).turn fun i _ => ⟨(), trivial, by unfold encR; rw [if_pos hs], fun Γ w hw => by unfold encP at hw; rw [if_pos hs] at hw; exact hw⟩
theorem sealL_le {l : List UInt8} (h : l.length ≤ 4096) : (sealL l).length ≤ 4110 := sealL_len l h
set_option maxHeartbeats 2000000 in
theorem msnap_sl (v : VsP) (hv : goodP v) (A : Option Addr) (c : Nat) : Fn Tryz.prog 57 #[.agg (v.val A c).toArray] [rdT A v.tbs] (Option Addr × Nat) (fun q => .slice q.1 (snapB v).length q.2) (fun q => [rowB q.1 q.2 (snapB v)]) (fun _ => True) := by
  have hfew := good_few hv
  have hen := fun e => snap_enc hv (e := e)
  have hsl : (snapE v).length ≤ 1000001 := by
    unfold snapE
    rw [List.length_cons, List.length_map]
    omega
  refine Fn.enter Tryz.func57 rfl Tryz.ntmps57 (by rfl) ?_
  intro w0
  skip
  refine Cd.seq ?_
  refine Cd.region ?_
  refine Ls.does (some 1) (Does.box rfl (by rfl)) (by rfl) (by rfl) ?_
  intro g1 _
  refine Ls.qA 2 ?_
  refine Ls.nil ?_
  refine Cd.seq ?_
  refine Cd.region ?_
  refine Ls.qF 13 1 ?_
  refine Ls.qL 14 0 ?_
  refine Ls.qF 15 2 ?_
  refine Ls.qL 16 0 ?_
  refine Ls.qF 17 3 ?_
  refine Ls.qL 18 0 ?_
  refine Ls.qE 19 (Ev.buildP (pl := [(0, 1), (1, 1), (2, 1), (3, 1), (4, 1)]) (zs := [.slice none 0 0, .slice none 0 0, .int .i64 0, .int .i64 0, .int .i64 0]) rfl (by rfl) (by kernel_rfl) (by rfl)) ?_
  refine Ls.does (some 20) (Does.lit (sz := 5) rfl (by rfl) Tryz.underlying159 (by kernel_rfl) (by rfl) (by kernel_rfl)) (by rfl) (by rfl) ?_
  intro g2 _
  refine Ls.qA 3 ?_
  refine Ls.nil ?_
  refine Cd.seq ?_
  refine Cd.seq ?_
  refine Cd.region ?_
  refine Ls.qF 21 0 ?_
  refine Ls.qL 22 1 ?_
  refine Ls.qE 23 (Ev.len rfl (by rfl) Tryz.underlying22) ?_
  refine Ls.qM 24 ?_
  refine Ls.nil ?_
  refine Cd.block ?_
  refine Ent.map (fun w hs => hs.starx_nil) ?_
  refine Ent.nil 42 4 ?_
  refine Ent.map (fun w hs => hs.starx_add rfl) ?_
  refine Ent.pick [1, 0, 2, 3] (by rfl) ?_
  obtain ⟨x0, hx0⟩ : ∃ x0 : EdX, x0 = ⟨none, 0, ⟨[], [], v.nx, v.lg, v.sq⟩⟩ := ⟨_, rfl⟩
  refine Ent.norm ([(1, .pointer (some ⟨g1, 0, none⟩)), (3, .slice (some ⟨g2, 0, none⟩) [x0].length 1), (22, .slice A v.tbs.length c), (23, .int .i64 v.tbs.length), (24, .int .i64 (0 : Nat))]) ([edW (some ⟨g2, 0, none⟩) 1 [x0], starx ([x0].map EdX.R), blk g1 24 (v.val A c), rdT A v.tbs]) (by repeat (first | exact trivial | refine ⟨by rfl, ?_⟩ | refine ⟨by simp only [List.length_append, List.length_cons, List.length_nil]; rfl, ?_⟩ | refine ⟨by push_cast; rfl, ?_⟩)) (by (subst hx0; rfl)) ?_
  refine Cd.loop (ι := Nat × (Option Addr × Nat) × List EdX) (fun p => [(1, .pointer (some ⟨g1, 0, none⟩)), (3, .slice p.2.1.1 p.2.2.length p.2.1.2), (22, .slice A v.tbs.length c), (23, .int .i64 v.tbs.length), (24, .int .i64 p.1)]) (fun p => [edW p.2.1.1 p.2.1.2 p.2.2, starx (p.2.2.map EdX.R), blk g1 24 (v.val A c), rdT A v.tbs]) (fun p => p.1 ≤ v.tbs.length ∧ p.2.2.map EdX.e = ⟨[], [], v.nx, v.lg, v.sq⟩ :: (v.tbs.take p.1).map oneE) (fun p => v.tbs.length - p.1) ((0, (some ⟨g2, 0, none⟩, 1), [x0])) (⟨Nat.zero_le _, by rw [hx0]; rfl⟩) ?_ rfl ?_
  · (repeat (first | exact trivial | refine ⟨by rfl, ?_⟩))
  rintro ⟨k, ⟨wA, wc⟩, X⟩ ⟨hk, hX⟩
  dsimp only at hk hX ⊢
  have hXl : X.length = k + 1 := by
    have := congrArg List.length hX
    rw [List.length_map, List.length_cons, List.length_map, List.length_take] at this
    omega
  refine Cd.seq ?_
  refine Cd.region ?_
  refine Ls.qE 25 (Ev.lss rfl (by rfl) (by rfl)) ?_
  refine Ls.nil ?_
  refine Cd.seq ?_
  refine Cd.cond _ (by rfl) (fun h2 => ?_) (fun h2 => ?_)
  · skip
    have hlt : k < v.tbs.length := by have := of_decide_eq_true h2; omega
    obtain ⟨t, ht⟩ := get_of_lt hlt
    refine Ent.rdSome 3 (by rfl) (by omega) (fun ad had => ?_)
    subst had
    refine Cd.skip ?_
    refine Cd.seq ?_
    refine Cd.block ?_
    refine Cd.seq ?_
    refine Cd.region ?_
    refine Ls.qE 26 (Ev.indexAt (sz := 4) rfl (by rfl) (by rfl) Tryz.underlying22 (by kernel_rfl) (by omega)) ?_
    refine Ls.qE 27 (Ev.loadEl (enc := TbP.enc) (sz := 4) rfl (by rfl) (ReadsIn.rd 3 (by rfl)) (by kernel_rfl) (fun _ => rfl) ht) ?_
    refine Ls.does (some 5) (Does.alloc (cs := [.int .i64 0, .int .i64 0, .string ⟨#[]⟩, .string ⟨#[]⟩]) rfl (ZeroIs.mk (.agg #[.int .i64 0, .int .i64 0, .string ⟨#[]⟩, .string ⟨#[]⟩]) (by kernel_rfl) (by rfl))) (by rfl) (by rfl) ?_
    intro g3 _
    refine Ls.qD (Does.store 0 rfl (by rfl) (by rfl) (by rfl) (by kernel_rfl) (by rfl) (by kernel_rfl) (by rfl)) ?_
    intro _ _
    refine Ls.nil ?_
    refine Cd.region ?_
    refine Ls.qM 28 ?_
    refine Ls.qE 29 (Ev.loads 0 rfl (by rfl) (by rfl) (n := 4) (by kernel_rfl) (by rfl) (by rfl)) ?_
    refine Ls.does (some 30) (Does.lit (sz := 4) rfl (by rfl) Tryz.underlying22 (by kernel_rfl) (by rfl) (by kernel_rfl)) (by rfl) (by rfl) ?_
    intro g4 _
    refine Ls.qE 31 (Ev.buildP (pl := [(0, 1), (1, 1), (2, 1), (3, 1), (4, 1)]) (zs := [.slice none 0 0, .slice none 0 0, .int .i64 0, .int .i64 0, .int .i64 0]) rfl (by rfl) (by kernel_rfl) (by rfl)) ?_
    refine Ls.does (some 32) (Does.lit (sz := 5) rfl (by rfl) Tryz.underlying159 (by kernel_rfl) (by rfl) (by kernel_rfl)) (by rfl) (by rfl) ?_
    intro g5 _
    obtain ⟨x, hx⟩ : ∃ x : EdX, x = ⟨some ⟨g4, 0, none⟩, 1, oneE t⟩ := ⟨_, rfl⟩
    refine Ls.does (some 33) (Does.app (xs := X.flatMap EdX.enc) (news := EdX.enc ⟨some ⟨g4, 0, none⟩, 1, oneE t⟩) 3 rfl (by rfl) (by rfl) (by rfl) (ReadsIn.row 0 (by rfl)) elem_ed (by simpa using one_ed [⟨some ⟨g4, 0, none⟩, 1, oneE t⟩]) (show (X.length + 1) * 72 ≤ 140737488355328 by omega)) (by rfl) (by rfl) ?_
    rintro ⟨qA, qc⟩ -
    refine Ls.qA 3 ?_
    refine Ls.nil ?_
    refine Cd.region ?_
    refine Ls.qE 34 (Ev.addN (b := 1) rfl (by rfl) (by rfl) (by omega)) ?_
    refine Ls.qM 24 ?_
    refine Ls.nil ?_
    refine Ent.pick [1, 4, 3, 5, 6] (by rfl) ?_
    refine Ent.map (fun w hs => hs.starx_add rfl) ?_
    refine Ent.pick [1, 0, 2, 3] (by rfl) ?_
    refine Ent.inv ((k + 1, (qA, qc), X ++ [x])) ?_ ?_ ?_
    · (try dsimp only); exact ⟨⟨hlt, by rw [List.map_append, hX, List.take_add_one, ht, hx]; simp⟩, by omega⟩
    · (repeat (first | exact trivial | refine ⟨by rfl, ?_⟩ | refine ⟨by simp only [List.length_append, List.length_cons, List.length_nil]; rfl, ?_⟩ | refine ⟨by push_cast; rfl, ?_⟩ | refine ⟨by (show some (Value.slice _ _ _) = some (Value.slice _ _ _); rw [List.length_append]; rfl), ?_⟩))
    · (show [_, _, _, _] = [_, _, _, _]; dsimp only [edW]; rw [List.length_append, List.flatMap_append, List.map_append, hx]; rfl)
  skip
  have hge : v.tbs.length ≤ k := by have := of_decide_eq_false h2; omega
  rw [List.take_of_length_le hge] at hX
  have hXe : X.map EdX.e = snapE v := hX
  have hmemX : ∀ x ∈ X, EncOk x.e ∧ x.e.drop = [] ∧ (edB x.e).length ≤ 4096 := fun x hx => hen x.e (by rw [← hXe]; exact List.mem_map_of_mem hx)
  have hcat : snapB v = (X.map EdX.e).flatMap fun e => sealL (edB e) := by rw [hXe]; rfl
  have hpre : ∀ k, (((X.take k).map EdX.e).flatMap fun e => sealL (edB e)).length ≤ X.length * 4110 := fun k => by
    have h1 := flat_le (g := fun e => sealL (edB e)) (b := 4110) (l := (X.take k).map EdX.e) (fun e he => by
      obtain ⟨x, hx, rfl⟩ := List.mem_map.1 he
      exact sealL_le (hmemX x (List.mem_of_mem_take hx)).2.2)
    have h2 : ((X.take k).map EdX.e).length * 4110 ≤ X.length * 4110 := Nat.mul_le_mul_right _ (by rw [List.length_map, List.length_take]; omega)
    exact Nat.le_trans h1 h2
  have hX1 : X.length ≤ 1000001 := by omega
  clear hX hen hk hge h2 hXl hsl hXe
  rw [hcat]
  refine Cd.exit ?_
  refine Cd.seq ?_
  refine Cd.region ?_
  refine Ls.qA 6 ?_
  refine Ls.nil ?_
  refine Cd.seq ?_
  refine Cd.seq ?_
  refine Cd.region ?_
  refine Ls.qM 35 ?_
  refine Ls.qE 36 (Ev.len rfl (by rfl) Tryz.underlying159) ?_
  refine Ls.qM 37 ?_
  refine Ls.nil ?_
  refine Cd.block ?_
  refine Ent.nil 5 1 ?_
  refine Ent.see 1 (by rfl) ?_
  refine Ent.pick [2, 1, 0] (by rfl) ?_
  refine Ent.map (fun w hs => Sat.starx_see (g := fun x : EdX => rdT x.A x.e.add) (fun _ => rfl) (fun _ w hw => row_rd.1 w hw) (fun _ k hk => row_rd.2 k hk) hs) ?_
  refine Ent.pick [2, 1, 0] (by rfl) ?_
  refine Ent.norm ([(6, .slice none (((X.take 0).map EdX.e).flatMap fun e => sealL (edB e)).length 0), (35, .slice wA X.length wc), (36, .int .i64 X.length), (37, .int .i64 (0 : Nat))]) ([rowB none 0 (((X.take 0).map EdX.e).flatMap fun e => sealL (edB e)), rd wA X.length 5 (X.flatMap EdX.enc), stars (X.map fun x : EdX => rdT x.A x.e.add)]) (by repeat (first | exact trivial | refine ⟨by rfl, ?_⟩ | refine ⟨by simp only [List.length_append, List.length_cons, List.length_nil]; rfl, ?_⟩ | refine ⟨by push_cast; rfl, ?_⟩)) (by rfl) ?_
  refine Cd.loop (ι := Nat × (Option Addr × Nat)) (fun p => [(6, .slice p.2.1 (((X.take p.1).map EdX.e).flatMap fun e => sealL (edB e)).length p.2.2), (35, .slice wA X.length wc), (36, .int .i64 X.length), (37, .int .i64 p.1)]) (fun p => [rowB p.2.1 p.2.2 (((X.take p.1).map EdX.e).flatMap fun e => sealL (edB e)), rd wA X.length 5 (X.flatMap EdX.enc), stars (X.map fun x : EdX => rdT x.A x.e.add)]) (fun p => p.1 ≤ X.length) (fun p => X.length - p.1) ((0, (none, 0))) (Nat.zero_le _) ?_ rfl ?_
  · (repeat (first | exact trivial | refine ⟨by rfl, ?_⟩))
  rintro ⟨j, ⟨oA, oc⟩⟩ hj
  dsimp only at hj ⊢
  have hpj := hpre j
  obtain ⟨O, hO⟩ : ∃ O, O = ((X.take j).map EdX.e).flatMap fun e => sealL (edB e) := ⟨_, rfl⟩
  rw [← hO] at hpj ⊢
  refine Cd.seq ?_
  refine Cd.region ?_
  refine Ls.qE 38 (Ev.lss rfl (by rfl) (by rfl)) ?_
  refine Ls.nil ?_
  refine Cd.seq ?_
  refine Cd.cond _ (by rfl) (fun h3 => ?_) (fun h3 => ?_)
  · skip
    have hlt : j < X.length := by have := of_decide_eq_true h3; omega
    obtain ⟨x, hx⟩ := get_of_lt hlt
    have hxm := List.mem_of_getElem? hx
    obtain ⟨y1, y2, y3⟩ := hmemX x hxm
    have hOx : O ++ sealL (edB x.e) = ((X.take (j + 1)).map EdX.e).flatMap fun e => sealL (edB e) := by
      rw [hO, List.take_add_one, hx]
      simp
    have c1 := encode_yes y1 y3 x.A none x.c 0
    rw [y2] at c1
    have hsx := sealL_le y3
    refine Ent.rdSome 1 (by rfl) (by omega) (fun ad had => ?_)
    subst had
    refine Cd.skip ?_
    refine Cd.seq ?_
    refine Cd.block ?_
    refine Cd.seq ?_
    refine Cd.region ?_
    refine Ls.qE 39 (Ev.indexAt (sz := 5) rfl (by rfl) (by rfl) Tryz.underlying159 (by kernel_rfl) (by omega)) ?_
    refine Ls.qE 40 (Ev.loadEl (enc := EdX.enc) (sz := 5) rfl (by rfl) (ReadsIn.rd 1 (by rfl)) (by kernel_rfl) (fun _ => rfl) hx) ?_
    refine Ent.map (fun w hs => hs.stars_get (i := 2) (C := rdT x.A x.e.add) rfl (List.mem_map_of_mem (f := fun x : EdX => rdT x.A x.e.add) hxm)) ?_
    refine Ent.map (fun w hs => hs.rdNilI) ?_
    refine Ls.does (some 8) (Does.alloc (cs := [.slice none 0 0, .slice none 0 0, .int .i64 0, .int .i64 0, .int .i64 0]) rfl (ZeroIs.mk (.agg #[.slice none 0 0, .slice none 0 0, .int .i64 0, .int .i64 0, .int .i64 0]) (by kernel_rfl) (by rfl))) (by rfl) (by rfl) ?_
    intro g3 _
    refine Ls.qD (Does.store 0 rfl (by rfl) (by rfl) (by rfl) (by kernel_rfl) (by rfl) (by kernel_rfl) (by rfl)) ?_
    intro _ _
    refine Ls.nil ?_
    refine Cd.seq ?_
    refine Cd.region ?_
    refine Ls.qE 42 (Ev.loads 0 rfl (by rfl) (by rfl) (n := 5) (by kernel_rfl) (by rfl) (by rfl)) ?_
    refine Ls.does (some 43) (Does.readN rfl Tryz.func48 (by kernel_rfl) (by kernel_rfl) (c1) (by rfl) (by rfl) ⟨ReadsIn.rd 2 (by rfl), ReadsIn.rd 1 (by rfl), trivial⟩ (fun _ => by rfl)) (by rfl) (by rfl) ?_
    rintro ⟨eA, ec⟩ -
    refine Ent.see 0 (by rfl) ?_
    refine Ls.qM 41 ?_
    refine Ls.qE 44 (Ev.extract rfl (by rfl) (by rfl)) ?_
    refine Ls.qE 45 (Ev.extract rfl (by rfl) (by rfl)) ?_
    refine Ls.qA 9 ?_
    refine Ls.qA 10 ?_
    refine Ls.nil ?_
    refine Cd.seq ?_
    refine Cd.region ?_
    refine Ls.qM 47 ?_
    refine Ls.does (some 48) (Does.readN rfl Tryz.func50 (by kernel_rfl) (by kernel_rfl) (seal_sl eA ec (edB x.e) y3) (by rfl) (by rfl) ⟨ReadsIn.rd 0 (by rfl), trivial⟩ (fun _ => by rfl)) (by rfl) (by rfl) ?_
    rintro ⟨sA, sc⟩ -
    refine Ls.qM 46 ?_
    refine Ls.qE 49 (Ev.extract rfl (by rfl) (by rfl)) ?_
    refine Ls.qE 50 (Ev.extract rfl (by rfl) (by rfl)) ?_
    refine Ls.qA 11 ?_
    refine Ls.qA 12 ?_
    refine Ls.nil ?_
    refine Cd.region ?_
    refine Ls.qM 51 ?_
    refine Ls.qM 52 ?_
    refine Ls.does (some 53) (Does.appB 5 rfl (by rfl) (by rfl) (by rfl) (ReadsIn.row 0 (by rfl)) (by omega)) (by rfl) (by rfl) ?_
    rw [hOx]
    rintro ⟨q, qq⟩ -
    refine Ls.qA 6 ?_
    refine Ls.nil ?_
    refine Cd.region ?_
    refine Ls.qE 54 (Ev.addN (b := 1) rfl (by rfl) (by rfl) (by omega)) ?_
    refine Ls.qM 37 ?_
    refine Ls.nil ?_
    refine Ent.pick [5, 6, 7] (by rfl) ?_
    refine Ent.inv ((j + 1, (q, qq))) ?_ ?_ ?_
    · (try dsimp only); exact ⟨hlt, by omega⟩
    · (repeat (first | exact trivial | refine ⟨by rfl, ?_⟩ | refine ⟨by simp only [List.length_append, List.length_cons, List.length_nil]; rfl, ?_⟩ | refine ⟨by push_cast; rfl, ?_⟩))
    · rfl
  · skip
    have hge : X.length ≤ j := by have := of_decide_eq_false h3; omega
    rw [List.take_of_length_le hge] at hO
    refine Cd.exit ?_
    refine Cd.seq ?_
    refine Cd.region ?_
    refine Ls.qM 55 ?_
    refine Ls.qA 2 ?_
    refine Ls.nil ?_
    rw [← hO]
    refine Cd.ret ?_
    refine Ent.ret ((oA, oc)) (trivial) (Res.tmp (by rfl) (by rfl)) ?_ [0] (by rfl) ?_
    · rfl
    · rfl
end Go.Proofs.YtacbkganjkipdaaGreatDoor
/- drives: a file renamed -/
namespace Go.Proofs.YtacbkganjkipdaaGreatDoor
open Go.RowKit
section
variable {P : Program} {w : World} {k e t : TypeId} {b : Nat} {z : Value} {ks : List (List UInt8)} {f : List UInt8 → Value}
theorem MapT.set_ (h : MapT w P k b z ks f) (hk : P.underlying k = some .string) (ht : P.underlying t = some (.map k e)) (hn : ks.length < maxLen) {x : List UInt8} (hx : x.length ≤ maxLen) (hm : x ∈ ks) (v : Value) :
    ∃ w', (Instr.mapUpdate t (.map (some b)) (.string (txt x)) v).run P w = .ok () w' ∧ MapT w' P k b z ks (fun y => if y = x then v else f y) ∧ Upd (fun k => k = b) w w' := by
  obtain ⟨D, h, hnd, h2, h3⟩ := h
  have K := Maps.string_keyed hk
  have hD : Maps.IsMap D := by
    obtain ⟨es, clock, _, _, _, rfl⟩ := h
    exact ⟨_, rfl⟩
  obtain ⟨w', h4, h5, h6⟩ := h.update K ht hn (d := .held v) (ps := []) (val := v) (keyT hk hx) rfl
  have hkl := K.key (keyT hk hx)
  have hhas : ∀ y, Maps.has (D.put (.string x) (.held v)) (.string y) = decide (y ∈ ks) := fun y => by
    by_cases he : y = x
    · subst he
      rw [Maps.has_put_same hD hkl]
      simp [hm]
    · rw [Maps.has_put_other (fun h => by injection h with h; exact he h), h2 y]
  have hsz := (perm_of h5 hk hnd hhas).2
  refine ⟨w', h4, ⟨_, hsz ▸ owns_size h5, hnd, hhas, fun y hy => ?_⟩, (Upd.refl (fun k => k = b) w).grown h6 (fun k e _ => by injection e with e; exact e.symm)⟩
  by_cases he : y = x
  · subst he
    dsimp only
    rw [if_pos rfl]
    exact Maps.atKey_put_same hD hkl _ _
  · dsimp only
    rw [if_neg he, Maps.atKey_put_other (fun h => by injection h with h; exact he h)]
    exact h3 y hy
end
section
variable {Γ : Ctx} {N : Frm} {P : Program} {E : Env} {H : List Chunk} {o : Oper} {x y u : Operand} {k e t : TypeId} {b : Nat} {z : Value} {ks : List (List UInt8)} {f : List UInt8 → Value} {q : List UInt8}
theorem Does.setT (i : Nat) {v : Value} (ho : o.op = .mapUpdate t x y u) (hx : E.ev x = some (.map (some b))) (hy : E.ev y = some (.string (txt q))) (hu : E.ev u = some v) (hi : H[i]? = some (mapt P k b z ks f)) (hk : P.underlying k = some .string) (ht : P.underlying t = some (.map k e)) (hn : ks.length ≤ 1000000) (hq : q.length ≤ maxLen) :
    Does Γ N P E H o Unit (fun _ => undef) (fun _ => H.set i (mapt P k b z (if q ∈ ks then ks else ks ++ [q]) (fun y => if y = q then v else f y))) (fun _ => True) := by
  by_cases hm : q ∈ ks
  · rw [if_pos hm]
    exact .of fun ρ hρ w hs => by
      obtain ⟨w', hrun, h1, h2⟩ := MapT.set_ (hs.mem hi) hk ht (show ks.length < maxLen by unfold maxLen; omega) hq hm v
      refine ⟨(), w', trivial, hs.turn hi rfl h2 h1 (fun k hk => .inl hk), .inr ⟨rfl, ?_⟩⟩
      simp [execOp, ho, hρ x _ hx, hρ y _ hy, hρ u _ hu, hrun]
  · rw [if_neg hm]
    exact Does.putT i ho hx hy hu hi hk ht hn hq hm
end
section
variable {α : Type} {nm : α → List UInt8}
theorem putG_del {f : α} : ∀ {l : List α}, Rise nm l → putG nm f (delG nm (nm f) l) = putG nm f l
  | [], _ => rfl
  | y :: l, h => by
    have ih := putG_del (f := f) h.tail
    by_cases hy : nm y = nm f
    · have hd : delG nm (nm f) (y :: l) = delG nm (nm f) l := by
        unfold delG
        rw [List.filter_cons_of_neg (by simp [hy])]
      have hs : delG nm (nm f) l = l := List.filter_eq_self.2 fun x hx => by
        have := h.head x hx
        rw [hy] at this
        simpa using (lt_ne this).symm
      rw [hd, hs, putG, if_neg (by rw [hy]; exact List.lt_irrefl _), if_pos hy]
      cases l with
      | nil => rfl
      | cons x l =>
        have hx := h.head x List.mem_cons_self
        rw [hy] at hx
        rw [putG, if_neg (fun e => List.lt_irrefl _ (List.lt_trans hx e)), if_neg (lt_ne hx).symm]
    · have hd : delG nm (nm f) (y :: l) = y :: delG nm (nm f) l := by
        unfold delG
        rw [List.filter_cons_of_pos (by simp [hy])]
      rw [hd, putG, putG, if_neg hy, if_neg hy, ih]
      split
      · rfl
      · rename_i hlt
        have hs : delG nm (nm f) l = l := List.filter_eq_self.2 fun x hx => by
          have h1 := h.head x hx
          have h2 : nm f < nm y := ((lt_tri (nm y) (nm f)).resolve_left hlt).resolve_left hy
          simpa using (lt_ne (List.lt_trans h2 h1)).symm
        rw [hs]
theorem putG_perm {f : α} {l : List α} (h : Rise nm l) : (putG nm f l).Perm (f :: delG nm (nm f) l) := by
  rw [← putG_del h]
  exact put_perm (by rw [findG_del, if_pos rfl])
end
theorem put_keys {l : List FiS} (hl : Rise FiS.nm l) (f : FiS) : (if f.nm ∈ l.map FiS.nm then l.map FiS.nm else l.map FiS.nm ++ [f.nm]).Perm ((putG FiS.nm f l).map FiS.nm) := by
  cases hf : findF l f.nm with
  | some g =>
    obtain ⟨h1, h2⟩ := findG_some hf
    rw [if_pos (List.mem_map.2 ⟨g, h1, h2⟩)]
    obtain ⟨a, b, hD, hP⟩ := put_split hl hf
    rw [hP f rfl, hD, List.map_append, List.map_append, List.map_cons, List.map_cons, h2]
  | none =>
    rw [if_neg (not_mem_of_find hf)]
    exact List.perm_append_comm.trans (((put_perm (nm := FiS.nm) (f := f) hf).map FiS.nm).symm)
theorem fil_ren {Γ : Ctx} {H : List Chunk} {w : World} {l : List FiS} (hl : Rise FiS.nm l) {q : List UInt8} {f : FiS} (hf : findF l q = some f) (p : List UInt8) (h : Sat Γ (filX l :: H) w) : Sat Γ (filX (putG FiS.nm ⟨{ f.p with nm := p }, f.g, f.A, f.c⟩ (delG FiS.nm q l)) :: H) w := by
  obtain ⟨a, b, hD, hP⟩ := put_split hl hf
  have hq := (findG_some hf).2
  have h1 : l.Perm (f :: delG FiS.nm q l) := by
    have := putG_perm (f := f) hl
    rw [hP f hq, ← hD, hq] at this
    exact this
  have h2 := fil_perm h1 h
  have h3 : (f :: delG FiS.nm p (delG FiS.nm q l)).Sublist (f :: delG FiS.nm q l) := List.Sublist.cons_cons f List.filter_sublist
  have h4 := starx_sub (l' := (f :: delG FiS.nm p (delG FiS.nm q l)).flatMap fun f => [f.B, f.R]) (flat_sub h3) h2
  have h5 : Sat Γ (filX (⟨{ f.p with nm := p }, f.g, f.A, f.c⟩ :: delG FiS.nm p (delG FiS.nm q l)) :: H) w := h4
  exact fil_perm (putG_perm (f := (⟨{ f.p with nm := p }, f.g, f.A, f.c⟩ : FiS)) (delG_rise hl)).symm h5
section
variable {D : DrS} {P : DrP}
set_option maxHeartbeats 1000000 in
theorem rename_sl (h : Drv D P) (q p : List UInt8) (hq : Good q) (hp : Good p) (hok : (P.rename q p).1.Ok) : Fn Tryz.prog 106 #[D.ptr, .string (txt q), .string (txt p)] [D.B, D.M, D.F] DrS (fun _ => .int .i64 (P.rename q p).2) (fun D' => [D'.B, D'.M, D'.F]) (fun D' => Drv D' (P.rename q p).1 ∧ D'.d = D.d ∧ D'.m = D.m) := by
  have hl := hq.len
  have hpl := hp.len
  have hgp := good_sl p
  rw [decide_eq_true hp] at hgp
  unfold DrP.rename at hok ⊢
  rw [if_neg (show ¬ ¬ Good p from fun e => e hp)] at hok ⊢
  cases hf : P.find q with
  | none =>
    have hf2 := h.miss hf
    dsimp only
    rw [if_pos hq]
    refine Fn.enter Tryz.func106 rfl Tryz.ntmps106 (by rfl) ?_
    intro w0
    refine Cd.seq ?_
    refine Cd.region ?_
    refine Ls.qA 6 ?_
    refine Ls.nil ?_
    refine Cd.seq ?_
    refine Cd.region ?_
    refine Ls.qM 10 ?_
    refine Ls.qM 11 ?_
    refine Ls.does (some 12) (Does.read rfl Tryz.func86 (by kernel_rfl) (by kernel_rfl) (find_miss D q hq hf2) (by rfl) (by rfl) ⟨blkIn 0 (by rfl), mapIn 1 (by rfl), trivial⟩) (by rfl) (by rfl) ?_
    rintro _ -
    refine Ls.qM 9 ?_
    refine Ls.qE 13 (Ev.extract rfl (by rfl) (by rfl)) ?_
    refine Ls.qE 14 (Ev.extract rfl (by rfl) (by rfl)) ?_
    refine Ls.qA 7 ?_
    refine Ls.qA 8 ?_
    refine Ls.nil ?_
    refine Cd.seq ?_
    refine Cd.seq ?_
    refine Cd.region ?_
    refine Ls.qM 15 ?_
    refine Ls.does (some 16) (Does.read rfl Tryz.func60 (by kernel_rfl) (by kernel_rfl) (hgp) (by rfl) (by rfl) trivial) (by rfl) (by rfl) ?_
    rintro _ -
    refine Ls.qE 17 (Ev.not rfl (by rfl)) ?_
    refine Ls.nil ?_
    refine Cd.cond_false (by rfl) (rfl) ?_
    refine Cd.skip ?_
    refine Cd.seq ?_
    refine Cd.seq ?_
    refine Cd.region ?_
    refine Ls.qM 18 ?_
    refine Ls.qE 19 (Ev.eql rfl (by rfl) (by rfl)) ?_
    refine Ls.nil ?_
    refine Cd.cond_false (by rfl) (decide_eq_false (show ¬ ((4 : Int) = 0) by decide)) ?_
    refine Cd.skip ?_
    refine Cd.seq ?_
    refine Cd.seq ?_
    refine Cd.region ?_
    refine Ls.qM 22 ?_
    refine Ls.qE 23 (Ev.eql rfl (by rfl) (by rfl)) ?_
    refine Ls.nil ?_
    refine Cd.cond_false (by rfl) (decide_eq_false (show ¬ ((4 : Int) = 0) by decide)) ?_
    refine Cd.skip ?_
    refine Cd.seq ?_
    refine Cd.region ?_
    refine Ls.qM 35 ?_
    refine Ls.qA 6 ?_
    refine Ls.nil ?_
    refine Cd.ret ?_
    refine Ent.ret (D) (⟨h, rfl, rfl⟩) (Res.tmp (by rfl) (by rfl)) ?_ [0, 1, 2] (by rfl) ?_
    · rfl
    · rfl
  | some f0 =>
    obtain ⟨f, hf2, rfl⟩ := h.hit hf
    rw [hf] at hok
    by_cases hd : P.dead = true
    · dsimp only
      rw [if_pos hd]
      refine Fn.enter Tryz.func106 rfl Tryz.ntmps106 (by rfl) ?_
      intro w0
      refine Cd.seq ?_
      refine Cd.region ?_
      refine Ls.qA 6 ?_
      refine Ls.nil ?_
      refine Cd.seq ?_
      refine Cd.region ?_
      refine Ls.qM 10 ?_
      refine Ls.qM 11 ?_
      refine Ls.does (some 12) (Does.read rfl Tryz.func86 (by kernel_rfl) (by kernel_rfl) (find_hit D q hq f hf2) (by rfl) (by rfl) ⟨blkIn 0 (by rfl), mapIn 1 (by rfl), trivial⟩) (by rfl) (by rfl) ?_
      rintro _ -
      refine Ls.qM 9 ?_
      refine Ls.qE 13 (Ev.extract rfl (by rfl) (by rfl)) ?_
      refine Ls.qE 14 (Ev.extract rfl (by rfl) (by rfl)) ?_
      refine Ls.qA 7 ?_
      refine Ls.qA 8 ?_
      refine Ls.nil ?_
      refine Cd.seq ?_
      refine Cd.seq ?_
      refine Cd.region ?_
      refine Ls.qM 15 ?_
      refine Ls.does (some 16) (Does.read rfl Tryz.func60 (by kernel_rfl) (by kernel_rfl) (hgp) (by rfl) (by rfl) trivial) (by rfl) (by rfl) ?_
      rintro _ -
      refine Ls.qE 17 (Ev.not rfl (by rfl)) ?_
      refine Ls.nil ?_
      refine Cd.cond_false (by rfl) (rfl) ?_
      refine Cd.skip ?_
      refine Cd.seq ?_
      refine Cd.seq ?_
      refine Cd.region ?_
      refine Ls.qM 18 ?_
      refine Ls.qE 19 (Ev.eql rfl (by rfl) (by rfl)) ?_
      refine Ls.nil ?_
      refine Cd.cond_true (by rfl) (decide_eq_true rfl) ?_
      refine Cd.region ?_
      refine Ls.qM 20 ?_
      refine Ls.does (some 21) (Does.read rfl Tryz.func98 (by kernel_rfl) (by kernel_rfl) (step_dead h hd) (by rfl) (by rfl) ⟨blkIn 0 (by rfl), trivial⟩) (by rfl) (by rfl) ?_
      rintro _ -
      refine Ls.qA 8 ?_
      refine Ls.nil ?_
      refine Cd.seq ?_
      refine Cd.seq ?_
      refine Cd.region ?_
      refine Ls.qM 22 ?_
      refine Ls.qE 23 (Ev.eql rfl (by rfl) (by rfl)) ?_
      refine Ls.nil ?_
      refine Cd.cond_false (by rfl) (decide_eq_false (show ¬ ((6 : Int) = 0) by decide)) ?_
      refine Cd.skip ?_
      refine Cd.seq ?_
      refine Cd.region ?_
      refine Ls.qM 35 ?_
      refine Ls.qA 6 ?_
      refine Ls.nil ?_
      refine Cd.ret ?_
      refine Ent.ret (D) (⟨h, rfl, rfl⟩) (Res.tmp (by rfl) (by rfl)) ?_ [0, 1, 2] (by rfl) ?_
      · rfl
      · rfl
    · have hd : P.dead = false := by simpa using hd
      rw [hd] at hok ⊢
      dsimp only at hok ⊢
      rw [if_neg (by decide)] at hok ⊢
      have hnl : D.fs.length ≤ 256 := by rw [h.len]; exact h.ok.len
      refine Fn.enter Tryz.func106 rfl Tryz.ntmps106 (by rfl) ?_
      intro w0
      refine Cd.seq ?_
      refine Cd.region ?_
      refine Ls.qA 6 ?_
      refine Ls.nil ?_
      refine Cd.seq ?_
      refine Cd.region ?_
      refine Ls.qM 10 ?_
      refine Ls.qM 11 ?_
      refine Ls.does (some 12) (Does.read rfl Tryz.func86 (by kernel_rfl) (by kernel_rfl) (find_hit D q hq f hf2) (by rfl) (by rfl) ⟨blkIn 0 (by rfl), mapIn 1 (by rfl), trivial⟩) (by rfl) (by rfl) ?_
      rintro _ -
      refine Ls.qM 9 ?_
      refine Ls.qE 13 (Ev.extract rfl (by rfl) (by rfl)) ?_
      refine Ls.qE 14 (Ev.extract rfl (by rfl) (by rfl)) ?_
      refine Ls.qA 7 ?_
      refine Ls.qA 8 ?_
      refine Ls.nil ?_
      refine Cd.seq ?_
      refine Cd.seq ?_
      refine Cd.region ?_
      refine Ls.qM 15 ?_
      refine Ls.does (some 16) (Does.read rfl Tryz.func60 (by kernel_rfl) (by kernel_rfl) (hgp) (by rfl) (by rfl) trivial) (by rfl) (by rfl) ?_
      rintro _ -
      refine Ls.qE 17 (Ev.not rfl (by rfl)) ?_
      refine Ls.nil ?_
      refine Cd.cond_false (by rfl) (rfl) ?_
      refine Cd.skip ?_
      refine Cd.seq ?_
      refine Cd.seq ?_
      refine Cd.region ?_
      refine Ls.qM 18 ?_
      refine Ls.qE 19 (Ev.eql rfl (by rfl) (by rfl)) ?_
      refine Ls.nil ?_
      refine Cd.cond_true (by rfl) (decide_eq_true rfl) ?_
      refine Cd.region ?_
      refine Ls.qM 20 ?_
      refine Ls.does (some 21) (Does.call [0, 1, 2] rfl Tryz.func98 (by kernel_rfl) (by kernel_rfl) (step_ok h hd) (by rfl) (by rfl) (by rfl)) (by rfl) (by rfl) ?_
      rintro _ -
      refine Ls.qA 8 ?_
      refine Ls.nil ?_
      refine Cd.seq ?_
      refine Cd.seq ?_
      refine Cd.region ?_
      refine Ls.qM 22 ?_
      refine Ls.qE 23 (Ev.eql rfl (by rfl) (by rfl)) ?_
      refine Ls.nil ?_
      refine Cd.cond_true (by rfl) (decide_eq_true rfl) ?_
      refine Cd.seq ?_
      refine Cd.region ?_
      refine Ls.qM 24 ?_
      refine Ls.qE 25 (Ev.nilCheck rfl (by rfl)) ?_
      refine Ls.qF 26 0 ?_
      refine Ls.qL 27 0 ?_
      refine Ls.qM 28 ?_
      refine Ls.qD (Does.delT 1 rfl (by rfl) (by rfl) (by rfl) Tryz.underlying9 Tryz.underlying86 (by unfold maxLen; omega)) ?_
      rintro _ -
      refine Ls.nil ?_
      refine Cd.region ?_
      refine Ls.qM 29 ?_
      refine Ls.qE 30 (Ev.nilCheck rfl (by rfl)) ?_
      refine Ls.qF 31 0 ?_
      refine Ls.qL 32 0 ?_
      refine Ls.qM 33 ?_
      refine Ls.qM 34 ?_
      refine Ls.qD (Does.setT 1 rfl (by rfl) (by rfl) (by rfl) (by rfl) Tryz.underlying9 Tryz.underlying86 (Nat.le_trans (List.length_filter_le _ _) (by rw [List.length_map]; omega)) (by unfold maxLen; omega)) ?_
      rintro _ -
      refine Ls.nil ?_
      refine Cd.seq ?_
      refine Cd.region ?_
      refine Ls.qM 35 ?_
      refine Ls.qA 6 ?_
      refine Ls.nil ?_
      obtain ⟨f', hf'⟩ : ∃ f' : FiS, f' = ⟨{ f.p with nm := p }, f.g, f.A, f.c⟩ := ⟨_, rfl⟩
      have hfn : f'.nm = p := by rw [hf']
      have hfg : f'.g = f.g := by rw [hf']
      have hrl : Rise FiS.nm (delG FiS.nm q D.fs) := delG_rise h.rise
      refine Ent.pick [1, 0, 2] (by rfl) ?_
      refine Ent.map (fun w hs => mapt_perm (ks' := (putG FiS.nm f' (delG FiS.nm q D.fs)).map FiS.nm) (f' := ptrF (putG FiS.nm f' (delG FiS.nm q D.fs))) (by rw [← del_names, ← hfn]; exact put_keys hrl f') (fun x hx => by
        rw [ptrF_put hrl f' x, hfn, hfg]
        by_cases hxp : x = p
        · rw [if_pos hxp, if_pos hxp]
          rfl
        · rw [if_neg hxp, if_neg hxp]
          have hx2 := (put_keys hrl f').mem_iff.2 hx
          have hx3 : x ∈ (delG FiS.nm q D.fs).map FiS.nm := by
            split at hx2
            · exact hx2
            · rcases List.mem_append.1 hx2 with hx2 | hx2
              · exact hx2
              · exact absurd ((List.mem_singleton.1 hx2).trans hfn) hxp
          refine ptrF_del (fun e => ?_)
          rw [del_names, e] at hx3
          simp at hx3) hs) ?_
      refine Ent.pick [2, 1, 0] (by rfl) ?_
      refine Ent.map (fun w hs => fil_ren h.rise hf2 p hs) ?_
      rw [← hf']
      have hdrv : Drv { D.stepD with fs := putG FiS.nm f' (delG FiS.nm q D.fs) } ((P.step.without q).put { f.p with nm := p }) := by
        have := ((h.step hd).without q).put (f := f') (by rw [hf']; exact hok)
        rw [hf'] at this ⊢
        exact this
      refine Cd.ret ?_
      refine Ent.ret ({ D.stepD with fs := putG FiS.nm f' (delG FiS.nm q D.fs) }) (⟨hdrv, rfl, rfl⟩) (Res.tmp (by rfl) (by rfl)) ?_ [1, 2, 0] (by rfl) ?_
      · rfl
      · rfl
end
end Go.Proofs.YtacbkganjkipdaaGreatDoor
/- A text's bytes as a slice. -/
namespace Go.Proofs.YtacbkganjkipdaaGreatDoor
section
variable {Γ : Ctx} {N : Frm} {P : Program} {E : Env} {H : List Chunk} {o : Oper} {x : Operand}
theorem Sat.under {w w' : World} (h : Sat Γ H w) (hu : Upd (fun _ => False) w w') {C : Chunk} (hh : C.holds w') (hf : ∀ k, C.foot k → w.heap.size ≤ k) : Sat Γ (C :: H) w' := by
  have hlt : ∀ C ∈ H, ∀ k, C.foot k → k < w.heap.size := fun C hC k hk => C.lt w k (h.sat.1 C hC) hk
  refine ⟨h.upd.trans hu (fun _ _ h => h.elim), ⟨fun D hD => ?_, List.Pairwise.cons (fun D hD _ k hk hk' => ?_) h.sat.2⟩, fun D hD => ?_⟩
  · rcases List.mem_cons.1 hD with rfl | hD
    · exact hh
    · exact D.loc w _ hu.size (fun k hk => hu.block k (hlt D hD k hk) (fun h => h)) (h.sat.1 D hD)
  · have := hlt D hD k hk'
    have := hf k hk
    omega
  · rcases List.mem_cons.1 hD with rfl | hD
    · intro k hk hk'
      have := hf k hk
      exact absurd h.upd.size (by omega)
    · exact h.fits D hD
theorem Does.bytesOf {s d e : TypeId} {u : TypeDesc} {l : List UInt8} (ho : o.op = .convert s d x) (hx : E.ev x = some (.string ⟨l.toArray⟩)) (hs : P.underlying s = some u) (hd : P.underlying d = some (.slice e)) (he : P.underlying e = some (.int .u8)) (hl : l.length ≤ maxLen) :
    Does Γ N P E H o (Nat × Nat) (fun p => .slice (some ⟨p.1, 0, none⟩) l.length p.2) (fun p => rd (some ⟨p.1, 0, none⟩) l.length 1 (u8s l) :: H) (fun p => l.length ≤ p.2 ∧ p.2 ≤ maxLen) := .of fun ρ hρ w hsat => by
  have hrun := Lib.run_convert_string_bytes w s d e (⟨l.toArray⟩ : ByteArray) hs hd he
  have hsz : (⟨l.toArray⟩ : ByteArray).size = l.length := rfl
  rw [hsz] at hrun
  refine ⟨(w.heap.size, grownCap w l.length 0 e), Lib.bytesWorld w e ⟨l.toArray⟩, ⟨grownCap_ge _ _ _ _, grownCap_le_maxLen _ _ _ _ hl⟩, ?_, .inl (by simp [execOp, ho, hρ x _ hx, hrun])⟩
  have hu : Upd (fun _ => False) w (Lib.bytesWorld w e ⟨l.toArray⟩) := ⟨rfl, rfl, rfl, by rw [Lib.bytesWorld_size]; omega, fun k hk _ => Lib.bytesWorld_at_old w e _ k hk⟩
  refine hsat.under hu (C := rd (some ⟨w.heap.size, 0, none⟩) l.length 1 (u8s l)) ⟨by simp [u8s], fun hn0 => ⟨_, rfl, by rw [Lib.bytesWorld_size]; exact Nat.lt_succ_self _, fun j v hv => ?_⟩⟩ (fun k hk => ?_)
  · have hj : j < l.length := by
      have := (List.getElem?_eq_some_iff.1 hv).1
      simpa [u8s] using this
    have hc := Lib.bytesWorld_cell w e (⟨l.toArray⟩ : ByteArray) j hj
    rw [add_at, Nat.zero_add]
    rw [hc]
    rw [← hv]
    simp [u8s, List.getD, List.getElem?_eq_getElem hj]
  · obtain rfl : w.heap.size = k := by simpa [blockOf] using hk.2
    exact Nat.le_refl _
end
end Go.Proofs.YtacbkganjkipdaaGreatDoor
