/-
  Texts joined: MnG, MnB, MnD, MnE, MnF, MnH, MnI, MnJ, SlIn, MnK.
-/
import Derived.Test.YtacbkganjkipdaaGreatDoorMMoL2l
import Derived.Test.YtacbkganjkipdaaGreatDoorMMoL2m
import Derived.Test.YtacbkganjkipdaaGreatDoorMMoL2n
import Derived.Sort.Walk0
/- versions over pieces: the document's Good -/
namespace Go.Proofs.YtacbkganjkipdaaGreatDoor
open Go.RowKit
theorem toList_txt (a : List UInt8) : (txt a).toList = a := by rw [ByteArray.toList_eq]; rfl
theorem gtr_txt (a b : List UInt8) : (!(Op.bytesLess (txt a).toList (txt b).toList || ((txt a).toList == (txt b).toList))) = decide (b < a) := by
  rw [toList_txt, toList_txt, Go.Proofs.bytesLess_eq]
  rcases lt_tri a b with h | h | h
  · rw [decide_eq_true h, decide_eq_false (fun k => List.lt_irrefl _ (List.lt_trans h k))]
    rfl
  · subst h
    rw [decide_eq_false (List.lt_irrefl _)]
    simp
  · rw [decide_eq_true h, decide_eq_false (fun k => List.lt_irrefl _ (List.lt_trans h k))]
    have : a ≠ b := fun e => List.lt_irrefl _ (e ▸ h)
    simp [this]
/-- A version, as a value. -/
abbrev VsP.val (v : VsP) (A : Option Addr) (c : Nat) : List Value := [.slice A v.tbs.length c, .int .i64 v.nx, .int .i64 v.lg, .int .i64 v.sq]
theorem ahead_sl (t u : TbP) : Fn Tryz.prog 41 #[.agg t.enc.toArray, .agg u.enc.toArray] [] Unit (fun _ => .bool (ltT t u)) (fun _ => []) (fun _ => True) := by
  dsimp only [TbP.enc]
  refine Fn.enter Tryz.func41 rfl Tryz.ntmps41 (by rfl) ?_
  intro w0
  refine Cd.seq ?_
  refine Cd.region ?_
  refine Ls.does (some 2) (Does.box rfl (by rfl)) (by rfl) (by rfl) ?_
  intro g1 _
  refine Ls.does (some 3) (Does.box rfl (by rfl)) (by rfl) (by rfl) ?_
  intro g2 _
  refine Ls.qA 4 ?_
  refine Ls.nil ?_
  refine Cd.seq ?_
  refine Cd.region ?_
  refine Ls.qF 5 1 ?_
  refine Ls.qL 6 1 ?_
  refine Ls.qF 7 1 ?_
  refine Ls.qL 8 0 ?_
  refine Ls.qE 9 (Ev.lss rfl (by rfl) (by rfl)) ?_
  refine Ls.qM 10 ?_
  by_cases h1 : t.lev < u.lev
  · skip
    refine Ent.known 10 true (by rfl) (by exact (decide_eq_true h1)) ?_
    refine Ls.qP 11 ?_
    refine Ls.qP 12 ?_
    refine Ls.qP 13 ?_
    refine Ls.qP 14 ?_
    refine Ls.qP 15 ?_
    refine Ls.qP 16 ?_
    refine Ls.qP 17 ?_
    refine Ls.qP 18 ?_
    refine Ls.qP 19 ?_
    refine Ls.qP 20 ?_
    refine Ls.qP 21 ?_
    refine Ls.qP 22 ?_
    refine Ls.qT 23 ?_
    refine Ls.qA 4 ?_
    refine Ls.nil ?_
    refine Cd.ret ?_
    refine Ent.ret (()) (trivial) (Res.tmp (by rfl) (by rfl)) ?_ [] (by rfl) ?_
    · exact congrArg Value.bool (ltT_iff.2 (.inl h1)).symm
    · rfl
  · skip
    refine Ent.known 10 false (by rfl) (by exact (decide_eq_false h1)) ?_
    refine Ls.qF 11 1 ?_
    refine Ls.qL 12 1 ?_
    refine Ls.qF 13 1 ?_
    refine Ls.qL 14 0 ?_
    refine Ls.qE 15 (Ev.eql rfl (by rfl) (by rfl)) ?_
    refine Ls.qM 16 ?_
    skip
    by_cases h2 : t.lev = u.lev
    · skip
      refine Ent.known 16 true (by rfl) (by exact (decide_eq_true h2)) ?_
      refine Ls.qF 17 0 ?_
      refine Ls.qL 18 1 ?_
      refine Ls.qF 19 0 ?_
      refine Ls.qL 20 0 ?_
      refine Ls.qE 21 (Ev.lss rfl (by rfl) (by rfl)) ?_
      refine Ls.qT 22 ?_
      refine Ls.qN 23 ?_
      refine Ls.qA 4 ?_
      refine Ls.nil ?_
      skip
      refine Cd.ret ?_
      refine Ent.ret (()) (trivial) (Res.tmp (by rfl) (by rfl)) ?_ [] (by rfl) ?_
      · show Value.bool (decide _) = Value.bool (decide _)
        congr 1
        exact decide_eq_decide.2 (by omega)
      · rfl
    · skip
      refine Ent.known 16 false (by rfl) (by exact (decide_eq_false h2)) ?_
      refine Ls.qP 17 ?_
      refine Ls.qP 18 ?_
      refine Ls.qP 19 ?_
      refine Ls.qP 20 ?_
      refine Ls.qP 21 ?_
      refine Ls.qN 22 ?_
      refine Ls.qN 23 ?_
      refine Ls.qA 4 ?_
      refine Ls.nil ?_
      skip
      refine Cd.ret ?_
      refine Ent.ret (()) (trivial) (Res.tmp (by rfl) (by rfl)) ?_ [] (by rfl) ?_
      · exact congrArg Value.bool (ltT_not.2 (by omega)).symm
      · rfl
set_option maxHeartbeats 4000000 in
theorem rgood_sl (v : VsP) (A : Option Addr) (c : Nat) (hn : v.tbs.length ≤ 90000000) (hz : ∀ t ∈ v.tbs, t.fst.length ≤ 140737488355328 ∧ t.lst.length ≤ 140737488355328) : Fn Tryz.prog 22 #[.agg (v.val A c).toArray] [rdT A v.tbs] Unit (fun _ => .bool (decide (goodP v))) (fun _ => []) (fun _ => True) := by
  obtain ⟨l, nx, lg, sq⟩ := v
  dsimp only [VsP.val] at hn hz ⊢
  refine Fn.enter Tryz.func22 rfl Tryz.ntmps22 (by rfl) ?_
  intro w0
  refine Cd.seq ?_
  refine Cd.region ?_
  refine Ls.does (some 1) (Does.box rfl (by rfl)) (by rfl) (by rfl) ?_
  intro g1 _
  refine Ls.qA 2 ?_
  refine Ls.nil ?_
  refine Cd.seq ?_
  refine Cd.seq ?_
  by_cases hr : RngOk ⟨l, nx, lg, sq⟩
  rotate_left
  · skip
    have hr2 := hr
    unfold RngOk at hr2
    dsimp only at hr2
    refine Cd.cut (ι := Unit) (fun _ => [(1, .pointer (some ⟨g1, 0, none⟩)), (33, .bool true)]) (fun _ => []) (fun _ => True) ?_ ?_
    · skip
      refine Cd.region ?_
      refine Ls.qF 6 1 ?_
      refine Ls.qL 7 0 ?_
      refine Ls.qE 8 (Ev.lss rfl (by rfl) (by rfl)) ?_
      refine Ls.qM 9 ?_
      refine Ent.split 9 (by rfl) (fun hT1 => ?_) (fun hT1 => ?_)
      · first | have hT1 := of_decide_eq_false hT1 | have hT1 := of_not_decide_false hT1 | skip
        refine Ls.qF 10 1 ?_
        refine Ls.qL 11 0 ?_
        refine Ls.qE 12 (Ev.gtr rfl (by rfl) (by rfl)) ?_
        refine Ls.qN 13 ?_
        refine Ls.qM 14 ?_
        refine Ent.split 14 (by rfl) (fun hT2 => ?_) (fun hT2 => ?_)
        · first | have hT2 := of_decide_eq_false hT2 | have hT2 := of_not_decide_false hT2 | skip
          refine Ls.qF 15 2 ?_
          refine Ls.qL 16 0 ?_
          refine Ls.qE 17 (Ev.lss rfl (by rfl) (by rfl)) ?_
          refine Ls.qN 18 ?_
          refine Ls.qM 19 ?_
          refine Ent.split 19 (by rfl) (fun hT3 => ?_) (fun hT3 => ?_)
          · first | have hT3 := of_decide_eq_false hT3 | have hT3 := of_not_decide_false hT3 | skip
            refine Ls.qF 20 2 ?_
            refine Ls.qL 21 0 ?_
            refine Ls.qE 22 (Ev.gtr rfl (by rfl) (by rfl)) ?_
            refine Ls.qN 23 ?_
            refine Ls.qM 24 ?_
            refine Ent.split 24 (by rfl) (fun hT4 => ?_) (fun hT4 => ?_)
            · first | have hT4 := of_decide_eq_false hT4 | have hT4 := of_not_decide_false hT4 | skip
              refine Ls.qF 25 3 ?_
              refine Ls.qL 26 0 ?_
              refine Ls.qE 27 (Ev.lss rfl (by rfl) (by rfl)) ?_
              refine Ls.qN 28 ?_
              refine Ls.qM 29 ?_
              refine Ent.split 29 (by rfl) (fun hT5 => ?_) (fun hT5 => ?_)
              · first | have hT5 := of_decide_eq_false hT5 | have hT5 := of_not_decide_false hT5 | skip
                refine Ls.qF 30 3 ?_
                refine Ls.qL 31 0 ?_
                refine Ls.qE 32 (Ev.gtr rfl (by rfl) (by rfl)) ?_
                refine Ls.qN 33 ?_
                refine Ls.nil ?_
                refine Ent.pick [] (by rfl) ?_
                refine Ent.inv () ?_ ?_ ?_
                · exact trivial
                · (repeat (first | exact trivial | refine ⟨by rfl, ?_⟩ | refine ⟨by simp only [List.length_append, List.length_cons, List.length_nil]; rfl, ?_⟩ | refine ⟨by push_cast; rfl, ?_⟩ | refine ⟨by (show some (Value.bool _) = some (Value.bool _); congr 2; all_goals ((first | rfl | exact (decide_eq_true (by omega)).symm | exact (decide_eq_true (by omega)) | omega))), ?_⟩))
                · rfl
              · first | have hT5 := of_decide_eq_true hT5 | have hT5 := of_not_decide_true hT5 | skip
                refine Ls.qP 30 ?_
                refine Ls.qP 31 ?_
                refine Ls.qP 32 ?_
                refine Ls.qT 33 ?_
                refine Ls.nil ?_
                refine Ent.pick [] (by rfl) ?_
                refine Ent.inv () ?_ ?_ ?_
                · exact trivial
                · (repeat (first | exact trivial | refine ⟨by rfl, ?_⟩ | refine ⟨by simp only [List.length_append, List.length_cons, List.length_nil]; rfl, ?_⟩ | refine ⟨by push_cast; rfl, ?_⟩ | refine ⟨by (show some (Value.bool _) = some (Value.bool _); congr 2; all_goals ((first | rfl | exact (decide_eq_true (by omega)).symm | exact (decide_eq_true (by omega)) | omega))), ?_⟩))
                · rfl
            · first | have hT4 := of_decide_eq_true hT4 | have hT4 := of_not_decide_true hT4 | skip
              refine Ls.qP 25 ?_
              refine Ls.qP 26 ?_
              refine Ls.qP 27 ?_
              refine Ls.qT 28 ?_
              refine Ls.qM 29 ?_
              refine Ls.qP 30 ?_
              refine Ls.qP 31 ?_
              refine Ls.qP 32 ?_
              refine Ls.qT 33 ?_
              refine Ls.nil ?_
              refine Ent.pick [] (by rfl) ?_
              refine Ent.inv () ?_ ?_ ?_
              · exact trivial
              · (repeat (first | exact trivial | refine ⟨by rfl, ?_⟩ | refine ⟨by simp only [List.length_append, List.length_cons, List.length_nil]; rfl, ?_⟩ | refine ⟨by push_cast; rfl, ?_⟩ | refine ⟨by (show some (Value.bool _) = some (Value.bool _); congr 2; all_goals ((first | rfl | exact (decide_eq_true (by omega)).symm | exact (decide_eq_true (by omega)) | omega))), ?_⟩))
              · rfl
          · first | have hT3 := of_decide_eq_true hT3 | have hT3 := of_not_decide_true hT3 | skip
            refine Ls.qP 20 ?_
            refine Ls.qP 21 ?_
            refine Ls.qP 22 ?_
            refine Ls.qT 23 ?_
            refine Ls.qM 24 ?_
            refine Ls.qP 25 ?_
            refine Ls.qP 26 ?_
            refine Ls.qP 27 ?_
            refine Ls.qT 28 ?_
            refine Ls.qM 29 ?_
            refine Ls.qP 30 ?_
            refine Ls.qP 31 ?_
            refine Ls.qP 32 ?_
            refine Ls.qT 33 ?_
            refine Ls.nil ?_
            refine Ent.pick [] (by rfl) ?_
            refine Ent.inv () ?_ ?_ ?_
            · exact trivial
            · (repeat (first | exact trivial | refine ⟨by rfl, ?_⟩ | refine ⟨by simp only [List.length_append, List.length_cons, List.length_nil]; rfl, ?_⟩ | refine ⟨by push_cast; rfl, ?_⟩ | refine ⟨by (show some (Value.bool _) = some (Value.bool _); congr 2; all_goals ((first | rfl | exact (decide_eq_true (by omega)).symm | exact (decide_eq_true (by omega)) | omega))), ?_⟩))
            · rfl
        · first | have hT2 := of_decide_eq_true hT2 | have hT2 := of_not_decide_true hT2 | skip
          refine Ls.qP 15 ?_
          refine Ls.qP 16 ?_
          refine Ls.qP 17 ?_
          refine Ls.qT 18 ?_
          refine Ls.qM 19 ?_
          refine Ls.qP 20 ?_
          refine Ls.qP 21 ?_
          refine Ls.qP 22 ?_
          refine Ls.qT 23 ?_
          refine Ls.qM 24 ?_
          refine Ls.qP 25 ?_
          refine Ls.qP 26 ?_
          refine Ls.qP 27 ?_
          refine Ls.qT 28 ?_
          refine Ls.qM 29 ?_
          refine Ls.qP 30 ?_
          refine Ls.qP 31 ?_
          refine Ls.qP 32 ?_
          refine Ls.qT 33 ?_
          refine Ls.nil ?_
          refine Ent.pick [] (by rfl) ?_
          refine Ent.inv () ?_ ?_ ?_
          · exact trivial
          · (repeat (first | exact trivial | refine ⟨by rfl, ?_⟩ | refine ⟨by simp only [List.length_append, List.length_cons, List.length_nil]; rfl, ?_⟩ | refine ⟨by push_cast; rfl, ?_⟩ | refine ⟨by (show some (Value.bool _) = some (Value.bool _); congr 2; all_goals ((first | rfl | exact (decide_eq_true (by omega)).symm | exact (decide_eq_true (by omega)) | omega))), ?_⟩))
          · rfl
      · first | have hT1 := of_decide_eq_true hT1 | have hT1 := of_not_decide_true hT1 | skip
        refine Ls.qP 10 ?_
        refine Ls.qP 11 ?_
        refine Ls.qP 12 ?_
        refine Ls.qT 13 ?_
        refine Ls.qM 14 ?_
        refine Ls.qP 15 ?_
        refine Ls.qP 16 ?_
        refine Ls.qP 17 ?_
        refine Ls.qT 18 ?_
        refine Ls.qM 19 ?_
        refine Ls.qP 20 ?_
        refine Ls.qP 21 ?_
        refine Ls.qP 22 ?_
        refine Ls.qT 23 ?_
        refine Ls.qM 24 ?_
        refine Ls.qP 25 ?_
        refine Ls.qP 26 ?_
        refine Ls.qP 27 ?_
        refine Ls.qT 28 ?_
        refine Ls.qM 29 ?_
        refine Ls.qP 30 ?_
        refine Ls.qP 31 ?_
        refine Ls.qP 32 ?_
        refine Ls.qT 33 ?_
        refine Ls.nil ?_
        refine Ent.pick [] (by rfl) ?_
        refine Ent.inv () ?_ ?_ ?_
        · exact trivial
        · (repeat (first | exact trivial | refine ⟨by rfl, ?_⟩ | refine ⟨by simp only [List.length_append, List.length_cons, List.length_nil]; rfl, ?_⟩ | refine ⟨by push_cast; rfl, ?_⟩ | refine ⟨by (show some (Value.bool _) = some (Value.bool _); congr 2; all_goals ((first | rfl | exact (decide_eq_true (by omega)).symm | exact (decide_eq_true (by omega)) | omega))), ?_⟩))
        · rfl
    skip
    rintro _ -
    refine Cd.cond_true (by rfl) (rfl) ?_
    refine Cd.seq ?_
    refine Cd.region ?_
    refine Ls.qA 2 ?_
    refine Ls.nil ?_
    refine Cd.ret ?_
    refine Ent.ret (()) (trivial) (Res.tmp (by rfl) (by rfl)) ?_ [] (by rfl) ?_
    · exact congrArg Value.bool (decide_eq_false (fun h => hr h.1)).symm
    · rfl
  · skip
    have hr2 := hr
    unfold RngOk at hr2
    dsimp only at hr2
    refine Cd.cut (ι := Unit) (fun _ => [(1, .pointer (some ⟨g1, 0, none⟩)), (33, .bool false)]) (fun _ => [blk g1 24 [.slice A l.length c, .int .i64 nx, .int .i64 lg, .int .i64 sq], rdT A l]) (fun _ => True) ?_ ?_
    · skip
      refine Cd.region ?_
      refine Ls.qF 6 1 ?_
      refine Ls.qL 7 0 ?_
      refine Ls.qE 8 (Ev.lss rfl (by rfl) (by rfl)) ?_
      refine Ls.qM 9 ?_
      refine Ent.split 9 (by rfl) (fun hT1 => ?_) (fun hT1 => ?_)
      · first | have hT1 := of_decide_eq_false hT1 | have hT1 := of_not_decide_false hT1 | skip
        refine Ls.qF 10 1 ?_
        refine Ls.qL 11 0 ?_
        refine Ls.qE 12 (Ev.gtr rfl (by rfl) (by rfl)) ?_
        refine Ls.qN 13 ?_
        refine Ls.qM 14 ?_
        refine Ent.split 14 (by rfl) (fun hT2 => ?_) (fun hT2 => ?_)
        · first | have hT2 := of_decide_eq_false hT2 | have hT2 := of_not_decide_false hT2 | skip
          refine Ls.qF 15 2 ?_
          refine Ls.qL 16 0 ?_
          refine Ls.qE 17 (Ev.lss rfl (by rfl) (by rfl)) ?_
          refine Ls.qN 18 ?_
          refine Ls.qM 19 ?_
          refine Ent.split 19 (by rfl) (fun hT3 => ?_) (fun hT3 => ?_)
          · first | have hT3 := of_decide_eq_false hT3 | have hT3 := of_not_decide_false hT3 | skip
            refine Ls.qF 20 2 ?_
            refine Ls.qL 21 0 ?_
            refine Ls.qE 22 (Ev.gtr rfl (by rfl) (by rfl)) ?_
            refine Ls.qN 23 ?_
            refine Ls.qM 24 ?_
            refine Ent.split 24 (by rfl) (fun hT4 => ?_) (fun hT4 => ?_)
            · first | have hT4 := of_decide_eq_false hT4 | have hT4 := of_not_decide_false hT4 | skip
              refine Ls.qF 25 3 ?_
              refine Ls.qL 26 0 ?_
              refine Ls.qE 27 (Ev.lss rfl (by rfl) (by rfl)) ?_
              refine Ls.qN 28 ?_
              refine Ls.qM 29 ?_
              refine Ent.split 29 (by rfl) (fun hT5 => ?_) (fun hT5 => ?_)
              · first | have hT5 := of_decide_eq_false hT5 | have hT5 := of_not_decide_false hT5 | skip
                refine Ls.qF 30 3 ?_
                refine Ls.qL 31 0 ?_
                refine Ls.qE 32 (Ev.gtr rfl (by rfl) (by rfl)) ?_
                refine Ls.qN 33 ?_
                refine Ls.nil ?_
                refine Ent.inv () ?_ ?_ ?_
                · exact trivial
                · (repeat (first | exact trivial | refine ⟨by rfl, ?_⟩ | refine ⟨by simp only [List.length_append, List.length_cons, List.length_nil]; rfl, ?_⟩ | refine ⟨by push_cast; rfl, ?_⟩ | refine ⟨by (show some (Value.bool _) = some (Value.bool _); congr 2; all_goals ((first | rfl | exact (decide_eq_false (by omega)).symm | exact (decide_eq_false (by omega)) | omega))), ?_⟩))
                · rfl
              · first | have hT5 := of_decide_eq_true hT5 | have hT5 := of_not_decide_true hT5 | skip
                refine Ls.qP 30 ?_
                refine Ls.qP 31 ?_
                refine Ls.qP 32 ?_
                refine Ls.qT 33 ?_
                refine Ls.nil ?_
                refine Ent.inv () ?_ ?_ ?_
                · exact trivial
                · (repeat (first | exact trivial | refine ⟨by rfl, ?_⟩ | refine ⟨by simp only [List.length_append, List.length_cons, List.length_nil]; rfl, ?_⟩ | refine ⟨by push_cast; rfl, ?_⟩ | refine ⟨by (show some (Value.bool _) = some (Value.bool _); congr 2; all_goals ((first | rfl | exact (decide_eq_false (by omega)).symm | exact (decide_eq_false (by omega)) | omega))), ?_⟩))
                · rfl
            · first | have hT4 := of_decide_eq_true hT4 | have hT4 := of_not_decide_true hT4 | skip
              refine Ls.qP 25 ?_
              refine Ls.qP 26 ?_
              refine Ls.qP 27 ?_
              refine Ls.qT 28 ?_
              refine Ls.qM 29 ?_
              refine Ls.qP 30 ?_
              refine Ls.qP 31 ?_
              refine Ls.qP 32 ?_
              refine Ls.qT 33 ?_
              refine Ls.nil ?_
              refine Ent.inv () ?_ ?_ ?_
              · exact trivial
              · (repeat (first | exact trivial | refine ⟨by rfl, ?_⟩ | refine ⟨by simp only [List.length_append, List.length_cons, List.length_nil]; rfl, ?_⟩ | refine ⟨by push_cast; rfl, ?_⟩ | refine ⟨by (show some (Value.bool _) = some (Value.bool _); congr 2; all_goals ((first | rfl | exact (decide_eq_false (by omega)).symm | exact (decide_eq_false (by omega)) | omega))), ?_⟩))
              · rfl
          · first | have hT3 := of_decide_eq_true hT3 | have hT3 := of_not_decide_true hT3 | skip
            refine Ls.qP 20 ?_
            refine Ls.qP 21 ?_
            refine Ls.qP 22 ?_
            refine Ls.qT 23 ?_
            refine Ls.qM 24 ?_
            refine Ls.qP 25 ?_
            refine Ls.qP 26 ?_
            refine Ls.qP 27 ?_
            refine Ls.qT 28 ?_
            refine Ls.qM 29 ?_
            refine Ls.qP 30 ?_
            refine Ls.qP 31 ?_
            refine Ls.qP 32 ?_
            refine Ls.qT 33 ?_
            refine Ls.nil ?_
            refine Ent.inv () ?_ ?_ ?_
            · exact trivial
            · (repeat (first | exact trivial | refine ⟨by rfl, ?_⟩ | refine ⟨by simp only [List.length_append, List.length_cons, List.length_nil]; rfl, ?_⟩ | refine ⟨by push_cast; rfl, ?_⟩ | refine ⟨by (show some (Value.bool _) = some (Value.bool _); congr 2; all_goals ((first | rfl | exact (decide_eq_false (by omega)).symm | exact (decide_eq_false (by omega)) | omega))), ?_⟩))
            · rfl
        · first | have hT2 := of_decide_eq_true hT2 | have hT2 := of_not_decide_true hT2 | skip
          refine Ls.qP 15 ?_
          refine Ls.qP 16 ?_
          refine Ls.qP 17 ?_
          refine Ls.qT 18 ?_
          refine Ls.qM 19 ?_
          refine Ls.qP 20 ?_
          refine Ls.qP 21 ?_
          refine Ls.qP 22 ?_
          refine Ls.qT 23 ?_
          refine Ls.qM 24 ?_
          refine Ls.qP 25 ?_
          refine Ls.qP 26 ?_
          refine Ls.qP 27 ?_
          refine Ls.qT 28 ?_
          refine Ls.qM 29 ?_
          refine Ls.qP 30 ?_
          refine Ls.qP 31 ?_
          refine Ls.qP 32 ?_
          refine Ls.qT 33 ?_
          refine Ls.nil ?_
          refine Ent.inv () ?_ ?_ ?_
          · exact trivial
          · (repeat (first | exact trivial | refine ⟨by rfl, ?_⟩ | refine ⟨by simp only [List.length_append, List.length_cons, List.length_nil]; rfl, ?_⟩ | refine ⟨by push_cast; rfl, ?_⟩ | refine ⟨by (show some (Value.bool _) = some (Value.bool _); congr 2; all_goals ((first | rfl | exact (decide_eq_false (by omega)).symm | exact (decide_eq_false (by omega)) | omega))), ?_⟩))
          · rfl
      · first | have hT1 := of_decide_eq_true hT1 | have hT1 := of_not_decide_true hT1 | skip
        refine Ls.qP 10 ?_
        refine Ls.qP 11 ?_
        refine Ls.qP 12 ?_
        refine Ls.qT 13 ?_
        refine Ls.qM 14 ?_
        refine Ls.qP 15 ?_
        refine Ls.qP 16 ?_
        refine Ls.qP 17 ?_
        refine Ls.qT 18 ?_
        refine Ls.qM 19 ?_
        refine Ls.qP 20 ?_
        refine Ls.qP 21 ?_
        refine Ls.qP 22 ?_
        refine Ls.qT 23 ?_
        refine Ls.qM 24 ?_
        refine Ls.qP 25 ?_
        refine Ls.qP 26 ?_
        refine Ls.qP 27 ?_
        refine Ls.qT 28 ?_
        refine Ls.qM 29 ?_
        refine Ls.qP 30 ?_
        refine Ls.qP 31 ?_
        refine Ls.qP 32 ?_
        refine Ls.qT 33 ?_
        refine Ls.nil ?_
        refine Ent.inv () ?_ ?_ ?_
        · exact trivial
        · (repeat (first | exact trivial | refine ⟨by rfl, ?_⟩ | refine ⟨by simp only [List.length_append, List.length_cons, List.length_nil]; rfl, ?_⟩ | refine ⟨by push_cast; rfl, ?_⟩ | refine ⟨by (show some (Value.bool _) = some (Value.bool _); congr 2; all_goals ((first | rfl | exact (decide_eq_false (by omega)).symm | exact (decide_eq_false (by omega)) | omega))), ?_⟩))
        · rfl
    skip
    rintro _ -
    refine Cd.cond_false (by rfl) (rfl) ?_
    skip
    refine Cd.skip ?_
    refine Cd.seq ?_
    refine Cd.seq ?_
    refine Cd.region ?_
    refine Ls.qA 3 ?_
    refine Ls.nil ?_
    refine Cd.block ?_
    refine Cd.loop (ι := Nat) (fun i => [(1, .pointer (some ⟨g1, 0, none⟩)), (3, .int .i64 i)]) (fun _ => [blk g1 24 [.slice A l.length c, .int .i64 nx, .int .i64 lg, .int .i64 sq], rdT A l]) (fun i => i ≤ l.length ∧ ∀ (j : Nat) (t : TbP), j < i → l[j]? = some t → OkAt nx l j t) (fun i => l.length - i) (0) (⟨Nat.zero_le _, fun j t h => absurd h (Nat.not_lt_zero _)⟩) ?_ rfl ?_
    · (repeat (first | exact trivial | refine ⟨by rfl, ?_⟩))
    rintro i ⟨hi, hall⟩
    refine Cd.seq ?_
    refine Cd.seq ?_
    refine Cd.region ?_
    refine Ls.qM 34 ?_
    refine Ls.qF 35 0 ?_
    refine Ls.qL 36 0 ?_
    refine Ls.qE 37 (Ev.len rfl (by rfl) Tryz.underlying22) ?_
    refine Ls.qE 38 (Ev.lss rfl (by rfl) (by rfl)) ?_
    refine Ls.nil ?_
    refine Cd.cond _ (by rfl) (fun h2 => ?_) (fun h2 => ?_)
    · skip
      have hlt : i < l.length := by have := of_decide_eq_true h2; omega
      obtain ⟨t, ht⟩ := get_of_lt hlt
      have htz := hz t (List.mem_of_getElem? ht)
      have hfs : (txt t.fst).size = t.fst.length := rfl
      have hls2 : (txt t.lst).size = t.lst.length := rfl
      refine Ent.rdSome 1 (by rfl) (by omega) (fun ad had => ?_)
      subst had
      refine Cd.skip ?_
      refine Cd.seq ?_
      refine Cd.block ?_
      refine Cd.seq ?_
      refine Cd.region ?_
      refine Ls.qF 41 0 ?_
      refine Ls.qL 42 0 ?_
      refine Ls.qM 43 ?_
      refine Ls.qE 44 (Ev.indexAt (sz := 4) rfl (by rfl) (by rfl) Tryz.underlying22 (by kernel_rfl) (by omega)) ?_
      refine Ls.qE 45 (Ev.loadEl (enc := TbP.enc) (sz := 4) rfl (by rfl) (ReadsIn.rd 1 (by rfl)) (by kernel_rfl) (fun _ => rfl) ht) ?_
      refine Ls.does (some 4) (Does.alloc (cs := [.int .i64 0, .int .i64 0, .string ⟨#[]⟩, .string ⟨#[]⟩]) rfl (ZeroIs.mk (.agg #[.int .i64 0, .int .i64 0, .string ⟨#[]⟩, .string ⟨#[]⟩]) (by kernel_rfl) (by rfl))) (by rfl) (by rfl) ?_
      intro g2 _
      refine Ls.qD (Does.store 0 rfl (by rfl) (by rfl) (by rfl) (by kernel_rfl) (by rfl) (by kernel_rfl) (by rfl)) ?_
      intro _ _
      refine Ls.nil ?_
      refine Cd.seq ?_
      refine Cd.seq ?_
      by_cases hk : t.lst < t.fst
      · skip
        refine Cd.cut (ι := Unit) (fun _ => [(1, .pointer (some ⟨g1, 0, none⟩)), (3, .int .i64 i), (4, .pointer (some ⟨g2, 0, none⟩)), (89, .bool true)]) (fun _ => []) (fun _ => True) ?_ ?_
        · skip
          refine Cd.region ?_
          refine Ls.qF 46 1 ?_
          refine Ls.qL 47 0 ?_
          refine Ls.qE 48 (Ev.lss rfl (by rfl) (by rfl)) ?_
          refine Ls.qM 49 ?_
          refine Ent.split 49 (by rfl) (fun hT1 => ?_) (fun hT1 => ?_)
          · first | have hT1 := of_decide_eq_false hT1 | have hT1 := of_not_decide_false hT1 | skip
            refine Ls.qF 50 1 ?_
            refine Ls.qL 51 0 ?_
            refine Ls.qE 52 (Ev.gtr rfl (by rfl) (by rfl)) ?_
            refine Ls.qN 53 ?_
            refine Ls.qM 54 ?_
            refine Ent.split 54 (by rfl) (fun hT2 => ?_) (fun hT2 => ?_)
            · first | have hT2 := of_decide_eq_false hT2 | have hT2 := of_not_decide_false hT2 | skip
              refine Ls.qF 55 0 ?_
              refine Ls.qL 56 0 ?_
              refine Ls.qE 57 (Ev.lss rfl (by rfl) (by rfl)) ?_
              refine Ls.qN 58 ?_
              refine Ls.qM 59 ?_
              refine Ent.split 59 (by rfl) (fun hT3 => ?_) (fun hT3 => ?_)
              · first | have hT3 := of_decide_eq_false hT3 | have hT3 := of_not_decide_false hT3 | skip
                refine Ls.qF 60 0 ?_
                refine Ls.qL 61 0 ?_
                refine Ls.qE 62 (Ev.gtr rfl (by rfl) (by rfl)) ?_
                refine Ls.qN 63 ?_
                refine Ls.qM 64 ?_
                refine Ent.split 64 (by rfl) (fun hT4 => ?_) (fun hT4 => ?_)
                · first | have hT4 := of_decide_eq_false hT4 | have hT4 := of_not_decide_false hT4 | skip
                  refine Ls.qF 65 0 ?_
                  refine Ls.qL 66 0 ?_
                  refine Ls.qF 67 1 ?_
                  refine Ls.qL 68 1 ?_
                  refine Ls.qE 69 (Ev.geq rfl (by rfl) (by rfl)) ?_
                  refine Ls.qN 70 ?_
                  refine Ls.qM 71 ?_
                  refine Ent.split 71 (by rfl) (fun hT5 => ?_) (fun hT5 => ?_)
                  · first | have hT5 := of_decide_eq_false hT5 | have hT5 := of_not_decide_false hT5 | skip
                    refine Ls.qF 72 2 ?_
                    refine Ls.qL 73 0 ?_
                    refine Ls.qF 74 3 ?_
                    refine Ls.qL 75 0 ?_
                    refine Ls.qE 76 (Ev.gtrS rfl (by rfl) (by rfl)) ?_
                    refine Ls.qN 77 ?_
                    refine Ls.qM 78 ?_
                    refine Ent.split 78 (by rfl) (fun hT6 => ?_) (fun hT6 => ?_)
                    · first | have hT6 := of_decide_eq_false hT6 | have hT6 := of_not_decide_false hT6 | skip
                      refine Ls.qF 79 2 ?_
                      refine Ls.qL 80 0 ?_
                      refine Ls.qE 81 (Ev.lenS rfl (by rfl) Tryz.underlying9) ?_
                      refine Ls.qE 82 (Ev.gtr rfl (by rfl) (by rfl)) ?_
                      refine Ls.qN 83 ?_
                      refine Ls.qM 84 ?_
                      refine Ent.split 84 (by rfl) (fun hT7 => ?_) (fun hT7 => ?_)
                      · first | have hT7 := of_decide_eq_false hT7 | have hT7 := of_not_decide_false hT7 | skip
                        refine Ls.qF 85 3 ?_
                        refine Ls.qL 86 0 ?_
                        refine Ls.qE 87 (Ev.lenS rfl (by rfl) Tryz.underlying9) ?_
                        refine Ls.qE 88 (Ev.gtr rfl (by rfl) (by rfl)) ?_
                        refine Ls.qN 89 ?_
                        refine Ls.nil ?_
                        refine Ent.pick [] (by rfl) ?_
                        refine Ent.inv () ?_ ?_ ?_
                        · exact trivial
                        · (repeat (first | exact trivial | refine ⟨by rfl, ?_⟩ | refine ⟨by simp only [List.length_append, List.length_cons, List.length_nil]; rfl, ?_⟩ | refine ⟨by push_cast; rfl, ?_⟩ | refine ⟨by (show some (Value.bool _) = some (Value.bool _); congr 2; all_goals ((first | rfl | (exfalso; rw [gtr_txt] at hT6; exact of_decide_eq_false hT6 hk)))), ?_⟩))
                        · rfl
                      · first | have hT7 := of_decide_eq_true hT7 | have hT7 := of_not_decide_true hT7 | skip
                        refine Ls.qP 85 ?_
                        refine Ls.qP 86 ?_
                        refine Ls.qP 87 ?_
                        refine Ls.qP 88 ?_
                        refine Ls.qT 89 ?_
                        refine Ls.nil ?_
                        refine Ent.pick [] (by rfl) ?_
                        refine Ent.inv () ?_ ?_ ?_
                        · exact trivial
                        · (repeat (first | exact trivial | refine ⟨by rfl, ?_⟩ | refine ⟨by simp only [List.length_append, List.length_cons, List.length_nil]; rfl, ?_⟩ | refine ⟨by push_cast; rfl, ?_⟩ | refine ⟨by (show some (Value.bool _) = some (Value.bool _); congr 2; all_goals ((first | rfl | (exfalso; rw [gtr_txt] at hT6; exact of_decide_eq_false hT6 hk)))), ?_⟩))
                        · rfl
                    · first | have hT6 := of_decide_eq_true hT6 | have hT6 := of_not_decide_true hT6 | skip
                      refine Ls.qP 79 ?_
                      refine Ls.qP 80 ?_
                      refine Ls.qP 81 ?_
                      refine Ls.qP 82 ?_
                      refine Ls.qT 83 ?_
                      refine Ls.qM 84 ?_
                      refine Ls.qP 85 ?_
                      refine Ls.qP 86 ?_
                      refine Ls.qP 87 ?_
                      refine Ls.qP 88 ?_
                      refine Ls.qT 89 ?_
                      refine Ls.nil ?_
                      refine Ent.pick [] (by rfl) ?_
                      refine Ent.inv () ?_ ?_ ?_
                      · exact trivial
                      · (repeat (first | exact trivial | refine ⟨by rfl, ?_⟩ | refine ⟨by simp only [List.length_append, List.length_cons, List.length_nil]; rfl, ?_⟩ | refine ⟨by push_cast; rfl, ?_⟩ | refine ⟨by (show some (Value.bool _) = some (Value.bool _); congr 2; all_goals ((first | rfl | (exfalso; rw [gtr_txt] at hT6; exact of_decide_eq_false hT6 hk)))), ?_⟩))
                      · rfl
                  · first | have hT5 := of_decide_eq_true hT5 | have hT5 := of_not_decide_true hT5 | skip
                    refine Ls.qP 72 ?_
                    refine Ls.qP 73 ?_
                    refine Ls.qP 74 ?_
                    refine Ls.qP 75 ?_
                    refine Ls.qP 76 ?_
                    refine Ls.qT 77 ?_
                    refine Ls.qM 78 ?_
                    refine Ls.qP 79 ?_
                    refine Ls.qP 80 ?_
                    refine Ls.qP 81 ?_
                    refine Ls.qP 82 ?_
                    refine Ls.qT 83 ?_
                    refine Ls.qM 84 ?_
                    refine Ls.qP 85 ?_
                    refine Ls.qP 86 ?_
                    refine Ls.qP 87 ?_
                    refine Ls.qP 88 ?_
                    refine Ls.qT 89 ?_
                    refine Ls.nil ?_
                    refine Ent.pick [] (by rfl) ?_
                    refine Ent.inv () ?_ ?_ ?_
                    · exact trivial
                    · (repeat (first | exact trivial | refine ⟨by rfl, ?_⟩ | refine ⟨by simp only [List.length_append, List.length_cons, List.length_nil]; rfl, ?_⟩ | refine ⟨by push_cast; rfl, ?_⟩ | refine ⟨by (show some (Value.bool _) = some (Value.bool _); congr 2; all_goals ((first | rfl | (exfalso; rw [gtr_txt] at hT6; exact of_decide_eq_false hT6 hk)))), ?_⟩))
                    · rfl
                · first | have hT4 := of_decide_eq_true hT4 | have hT4 := of_not_decide_true hT4 | skip
                  refine Ls.qP 65 ?_
                  refine Ls.qP 66 ?_
                  refine Ls.qP 67 ?_
                  refine Ls.qP 68 ?_
                  refine Ls.qP 69 ?_
                  refine Ls.qT 70 ?_
                  refine Ls.qM 71 ?_
                  refine Ls.qP 72 ?_
                  refine Ls.qP 73 ?_
                  refine Ls.qP 74 ?_
                  refine Ls.qP 75 ?_
                  refine Ls.qP 76 ?_
                  refine Ls.qT 77 ?_
                  refine Ls.qM 78 ?_
                  refine Ls.qP 79 ?_
                  refine Ls.qP 80 ?_
                  refine Ls.qP 81 ?_
                  refine Ls.qP 82 ?_
                  refine Ls.qT 83 ?_
                  refine Ls.qM 84 ?_
                  refine Ls.qP 85 ?_
                  refine Ls.qP 86 ?_
                  refine Ls.qP 87 ?_
                  refine Ls.qP 88 ?_
                  refine Ls.qT 89 ?_
                  refine Ls.nil ?_
                  refine Ent.pick [] (by rfl) ?_
                  refine Ent.inv () ?_ ?_ ?_
                  · exact trivial
                  · (repeat (first | exact trivial | refine ⟨by rfl, ?_⟩ | refine ⟨by simp only [List.length_append, List.length_cons, List.length_nil]; rfl, ?_⟩ | refine ⟨by push_cast; rfl, ?_⟩ | refine ⟨by (show some (Value.bool _) = some (Value.bool _); congr 2; all_goals ((first | rfl | (exfalso; rw [gtr_txt] at hT6; exact of_decide_eq_false hT6 hk)))), ?_⟩))
                  · rfl
              · first | have hT3 := of_decide_eq_true hT3 | have hT3 := of_not_decide_true hT3 | skip
                refine Ls.qP 60 ?_
                refine Ls.qP 61 ?_
                refine Ls.qP 62 ?_
                refine Ls.qT 63 ?_
                refine Ls.qM 64 ?_
                refine Ls.qP 65 ?_
                refine Ls.qP 66 ?_
                refine Ls.qP 67 ?_
                refine Ls.qP 68 ?_
                refine Ls.qP 69 ?_
                refine Ls.qT 70 ?_
                refine Ls.qM 71 ?_
                refine Ls.qP 72 ?_
                refine Ls.qP 73 ?_
                refine Ls.qP 74 ?_
                refine Ls.qP 75 ?_
                refine Ls.qP 76 ?_
                refine Ls.qT 77 ?_
                refine Ls.qM 78 ?_
                refine Ls.qP 79 ?_
                refine Ls.qP 80 ?_
                refine Ls.qP 81 ?_
                refine Ls.qP 82 ?_
                refine Ls.qT 83 ?_
                refine Ls.qM 84 ?_
                refine Ls.qP 85 ?_
                refine Ls.qP 86 ?_
                refine Ls.qP 87 ?_
                refine Ls.qP 88 ?_
                refine Ls.qT 89 ?_
                refine Ls.nil ?_
                refine Ent.pick [] (by rfl) ?_
                refine Ent.inv () ?_ ?_ ?_
                · exact trivial
                · (repeat (first | exact trivial | refine ⟨by rfl, ?_⟩ | refine ⟨by simp only [List.length_append, List.length_cons, List.length_nil]; rfl, ?_⟩ | refine ⟨by push_cast; rfl, ?_⟩ | refine ⟨by (show some (Value.bool _) = some (Value.bool _); congr 2; all_goals ((first | rfl | (exfalso; rw [gtr_txt] at hT6; exact of_decide_eq_false hT6 hk)))), ?_⟩))
                · rfl
            · first | have hT2 := of_decide_eq_true hT2 | have hT2 := of_not_decide_true hT2 | skip
              refine Ls.qP 55 ?_
              refine Ls.qP 56 ?_
              refine Ls.qP 57 ?_
              refine Ls.qT 58 ?_
              refine Ls.qM 59 ?_
              refine Ls.qP 60 ?_
              refine Ls.qP 61 ?_
              refine Ls.qP 62 ?_
              refine Ls.qT 63 ?_
              refine Ls.qM 64 ?_
              refine Ls.qP 65 ?_
              refine Ls.qP 66 ?_
              refine Ls.qP 67 ?_
              refine Ls.qP 68 ?_
              refine Ls.qP 69 ?_
              refine Ls.qT 70 ?_
              refine Ls.qM 71 ?_
              refine Ls.qP 72 ?_
              refine Ls.qP 73 ?_
              refine Ls.qP 74 ?_
              refine Ls.qP 75 ?_
              refine Ls.qP 76 ?_
              refine Ls.qT 77 ?_
              refine Ls.qM 78 ?_
              refine Ls.qP 79 ?_
              refine Ls.qP 80 ?_
              refine Ls.qP 81 ?_
              refine Ls.qP 82 ?_
              refine Ls.qT 83 ?_
              refine Ls.qM 84 ?_
              refine Ls.qP 85 ?_
              refine Ls.qP 86 ?_
              refine Ls.qP 87 ?_
              refine Ls.qP 88 ?_
              refine Ls.qT 89 ?_
              refine Ls.nil ?_
              refine Ent.pick [] (by rfl) ?_
              refine Ent.inv () ?_ ?_ ?_
              · exact trivial
              · (repeat (first | exact trivial | refine ⟨by rfl, ?_⟩ | refine ⟨by simp only [List.length_append, List.length_cons, List.length_nil]; rfl, ?_⟩ | refine ⟨by push_cast; rfl, ?_⟩ | refine ⟨by (show some (Value.bool _) = some (Value.bool _); congr 2; all_goals ((first | rfl | (exfalso; rw [gtr_txt] at hT6; exact of_decide_eq_false hT6 hk)))), ?_⟩))
              · rfl
          · first | have hT1 := of_decide_eq_true hT1 | have hT1 := of_not_decide_true hT1 | skip
            refine Ls.qP 50 ?_
            refine Ls.qP 51 ?_
            refine Ls.qP 52 ?_
            refine Ls.qT 53 ?_
            refine Ls.qM 54 ?_
            refine Ls.qP 55 ?_
            refine Ls.qP 56 ?_
            refine Ls.qP 57 ?_
            refine Ls.qT 58 ?_
            refine Ls.qM 59 ?_
            refine Ls.qP 60 ?_
            refine Ls.qP 61 ?_
            refine Ls.qP 62 ?_
            refine Ls.qT 63 ?_
            refine Ls.qM 64 ?_
            refine Ls.qP 65 ?_
            refine Ls.qP 66 ?_
            refine Ls.qP 67 ?_
            refine Ls.qP 68 ?_
            refine Ls.qP 69 ?_
            refine Ls.qT 70 ?_
            refine Ls.qM 71 ?_
            refine Ls.qP 72 ?_
            refine Ls.qP 73 ?_
            refine Ls.qP 74 ?_
            refine Ls.qP 75 ?_
            refine Ls.qP 76 ?_
            refine Ls.qT 77 ?_
            refine Ls.qM 78 ?_
            refine Ls.qP 79 ?_
            refine Ls.qP 80 ?_
            refine Ls.qP 81 ?_
            refine Ls.qP 82 ?_
            refine Ls.qT 83 ?_
            refine Ls.qM 84 ?_
            refine Ls.qP 85 ?_
            refine Ls.qP 86 ?_
            refine Ls.qP 87 ?_
            refine Ls.qP 88 ?_
            refine Ls.qT 89 ?_
            refine Ls.nil ?_
            refine Ent.pick [] (by rfl) ?_
            refine Ent.inv () ?_ ?_ ?_
            · exact trivial
            · (repeat (first | exact trivial | refine ⟨by rfl, ?_⟩ | refine ⟨by simp only [List.length_append, List.length_cons, List.length_nil]; rfl, ?_⟩ | refine ⟨by push_cast; rfl, ?_⟩ | refine ⟨by (show some (Value.bool _) = some (Value.bool _); congr 2; all_goals ((first | rfl | (exfalso; rw [gtr_txt] at hT6; exact of_decide_eq_false hT6 hk)))), ?_⟩))
            · rfl
        skip
        rintro _ -
        refine Cd.cond_true (by rfl) (rfl) ?_
        refine Cd.seq ?_
        refine Cd.region ?_
        refine Ls.qA 2 ?_
        refine Ls.nil ?_
        refine Cd.ret ?_
        refine Ent.ret (()) (trivial) (Res.tmp (by rfl) (by rfl)) ?_ [] (by rfl) ?_
        · exact congrArg Value.bool (decide_eq_false (fun h => (fun h=>h.ok.keys hk) (h.2 i t ht))).symm
        · rfl
      · skip
        by_cases hx : (t.lev = 0 ∨ t.lev = 1) ∧ 1 ≤ t.num ∧ t.num ≤ 999999 ∧ t.num < nx ∧ t.fst.length ≤ 64 ∧ t.lst.length ≤ 64
        rotate_left
        · skip
          refine Cd.cut (ι := Unit) (fun _ => [(1, .pointer (some ⟨g1, 0, none⟩)), (3, .int .i64 i), (4, .pointer (some ⟨g2, 0, none⟩)), (89, .bool true)]) (fun _ => []) (fun _ => True) ?_ ?_
          · skip
            refine Cd.region ?_
            refine Ls.qF 46 1 ?_
            refine Ls.qL 47 0 ?_
            refine Ls.qE 48 (Ev.lss rfl (by rfl) (by rfl)) ?_
            refine Ls.qM 49 ?_
            refine Ent.split 49 (by rfl) (fun hT1 => ?_) (fun hT1 => ?_)
            · first | have hT1 := of_decide_eq_false hT1 | have hT1 := of_not_decide_false hT1 | skip
              refine Ls.qF 50 1 ?_
              refine Ls.qL 51 0 ?_
              refine Ls.qE 52 (Ev.gtr rfl (by rfl) (by rfl)) ?_
              refine Ls.qN 53 ?_
              refine Ls.qM 54 ?_
              refine Ent.split 54 (by rfl) (fun hT2 => ?_) (fun hT2 => ?_)
              · first | have hT2 := of_decide_eq_false hT2 | have hT2 := of_not_decide_false hT2 | skip
                refine Ls.qF 55 0 ?_
                refine Ls.qL 56 0 ?_
                refine Ls.qE 57 (Ev.lss rfl (by rfl) (by rfl)) ?_
                refine Ls.qN 58 ?_
                refine Ls.qM 59 ?_
                refine Ent.split 59 (by rfl) (fun hT3 => ?_) (fun hT3 => ?_)
                · first | have hT3 := of_decide_eq_false hT3 | have hT3 := of_not_decide_false hT3 | skip
                  refine Ls.qF 60 0 ?_
                  refine Ls.qL 61 0 ?_
                  refine Ls.qE 62 (Ev.gtr rfl (by rfl) (by rfl)) ?_
                  refine Ls.qN 63 ?_
                  refine Ls.qM 64 ?_
                  refine Ent.split 64 (by rfl) (fun hT4 => ?_) (fun hT4 => ?_)
                  · first | have hT4 := of_decide_eq_false hT4 | have hT4 := of_not_decide_false hT4 | skip
                    refine Ls.qF 65 0 ?_
                    refine Ls.qL 66 0 ?_
                    refine Ls.qF 67 1 ?_
                    refine Ls.qL 68 1 ?_
                    refine Ls.qE 69 (Ev.geq rfl (by rfl) (by rfl)) ?_
                    refine Ls.qN 70 ?_
                    refine Ls.qM 71 ?_
                    refine Ent.split 71 (by rfl) (fun hT5 => ?_) (fun hT5 => ?_)
                    · first | have hT5 := of_decide_eq_false hT5 | have hT5 := of_not_decide_false hT5 | skip
                      refine Ls.qF 72 2 ?_
                      refine Ls.qL 73 0 ?_
                      refine Ls.qF 74 3 ?_
                      refine Ls.qL 75 0 ?_
                      refine Ls.qE 76 (Ev.gtrS rfl (by rfl) (by rfl)) ?_
                      refine Ls.qN 77 ?_
                      refine Ls.qM 78 ?_
                      refine Ent.split 78 (by rfl) (fun hT6 => ?_) (fun hT6 => ?_)
                      · first | have hT6 := of_decide_eq_false hT6 | have hT6 := of_not_decide_false hT6 | skip
                        refine Ls.qF 79 2 ?_
                        refine Ls.qL 80 0 ?_
                        refine Ls.qE 81 (Ev.lenS rfl (by rfl) Tryz.underlying9) ?_
                        refine Ls.qE 82 (Ev.gtr rfl (by rfl) (by rfl)) ?_
                        refine Ls.qN 83 ?_
                        refine Ls.qM 84 ?_
                        refine Ent.split 84 (by rfl) (fun hT7 => ?_) (fun hT7 => ?_)
                        · first | have hT7 := of_decide_eq_false hT7 | have hT7 := of_not_decide_false hT7 | skip
                          refine Ls.qF 85 3 ?_
                          refine Ls.qL 86 0 ?_
                          refine Ls.qE 87 (Ev.lenS rfl (by rfl) Tryz.underlying9) ?_
                          refine Ls.qE 88 (Ev.gtr rfl (by rfl) (by rfl)) ?_
                          refine Ls.qN 89 ?_
                          refine Ls.nil ?_
                          refine Ent.pick [] (by rfl) ?_
                          refine Ent.inv () ?_ ?_ ?_
                          · exact trivial
                          · (repeat (first | exact trivial | refine ⟨by rfl, ?_⟩ | refine ⟨by simp only [List.length_append, List.length_cons, List.length_nil]; rfl, ?_⟩ | refine ⟨by push_cast; rfl, ?_⟩ | refine ⟨by (show some (Value.bool _) = some (Value.bool _); congr 2; all_goals ((first | rfl | exact (decide_eq_true (by omega)).symm | exact decide_eq_true (by omega) | (exfalso; omega) | (exfalso; rw [gtr_txt] at hT6; exact hk (of_decide_eq_true hT6))))), ?_⟩))
                          · rfl
                        · first | have hT7 := of_decide_eq_true hT7 | have hT7 := of_not_decide_true hT7 | skip
                          refine Ls.qP 85 ?_
                          refine Ls.qP 86 ?_
                          refine Ls.qP 87 ?_
                          refine Ls.qP 88 ?_
                          refine Ls.qT 89 ?_
                          refine Ls.nil ?_
                          refine Ent.pick [] (by rfl) ?_
                          refine Ent.inv () ?_ ?_ ?_
                          · exact trivial
                          · (repeat (first | exact trivial | refine ⟨by rfl, ?_⟩ | refine ⟨by simp only [List.length_append, List.length_cons, List.length_nil]; rfl, ?_⟩ | refine ⟨by push_cast; rfl, ?_⟩ | refine ⟨by (show some (Value.bool _) = some (Value.bool _); congr 2; all_goals ((first | rfl | exact (decide_eq_true (by omega)).symm | exact decide_eq_true (by omega) | (exfalso; omega) | (exfalso; rw [gtr_txt] at hT6; exact hk (of_decide_eq_true hT6))))), ?_⟩))
                          · rfl
                      · first | have hT6 := of_decide_eq_true hT6 | have hT6 := of_not_decide_true hT6 | skip
                        refine Ls.qP 79 ?_
                        refine Ls.qP 80 ?_
                        refine Ls.qP 81 ?_
                        refine Ls.qP 82 ?_
                        refine Ls.qT 83 ?_
                        refine Ls.qM 84 ?_
                        refine Ls.qP 85 ?_
                        refine Ls.qP 86 ?_
                        refine Ls.qP 87 ?_
                        refine Ls.qP 88 ?_
                        refine Ls.qT 89 ?_
                        refine Ls.nil ?_
                        refine Ent.pick [] (by rfl) ?_
                        refine Ent.inv () ?_ ?_ ?_
                        · exact trivial
                        · (repeat (first | exact trivial | refine ⟨by rfl, ?_⟩ | refine ⟨by simp only [List.length_append, List.length_cons, List.length_nil]; rfl, ?_⟩ | refine ⟨by push_cast; rfl, ?_⟩ | refine ⟨by (show some (Value.bool _) = some (Value.bool _); congr 2; all_goals ((first | rfl | exact (decide_eq_true (by omega)).symm | exact decide_eq_true (by omega) | (exfalso; omega) | (exfalso; rw [gtr_txt] at hT6; exact hk (of_decide_eq_true hT6))))), ?_⟩))
                        · rfl
                    · first | have hT5 := of_decide_eq_true hT5 | have hT5 := of_not_decide_true hT5 | skip
                      refine Ls.qP 72 ?_
                      refine Ls.qP 73 ?_
                      refine Ls.qP 74 ?_
                      refine Ls.qP 75 ?_
                      refine Ls.qP 76 ?_
                      refine Ls.qT 77 ?_
                      refine Ls.qM 78 ?_
                      refine Ls.qP 79 ?_
                      refine Ls.qP 80 ?_
                      refine Ls.qP 81 ?_
                      refine Ls.qP 82 ?_
                      refine Ls.qT 83 ?_
                      refine Ls.qM 84 ?_
                      refine Ls.qP 85 ?_
                      refine Ls.qP 86 ?_
                      refine Ls.qP 87 ?_
                      refine Ls.qP 88 ?_
                      refine Ls.qT 89 ?_
                      refine Ls.nil ?_
                      refine Ent.pick [] (by rfl) ?_
                      refine Ent.inv () ?_ ?_ ?_
                      · exact trivial
                      · (repeat (first | exact trivial | refine ⟨by rfl, ?_⟩ | refine ⟨by simp only [List.length_append, List.length_cons, List.length_nil]; rfl, ?_⟩ | refine ⟨by push_cast; rfl, ?_⟩ | refine ⟨by (show some (Value.bool _) = some (Value.bool _); congr 2; all_goals ((first | rfl | exact (decide_eq_true (by omega)).symm | exact decide_eq_true (by omega) | (exfalso; omega) | (exfalso; rw [gtr_txt] at hT6; exact hk (of_decide_eq_true hT6))))), ?_⟩))
                      · rfl
                  · first | have hT4 := of_decide_eq_true hT4 | have hT4 := of_not_decide_true hT4 | skip
                    refine Ls.qP 65 ?_
                    refine Ls.qP 66 ?_
                    refine Ls.qP 67 ?_
                    refine Ls.qP 68 ?_
                    refine Ls.qP 69 ?_
                    refine Ls.qT 70 ?_
                    refine Ls.qM 71 ?_
                    refine Ls.qP 72 ?_
                    refine Ls.qP 73 ?_
                    refine Ls.qP 74 ?_
                    refine Ls.qP 75 ?_
                    refine Ls.qP 76 ?_
                    refine Ls.qT 77 ?_
                    refine Ls.qM 78 ?_
                    refine Ls.qP 79 ?_
                    refine Ls.qP 80 ?_
                    refine Ls.qP 81 ?_
                    refine Ls.qP 82 ?_
                    refine Ls.qT 83 ?_
                    refine Ls.qM 84 ?_
                    refine Ls.qP 85 ?_
                    refine Ls.qP 86 ?_
                    refine Ls.qP 87 ?_
                    refine Ls.qP 88 ?_
                    refine Ls.qT 89 ?_
                    refine Ls.nil ?_
                    refine Ent.pick [] (by rfl) ?_
                    refine Ent.inv () ?_ ?_ ?_
                    · exact trivial
                    · (repeat (first | exact trivial | refine ⟨by rfl, ?_⟩ | refine ⟨by simp only [List.length_append, List.length_cons, List.length_nil]; rfl, ?_⟩ | refine ⟨by push_cast; rfl, ?_⟩ | refine ⟨by (show some (Value.bool _) = some (Value.bool _); congr 2; all_goals ((first | rfl | exact (decide_eq_true (by omega)).symm | exact decide_eq_true (by omega) | (exfalso; omega) | (exfalso; rw [gtr_txt] at hT6; exact hk (of_decide_eq_true hT6))))), ?_⟩))
                    · rfl
                · first | have hT3 := of_decide_eq_true hT3 | have hT3 := of_not_decide_true hT3 | skip
                  refine Ls.qP 60 ?_
                  refine Ls.qP 61 ?_
                  refine Ls.qP 62 ?_
                  refine Ls.qT 63 ?_
                  refine Ls.qM 64 ?_
                  refine Ls.qP 65 ?_
                  refine Ls.qP 66 ?_
                  refine Ls.qP 67 ?_
                  refine Ls.qP 68 ?_
                  refine Ls.qP 69 ?_
                  refine Ls.qT 70 ?_
                  refine Ls.qM 71 ?_
                  refine Ls.qP 72 ?_
                  refine Ls.qP 73 ?_
                  refine Ls.qP 74 ?_
                  refine Ls.qP 75 ?_
                  refine Ls.qP 76 ?_
                  refine Ls.qT 77 ?_
                  refine Ls.qM 78 ?_
                  refine Ls.qP 79 ?_
                  refine Ls.qP 80 ?_
                  refine Ls.qP 81 ?_
                  refine Ls.qP 82 ?_
                  refine Ls.qT 83 ?_
                  refine Ls.qM 84 ?_
                  refine Ls.qP 85 ?_
                  refine Ls.qP 86 ?_
                  refine Ls.qP 87 ?_
                  refine Ls.qP 88 ?_
                  refine Ls.qT 89 ?_
                  refine Ls.nil ?_
                  refine Ent.pick [] (by rfl) ?_
                  refine Ent.inv () ?_ ?_ ?_
                  · exact trivial
                  · (repeat (first | exact trivial | refine ⟨by rfl, ?_⟩ | refine ⟨by simp only [List.length_append, List.length_cons, List.length_nil]; rfl, ?_⟩ | refine ⟨by push_cast; rfl, ?_⟩ | refine ⟨by (show some (Value.bool _) = some (Value.bool _); congr 2; all_goals ((first | rfl | exact (decide_eq_true (by omega)).symm | exact decide_eq_true (by omega) | (exfalso; omega) | (exfalso; rw [gtr_txt] at hT6; exact hk (of_decide_eq_true hT6))))), ?_⟩))
                  · rfl
              · first | have hT2 := of_decide_eq_true hT2 | have hT2 := of_not_decide_true hT2 | skip
                refine Ls.qP 55 ?_
                refine Ls.qP 56 ?_
                refine Ls.qP 57 ?_
                refine Ls.qT 58 ?_
                refine Ls.qM 59 ?_
                refine Ls.qP 60 ?_
                refine Ls.qP 61 ?_
                refine Ls.qP 62 ?_
                refine Ls.qT 63 ?_
                refine Ls.qM 64 ?_
                refine Ls.qP 65 ?_
                refine Ls.qP 66 ?_
                refine Ls.qP 67 ?_
                refine Ls.qP 68 ?_
                refine Ls.qP 69 ?_
                refine Ls.qT 70 ?_
                refine Ls.qM 71 ?_
                refine Ls.qP 72 ?_
                refine Ls.qP 73 ?_
                refine Ls.qP 74 ?_
                refine Ls.qP 75 ?_
                refine Ls.qP 76 ?_
                refine Ls.qT 77 ?_
                refine Ls.qM 78 ?_
                refine Ls.qP 79 ?_
                refine Ls.qP 80 ?_
                refine Ls.qP 81 ?_
                refine Ls.qP 82 ?_
                refine Ls.qT 83 ?_
                refine Ls.qM 84 ?_
                refine Ls.qP 85 ?_
                refine Ls.qP 86 ?_
                refine Ls.qP 87 ?_
                refine Ls.qP 88 ?_
                refine Ls.qT 89 ?_
                refine Ls.nil ?_
                refine Ent.pick [] (by rfl) ?_
                refine Ent.inv () ?_ ?_ ?_
                · exact trivial
                · (repeat (first | exact trivial | refine ⟨by rfl, ?_⟩ | refine ⟨by simp only [List.length_append, List.length_cons, List.length_nil]; rfl, ?_⟩ | refine ⟨by push_cast; rfl, ?_⟩ | refine ⟨by (show some (Value.bool _) = some (Value.bool _); congr 2; all_goals ((first | rfl | exact (decide_eq_true (by omega)).symm | exact decide_eq_true (by omega) | (exfalso; omega) | (exfalso; rw [gtr_txt] at hT6; exact hk (of_decide_eq_true hT6))))), ?_⟩))
                · rfl
            · first | have hT1 := of_decide_eq_true hT1 | have hT1 := of_not_decide_true hT1 | skip
              refine Ls.qP 50 ?_
              refine Ls.qP 51 ?_
              refine Ls.qP 52 ?_
              refine Ls.qT 53 ?_
              refine Ls.qM 54 ?_
              refine Ls.qP 55 ?_
              refine Ls.qP 56 ?_
              refine Ls.qP 57 ?_
              refine Ls.qT 58 ?_
              refine Ls.qM 59 ?_
              refine Ls.qP 60 ?_
              refine Ls.qP 61 ?_
              refine Ls.qP 62 ?_
              refine Ls.qT 63 ?_
              refine Ls.qM 64 ?_
              refine Ls.qP 65 ?_
              refine Ls.qP 66 ?_
              refine Ls.qP 67 ?_
              refine Ls.qP 68 ?_
              refine Ls.qP 69 ?_
              refine Ls.qT 70 ?_
              refine Ls.qM 71 ?_
              refine Ls.qP 72 ?_
              refine Ls.qP 73 ?_
              refine Ls.qP 74 ?_
              refine Ls.qP 75 ?_
              refine Ls.qP 76 ?_
              refine Ls.qT 77 ?_
              refine Ls.qM 78 ?_
              refine Ls.qP 79 ?_
              refine Ls.qP 80 ?_
              refine Ls.qP 81 ?_
              refine Ls.qP 82 ?_
              refine Ls.qT 83 ?_
              refine Ls.qM 84 ?_
              refine Ls.qP 85 ?_
              refine Ls.qP 86 ?_
              refine Ls.qP 87 ?_
              refine Ls.qP 88 ?_
              refine Ls.qT 89 ?_
              refine Ls.nil ?_
              refine Ent.pick [] (by rfl) ?_
              refine Ent.inv () ?_ ?_ ?_
              · exact trivial
              · (repeat (first | exact trivial | refine ⟨by rfl, ?_⟩ | refine ⟨by simp only [List.length_append, List.length_cons, List.length_nil]; rfl, ?_⟩ | refine ⟨by push_cast; rfl, ?_⟩ | refine ⟨by (show some (Value.bool _) = some (Value.bool _); congr 2; all_goals ((first | rfl | exact (decide_eq_true (by omega)).symm | exact decide_eq_true (by omega) | (exfalso; omega) | (exfalso; rw [gtr_txt] at hT6; exact hk (of_decide_eq_true hT6))))), ?_⟩))
              · rfl
          skip
          rintro _ -
          refine Cd.cond_true (by rfl) (rfl) ?_
          refine Cd.seq ?_
          refine Cd.region ?_
          refine Ls.qA 2 ?_
          refine Ls.nil ?_
          refine Cd.ret ?_
          refine Ent.ret (()) (trivial) (Res.tmp (by rfl) (by rfl)) ?_ [] (by rfl) ?_
          · exact congrArg Value.bool (decide_eq_false (fun h => (fun h=>hx ⟨h.ok.lev, h.ok.lo, h.ok.hi, h.ok.next, h.ok.fst, h.ok.lst⟩) (h.2 i t ht))).symm
          · rfl
        · skip
          refine Cd.cut (ι := Unit) (fun _ => [(1, .pointer (some ⟨g1, 0, none⟩)), (3, .int .i64 i), (4, .pointer (some ⟨g2, 0, none⟩)), (89, .bool false)]) (fun _ => [blk g2 42 t.enc, blk g1 24 [.slice (some ad) l.length c, .int .i64 nx, .int .i64 lg, .int .i64 sq], rdT (some ad) l]) (fun _ => True) ?_ ?_
          · skip
            refine Cd.region ?_
            refine Ls.qF 46 1 ?_
            refine Ls.qL 47 0 ?_
            refine Ls.qE 48 (Ev.lss rfl (by rfl) (by rfl)) ?_
            refine Ls.qM 49 ?_
            refine Ent.split 49 (by rfl) (fun hT1 => ?_) (fun hT1 => ?_)
            · first | have hT1 := of_decide_eq_false hT1 | have hT1 := of_not_decide_false hT1 | skip
              refine Ls.qF 50 1 ?_
              refine Ls.qL 51 0 ?_
              refine Ls.qE 52 (Ev.gtr rfl (by rfl) (by rfl)) ?_
              refine Ls.qN 53 ?_
              refine Ls.qM 54 ?_
              refine Ent.split 54 (by rfl) (fun hT2 => ?_) (fun hT2 => ?_)
              · first | have hT2 := of_decide_eq_false hT2 | have hT2 := of_not_decide_false hT2 | skip
                refine Ls.qF 55 0 ?_
                refine Ls.qL 56 0 ?_
                refine Ls.qE 57 (Ev.lss rfl (by rfl) (by rfl)) ?_
                refine Ls.qN 58 ?_
                refine Ls.qM 59 ?_
                refine Ent.split 59 (by rfl) (fun hT3 => ?_) (fun hT3 => ?_)
                · first | have hT3 := of_decide_eq_false hT3 | have hT3 := of_not_decide_false hT3 | skip
                  refine Ls.qF 60 0 ?_
                  refine Ls.qL 61 0 ?_
                  refine Ls.qE 62 (Ev.gtr rfl (by rfl) (by rfl)) ?_
                  refine Ls.qN 63 ?_
                  refine Ls.qM 64 ?_
                  refine Ent.split 64 (by rfl) (fun hT4 => ?_) (fun hT4 => ?_)
                  · first | have hT4 := of_decide_eq_false hT4 | have hT4 := of_not_decide_false hT4 | skip
                    refine Ls.qF 65 0 ?_
                    refine Ls.qL 66 0 ?_
                    refine Ls.qF 67 1 ?_
                    refine Ls.qL 68 1 ?_
                    refine Ls.qE 69 (Ev.geq rfl (by rfl) (by rfl)) ?_
                    refine Ls.qN 70 ?_
                    refine Ls.qM 71 ?_
                    refine Ent.split 71 (by rfl) (fun hT5 => ?_) (fun hT5 => ?_)
                    · first | have hT5 := of_decide_eq_false hT5 | have hT5 := of_not_decide_false hT5 | skip
                      refine Ls.qF 72 2 ?_
                      refine Ls.qL 73 0 ?_
                      refine Ls.qF 74 3 ?_
                      refine Ls.qL 75 0 ?_
                      refine Ls.qE 76 (Ev.gtrS rfl (by rfl) (by rfl)) ?_
                      refine Ls.qN 77 ?_
                      refine Ls.qM 78 ?_
                      refine Ent.split 78 (by rfl) (fun hT6 => ?_) (fun hT6 => ?_)
                      · first | have hT6 := of_decide_eq_false hT6 | have hT6 := of_not_decide_false hT6 | skip
                        refine Ls.qF 79 2 ?_
                        refine Ls.qL 80 0 ?_
                        refine Ls.qE 81 (Ev.lenS rfl (by rfl) Tryz.underlying9) ?_
                        refine Ls.qE 82 (Ev.gtr rfl (by rfl) (by rfl)) ?_
                        refine Ls.qN 83 ?_
                        refine Ls.qM 84 ?_
                        refine Ent.split 84 (by rfl) (fun hT7 => ?_) (fun hT7 => ?_)
                        · first | have hT7 := of_decide_eq_false hT7 | have hT7 := of_not_decide_false hT7 | skip
                          refine Ls.qF 85 3 ?_
                          refine Ls.qL 86 0 ?_
                          refine Ls.qE 87 (Ev.lenS rfl (by rfl) Tryz.underlying9) ?_
                          refine Ls.qE 88 (Ev.gtr rfl (by rfl) (by rfl)) ?_
                          refine Ls.qN 89 ?_
                          refine Ls.nil ?_
                          refine Ent.inv () ?_ ?_ ?_
                          · exact trivial
                          · (repeat (first | exact trivial | refine ⟨by rfl, ?_⟩ | refine ⟨by simp only [List.length_append, List.length_cons, List.length_nil]; rfl, ?_⟩ | refine ⟨by push_cast; rfl, ?_⟩ | refine ⟨by (show some (Value.bool _) = some (Value.bool _); congr 2; all_goals ((first | rfl | exact (decide_eq_false (by omega)).symm | exact decide_eq_false (by omega) | (exfalso; omega) | (exfalso; rw [gtr_txt] at hT6; exact hk (of_decide_eq_true hT6))))), ?_⟩))
                          · rfl
                        · first | have hT7 := of_decide_eq_true hT7 | have hT7 := of_not_decide_true hT7 | skip
                          refine Ls.qP 85 ?_
                          refine Ls.qP 86 ?_
                          refine Ls.qP 87 ?_
                          refine Ls.qP 88 ?_
                          refine Ls.qT 89 ?_
                          refine Ls.nil ?_
                          refine Ent.inv () ?_ ?_ ?_
                          · exact trivial
                          · (repeat (first | exact trivial | refine ⟨by rfl, ?_⟩ | refine ⟨by simp only [List.length_append, List.length_cons, List.length_nil]; rfl, ?_⟩ | refine ⟨by push_cast; rfl, ?_⟩ | refine ⟨by (show some (Value.bool _) = some (Value.bool _); congr 2; all_goals ((first | rfl | exact (decide_eq_false (by omega)).symm | exact decide_eq_false (by omega) | (exfalso; omega) | (exfalso; rw [gtr_txt] at hT6; exact hk (of_decide_eq_true hT6))))), ?_⟩))
                          · rfl
                      · first | have hT6 := of_decide_eq_true hT6 | have hT6 := of_not_decide_true hT6 | skip
                        refine Ls.qP 79 ?_
                        refine Ls.qP 80 ?_
                        refine Ls.qP 81 ?_
                        refine Ls.qP 82 ?_
                        refine Ls.qT 83 ?_
                        refine Ls.qM 84 ?_
                        refine Ls.qP 85 ?_
                        refine Ls.qP 86 ?_
                        refine Ls.qP 87 ?_
                        refine Ls.qP 88 ?_
                        refine Ls.qT 89 ?_
                        refine Ls.nil ?_
                        refine Ent.inv () ?_ ?_ ?_
                        · exact trivial
                        · (repeat (first | exact trivial | refine ⟨by rfl, ?_⟩ | refine ⟨by simp only [List.length_append, List.length_cons, List.length_nil]; rfl, ?_⟩ | refine ⟨by push_cast; rfl, ?_⟩ | refine ⟨by (show some (Value.bool _) = some (Value.bool _); congr 2; all_goals ((first | rfl | exact (decide_eq_false (by omega)).symm | exact decide_eq_false (by omega) | (exfalso; omega) | (exfalso; rw [gtr_txt] at hT6; exact hk (of_decide_eq_true hT6))))), ?_⟩))
                        · rfl
                    · first | have hT5 := of_decide_eq_true hT5 | have hT5 := of_not_decide_true hT5 | skip
                      refine Ls.qP 72 ?_
                      refine Ls.qP 73 ?_
                      refine Ls.qP 74 ?_
                      refine Ls.qP 75 ?_
                      refine Ls.qP 76 ?_
                      refine Ls.qT 77 ?_
                      refine Ls.qM 78 ?_
                      refine Ls.qP 79 ?_
                      refine Ls.qP 80 ?_
                      refine Ls.qP 81 ?_
                      refine Ls.qP 82 ?_
                      refine Ls.qT 83 ?_
                      refine Ls.qM 84 ?_
                      refine Ls.qP 85 ?_
                      refine Ls.qP 86 ?_
                      refine Ls.qP 87 ?_
                      refine Ls.qP 88 ?_
                      refine Ls.qT 89 ?_
                      refine Ls.nil ?_
                      refine Ent.inv () ?_ ?_ ?_
                      · exact trivial
                      · (repeat (first | exact trivial | refine ⟨by rfl, ?_⟩ | refine ⟨by simp only [List.length_append, List.length_cons, List.length_nil]; rfl, ?_⟩ | refine ⟨by push_cast; rfl, ?_⟩ | refine ⟨by (show some (Value.bool _) = some (Value.bool _); congr 2; all_goals ((first | rfl | exact (decide_eq_false (by omega)).symm | exact decide_eq_false (by omega) | (exfalso; omega) | (exfalso; rw [gtr_txt] at hT6; exact hk (of_decide_eq_true hT6))))), ?_⟩))
                      · rfl
                  · first | have hT4 := of_decide_eq_true hT4 | have hT4 := of_not_decide_true hT4 | skip
                    refine Ls.qP 65 ?_
                    refine Ls.qP 66 ?_
                    refine Ls.qP 67 ?_
                    refine Ls.qP 68 ?_
                    refine Ls.qP 69 ?_
                    refine Ls.qT 70 ?_
                    refine Ls.qM 71 ?_
                    refine Ls.qP 72 ?_
                    refine Ls.qP 73 ?_
                    refine Ls.qP 74 ?_
                    refine Ls.qP 75 ?_
                    refine Ls.qP 76 ?_
                    refine Ls.qT 77 ?_
                    refine Ls.qM 78 ?_
                    refine Ls.qP 79 ?_
                    refine Ls.qP 80 ?_
                    refine Ls.qP 81 ?_
                    refine Ls.qP 82 ?_
                    refine Ls.qT 83 ?_
                    refine Ls.qM 84 ?_
                    refine Ls.qP 85 ?_
                    refine Ls.qP 86 ?_
                    refine Ls.qP 87 ?_
                    refine Ls.qP 88 ?_
                    refine Ls.qT 89 ?_
                    refine Ls.nil ?_
                    refine Ent.inv () ?_ ?_ ?_
                    · exact trivial
                    · (repeat (first | exact trivial | refine ⟨by rfl, ?_⟩ | refine ⟨by simp only [List.length_append, List.length_cons, List.length_nil]; rfl, ?_⟩ | refine ⟨by push_cast; rfl, ?_⟩ | refine ⟨by (show some (Value.bool _) = some (Value.bool _); congr 2; all_goals ((first | rfl | exact (decide_eq_false (by omega)).symm | exact decide_eq_false (by omega) | (exfalso; omega) | (exfalso; rw [gtr_txt] at hT6; exact hk (of_decide_eq_true hT6))))), ?_⟩))
                    · rfl
                · first | have hT3 := of_decide_eq_true hT3 | have hT3 := of_not_decide_true hT3 | skip
                  refine Ls.qP 60 ?_
                  refine Ls.qP 61 ?_
                  refine Ls.qP 62 ?_
                  refine Ls.qT 63 ?_
                  refine Ls.qM 64 ?_
                  refine Ls.qP 65 ?_
                  refine Ls.qP 66 ?_
                  refine Ls.qP 67 ?_
                  refine Ls.qP 68 ?_
                  refine Ls.qP 69 ?_
                  refine Ls.qT 70 ?_
                  refine Ls.qM 71 ?_
                  refine Ls.qP 72 ?_
                  refine Ls.qP 73 ?_
                  refine Ls.qP 74 ?_
                  refine Ls.qP 75 ?_
                  refine Ls.qP 76 ?_
                  refine Ls.qT 77 ?_
                  refine Ls.qM 78 ?_
                  refine Ls.qP 79 ?_
                  refine Ls.qP 80 ?_
                  refine Ls.qP 81 ?_
                  refine Ls.qP 82 ?_
                  refine Ls.qT 83 ?_
                  refine Ls.qM 84 ?_
                  refine Ls.qP 85 ?_
                  refine Ls.qP 86 ?_
                  refine Ls.qP 87 ?_
                  refine Ls.qP 88 ?_
                  refine Ls.qT 89 ?_
                  refine Ls.nil ?_
                  refine Ent.inv () ?_ ?_ ?_
                  · exact trivial
                  · (repeat (first | exact trivial | refine ⟨by rfl, ?_⟩ | refine ⟨by simp only [List.length_append, List.length_cons, List.length_nil]; rfl, ?_⟩ | refine ⟨by push_cast; rfl, ?_⟩ | refine ⟨by (show some (Value.bool _) = some (Value.bool _); congr 2; all_goals ((first | rfl | exact (decide_eq_false (by omega)).symm | exact decide_eq_false (by omega) | (exfalso; omega) | (exfalso; rw [gtr_txt] at hT6; exact hk (of_decide_eq_true hT6))))), ?_⟩))
                  · rfl
              · first | have hT2 := of_decide_eq_true hT2 | have hT2 := of_not_decide_true hT2 | skip
                refine Ls.qP 55 ?_
                refine Ls.qP 56 ?_
                refine Ls.qP 57 ?_
                refine Ls.qT 58 ?_
                refine Ls.qM 59 ?_
                refine Ls.qP 60 ?_
                refine Ls.qP 61 ?_
                refine Ls.qP 62 ?_
                refine Ls.qT 63 ?_
                refine Ls.qM 64 ?_
                refine Ls.qP 65 ?_
                refine Ls.qP 66 ?_
                refine Ls.qP 67 ?_
                refine Ls.qP 68 ?_
                refine Ls.qP 69 ?_
                refine Ls.qT 70 ?_
                refine Ls.qM 71 ?_
                refine Ls.qP 72 ?_
                refine Ls.qP 73 ?_
                refine Ls.qP 74 ?_
                refine Ls.qP 75 ?_
                refine Ls.qP 76 ?_
                refine Ls.qT 77 ?_
                refine Ls.qM 78 ?_
                refine Ls.qP 79 ?_
                refine Ls.qP 80 ?_
                refine Ls.qP 81 ?_
                refine Ls.qP 82 ?_
                refine Ls.qT 83 ?_
                refine Ls.qM 84 ?_
                refine Ls.qP 85 ?_
                refine Ls.qP 86 ?_
                refine Ls.qP 87 ?_
                refine Ls.qP 88 ?_
                refine Ls.qT 89 ?_
                refine Ls.nil ?_
                refine Ent.inv () ?_ ?_ ?_
                · exact trivial
                · (repeat (first | exact trivial | refine ⟨by rfl, ?_⟩ | refine ⟨by simp only [List.length_append, List.length_cons, List.length_nil]; rfl, ?_⟩ | refine ⟨by push_cast; rfl, ?_⟩ | refine ⟨by (show some (Value.bool _) = some (Value.bool _); congr 2; all_goals ((first | rfl | exact (decide_eq_false (by omega)).symm | exact decide_eq_false (by omega) | (exfalso; omega) | (exfalso; rw [gtr_txt] at hT6; exact hk (of_decide_eq_true hT6))))), ?_⟩))
                · rfl
            · first | have hT1 := of_decide_eq_true hT1 | have hT1 := of_not_decide_true hT1 | skip
              refine Ls.qP 50 ?_
              refine Ls.qP 51 ?_
              refine Ls.qP 52 ?_
              refine Ls.qT 53 ?_
              refine Ls.qM 54 ?_
              refine Ls.qP 55 ?_
              refine Ls.qP 56 ?_
              refine Ls.qP 57 ?_
              refine Ls.qT 58 ?_
              refine Ls.qM 59 ?_
              refine Ls.qP 60 ?_
              refine Ls.qP 61 ?_
              refine Ls.qP 62 ?_
              refine Ls.qT 63 ?_
              refine Ls.qM 64 ?_
              refine Ls.qP 65 ?_
              refine Ls.qP 66 ?_
              refine Ls.qP 67 ?_
              refine Ls.qP 68 ?_
              refine Ls.qP 69 ?_
              refine Ls.qT 70 ?_
              refine Ls.qM 71 ?_
              refine Ls.qP 72 ?_
              refine Ls.qP 73 ?_
              refine Ls.qP 74 ?_
              refine Ls.qP 75 ?_
              refine Ls.qP 76 ?_
              refine Ls.qT 77 ?_
              refine Ls.qM 78 ?_
              refine Ls.qP 79 ?_
              refine Ls.qP 80 ?_
              refine Ls.qP 81 ?_
              refine Ls.qP 82 ?_
              refine Ls.qT 83 ?_
              refine Ls.qM 84 ?_
              refine Ls.qP 85 ?_
              refine Ls.qP 86 ?_
              refine Ls.qP 87 ?_
              refine Ls.qP 88 ?_
              refine Ls.qT 89 ?_
              refine Ls.nil ?_
              refine Ent.inv () ?_ ?_ ?_
              · exact trivial
              · (repeat (first | exact trivial | refine ⟨by rfl, ?_⟩ | refine ⟨by simp only [List.length_append, List.length_cons, List.length_nil]; rfl, ?_⟩ | refine ⟨by push_cast; rfl, ?_⟩ | refine ⟨by (show some (Value.bool _) = some (Value.bool _); congr 2; all_goals ((first | rfl | exact (decide_eq_false (by omega)).symm | exact decide_eq_false (by omega) | (exfalso; omega) | (exfalso; rw [gtr_txt] at hT6; exact hk (of_decide_eq_true hT6))))), ?_⟩))
              · rfl
          skip
          rintro _ -
          have hok : TbOk nx t := ⟨hx.1, hx.2.1, hx.2.2.1, hx.2.2.2.1, hk, hx.2.2.2.2.1, hx.2.2.2.2.2⟩
          refine Cd.cond_false (by rfl) (rfl) ?_
          refine Cd.skip ?_
          refine Cd.seq ?_
          refine Cd.seq ?_
          refine Cd.region ?_
          refine Ls.qA 5 ?_
          refine Ls.nil ?_
          refine Cd.block ?_
          refine Cd.loop (ι := Nat) (fun k => [(1, .pointer (some ⟨g1, 0, none⟩)), (3, .int .i64 i), (4, .pointer (some ⟨g2, 0, none⟩)), (5, .int .i64 k)]) (fun _ => [blk g2 42 t.enc, blk g1 24 [.slice (some ad) l.length c, .int .i64 nx, .int .i64 lg, .int .i64 sq], rdT (some ad) l]) (fun k => k ≤ i ∧ ∀ (j : Nat) (u : TbP), j < k → l[j]? = some u → u.num ≠ t.num) (fun k => i - k) (0) (⟨Nat.zero_le _, fun j u h => absurd h (Nat.not_lt_zero _)⟩) ?_ rfl ?_
          · (repeat (first | exact trivial | refine ⟨by rfl, ?_⟩))
          rintro k ⟨hki, honce⟩
          refine Cd.seq ?_
          refine Cd.seq ?_
          refine Cd.region ?_
          refine Ls.qM 90 ?_
          refine Ls.qM 91 ?_
          refine Ls.qE 92 (Ev.lss rfl (by rfl) (by rfl)) ?_
          refine Ls.nil ?_
          refine Cd.cond _ (by rfl) (fun h3 => ?_) (fun h3 => ?_)
          · skip
            have hkl : k < i := by have := of_decide_eq_true h3; omega
            obtain ⟨u, hu⟩ := get_of_lt (show k < l.length by omega)
            skip
            refine Cd.skip ?_
            refine Cd.seq ?_
            refine Cd.block ?_
            refine Cd.seq ?_
            refine Cd.draw [] (by kernel_rfl) ?_
            refine Rg.qE 0 95 (by rfl) (Ev.fieldAddr (k := 0) rfl (by rfl) (by kernel_rfl) (by rfl)) ?_
            refine Rg.qE 1 96 (by rfl) (Ev.load 1 rfl (by rfl) (by rfl) (by kernel_rfl) (by rfl)) ?_
            refine Rg.qE 2 97 (by rfl) (Ev.move rfl (by rfl)) ?_
            refine Rg.qE 3 98 (by rfl) (Ev.indexAt (sz := 4) rfl (by rfl) (by rfl) Tryz.underlying22 (by kernel_rfl) (by omega)) ?_
            refine Rg.qE 4 99 (by rfl) (Ev.fieldAddrE0 (k := 0) rfl (by rfl) (by kernel_rfl)) ?_
            refine Rg.qE 5 100 (by rfl) (Ev.loadElF rfl (by rfl) (ReadsIn.rd 2 (by rfl)) (by kernel_rfl) (by intro _; rfl) (by assumption) (by rfl)) ?_
            refine Rg.qE 6 101 (by rfl) (Ev.fieldAddr (k := 0) rfl (by rfl) (by kernel_rfl) (by rfl)) ?_
            refine Rg.qE 7 102 (by rfl) (Ev.load 0 rfl (by rfl) (by rfl) (by kernel_rfl) (by rfl)) ?_
            refine Rg.qE 8 103 (by rfl) (Ev.eql rfl (by rfl) (by rfl)) ?_
            refine Rg.done (by kernel_rfl) ?_ _
            by_cases he : u.num = t.num
            · skip
              refine Cd.cond_true (by rfl) (decide_eq_true he) ?_
              refine Cd.seq ?_
              refine Cd.region ?_
              refine Ls.qA 2 ?_
              refine Ls.nil ?_
              refine Cd.ret ?_
              refine Ent.ret (()) (trivial) (Res.tmp (by rfl) (by rfl)) ?_ [] (by rfl) ?_
              · exact congrArg Value.bool (decide_eq_false (fun h => (h.2 i t ht).once k u hkl hu he)).symm
              · rfl
            · skip
              refine Cd.cond_false (by rfl) (decide_eq_false he) ?_
              refine Cd.skip ?_
              refine Cd.region ?_
              refine Ls.qM 93 ?_
              refine Ls.qE 94 (Ev.addN (b := 1) rfl (by rfl) (by rfl) (by omega)) ?_
              refine Ls.qA 5 ?_
              refine Ls.nil ?_
              refine Ent.inv (k + 1) ?_ ?_ ?_
              · (try dsimp only); exact ⟨⟨hkl, fun j w hj hw => by
                by_cases e : j = k
                · subst e
                  rw [hu] at hw
                  obtain rfl := Option.some.inj hw
                  exact he
                · exact honce j w (by omega) hw⟩, by omega⟩
              · (repeat (first | exact trivial | refine ⟨by rfl, ?_⟩ | refine ⟨by simp only [List.length_append, List.length_cons, List.length_nil]; rfl, ?_⟩ | refine ⟨by push_cast; rfl, ?_⟩))
              · rfl
          · skip
            obtain rfl : k = i := by have := of_decide_eq_false h3; omega
            skip
            refine Cd.exit ?_
            refine Cd.seq ?_
            by_cases h0 : 1 ≤ k
            · skip
              obtain ⟨u, hu⟩ := get_of_lt (show k - 1 < l.length by omega)
              refine Cd.draw [] (by kernel_rfl) ?_
              refine Rg.qE 0 104 (by rfl) (Ev.move rfl (by rfl)) ?_
              refine Rg.qE 1 105 (by rfl) (Ev.gtr rfl (by rfl) (by rfl)) ?_
              refine Rg.qE 2 106 (by rfl) (Ev.move rfl (by rfl)) ?_
              skip
              refine Ent.known 106 true (by rfl) (by exact (decide_eq_true (show (0 : Int) < (k : Int) by omega))) ?_
              refine Rg.qE 3 107 (by rfl) (Ev.fieldAddr (k := 0) rfl (by rfl) (by kernel_rfl) (by rfl)) ?_
              refine Rg.qE 4 108 (by rfl) (Ev.load 1 rfl (by rfl) (by rfl) (by kernel_rfl) (by rfl)) ?_
              refine Rg.qE 5 109 (by rfl) (Ev.move rfl (by rfl)) ?_
              refine Rg.qE 6 110 (by rfl) (Ev.subN (b := 1) rfl (by rfl) (by rfl) (by omega)) ?_
              refine Rg.qE 7 111 (by rfl) (Ev.indexAt (sz := 4) rfl (by rfl) (by rfl) Tryz.underlying22 (by kernel_rfl) (by omega)) ?_
              refine Rg.qE 8 112 (by rfl) (Ev.loadEl rfl (by rfl) (ReadsIn.rd 2 (by rfl)) (by kernel_rfl) (by intro _; rfl) (by assumption)) ?_
              refine Rg.qE 9 113 (by rfl) (Ev.loads 0 rfl (by rfl) (by rfl) (n := 4) (by kernel_rfl) (by rfl) (by rfl)) ?_
              refine Rg.does 10 (by rfl) (by kernel_rfl) (Does.read rfl Tryz.func41 (by kernel_rfl) (by kernel_rfl) (ahead_sl u t) (by rfl) (by rfl) trivial) (by rfl) (some 114) (by rfl) (by exact fun _ _ h => h) ?_
              rintro _ -
              refine Rg.qE 11 115 (by rfl) (Ev.not rfl (by rfl)) ?_
              refine Rg.qE 12 116 (by rfl) (Ev.pickT rfl (by rfl) (by rfl)) ?_
              refine Rg.done (by kernel_rfl) ?_ _
              cases hlu : ltT u t with
              | true =>
                skip
                refine Cd.cond_false (by rfl) (rfl) ?_
                refine Cd.skip ?_
                refine Cd.region ?_
                refine Ls.qM 39 ?_
                refine Ls.qE 40 (Ev.addN (b := 1) rfl (by rfl) (by rfl) (by omega)) ?_
                refine Ls.qA 3 ?_
                refine Ls.nil ?_
                refine Ent.pick [1, 2] (by rfl) ?_
                refine Ent.inv (k + 1) ?_ ?_ ?_
                · (try dsimp only); exact ⟨⟨hlt, fun j w hj hw => by
                  by_cases e : j = k
                  · subst e
                    rw [ht] at hw
                    obtain rfl := Option.some.inj hw
                    exact ⟨hok, honce, fun w _ hw => by rw [hu] at hw; obtain rfl := Option.some.inj hw; exact hlu⟩
                  · exact hall j w (by omega) hw⟩, by omega⟩
                · (repeat (first | exact trivial | refine ⟨by rfl, ?_⟩ | refine ⟨by simp only [List.length_append, List.length_cons, List.length_nil]; rfl, ?_⟩ | refine ⟨by push_cast; rfl, ?_⟩))
                · rfl
              | false =>
                skip
                refine Cd.cond_true (by rfl) (rfl) ?_
                refine Cd.seq ?_
                refine Cd.region ?_
                refine Ls.qA 2 ?_
                refine Ls.nil ?_
                refine Cd.ret ?_
                refine Ent.ret (()) (trivial) (Res.tmp (by rfl) (by rfl)) ?_ [] (by rfl) ?_
                · exact congrArg Value.bool (decide_eq_false (fun h => by
                    have := (h.2 k t ht).ahead u h0 hu
                    rw [hlu] at this
                    cases this)).symm
                · rfl
            · skip
              obtain rfl : k = 0 := by omega
              refine Cd.draw [] (by kernel_rfl) ?_
              refine Rg.qE 0 104 (by rfl) (Ev.move rfl (by rfl)) ?_
              refine Rg.qE 1 105 (by rfl) (Ev.gtr rfl (by rfl) (by rfl)) ?_
              refine Rg.qE 2 106 (by rfl) (Ev.move rfl (by rfl)) ?_
              refine Ent.known 106 false (by rfl) (by exact (decide_eq_false (show ¬ ((0 : Int) < ((0 : Nat) : Int)) by decide))) ?_
              refine Rg.qP 3 107 ?_
              refine Rg.qP 4 108 ?_
              refine Rg.qP 5 109 ?_
              refine Rg.qP 6 110 ?_
              refine Rg.qP 7 111 ?_
              refine Rg.qP 8 112 ?_
              refine Rg.qP 9 113 ?_
              refine Rg.qP 10 114 ?_
              refine Rg.qP 11 115 ?_
              refine Rg.qE 12 116 (by rfl) (Ev.pickF rfl (by rfl) (by rfl)) ?_
              refine Rg.done (by kernel_rfl) ?_ _
              refine Cd.cond_false (by rfl) (rfl) ?_
              refine Cd.skip ?_
              refine Cd.region ?_
              refine Ls.qM 39 ?_
              refine Ls.qE 40 (Ev.addN (b := 1) rfl (by rfl) (by rfl) (by omega)) ?_
              refine Ls.qA 3 ?_
              refine Ls.nil ?_
              refine Ent.pick [1, 2] (by rfl) ?_
              refine Ent.inv (1) ?_ ?_ ?_
              · (try dsimp only); exact ⟨⟨hlt, fun j w hj hw => by
                obtain rfl : j = 0 := by omega
                rw [ht] at hw
                obtain rfl := Option.some.inj hw
                exact ⟨hok, honce, fun w h => absurd h (by decide)⟩⟩, by omega⟩
              · (repeat (first | exact trivial | refine ⟨by rfl, ?_⟩ | refine ⟨by simp only [List.length_append, List.length_cons, List.length_nil]; rfl, ?_⟩ | refine ⟨by push_cast; rfl, ?_⟩))
              · rfl
    · skip
      have hge : l.length ≤ i := by have := of_decide_eq_false h2; omega
      refine Cd.exit ?_
      refine Cd.seq ?_
      refine Cd.region ?_
      refine Ls.qA 2 ?_
      refine Ls.nil ?_
      refine Cd.ret ?_
      refine Ent.ret (()) (trivial) (Res.tmp (by rfl) (by rfl)) ?_ [] (by rfl) ?_
      · refine congrArg Value.bool (decide_eq_true ⟨hr, fun j t ht => hall j t ?_ ht⟩).symm
        have := (List.getElem?_eq_some_iff.1 ht).1
        dsimp only at this
        omega
      · rfl
end Go.Proofs.YtacbkganjkipdaaGreatDoor
/- tables sorted in place: one put in behind the other -/
namespace Go.Proofs.YtacbkganjkipdaaGreatDoor
open Go.RowKit
section
variable {Γ : Ctx} {N : Frm} {P : Program} {E : Env} {H : List Chunk} {o : Oper} {x y : Operand}
theorem Does.storeTb {t n c e k : Nat} {A : Option Addr} {ad : Addr} {D : List TbP} {v : TbP} (i : Nat) (ho : o.op = .store t x y) (hx : E.ev x = some (.pointer (some (ad.add (k * 4))))) (hy : E.ev y = some (.agg v.enc.toArray)) (hi : H[i]? = some (row A n c e 4 (tbs D))) (hA : A = some ad) (hsz : (P.info? t).map (·.size) = some 4) (hk : k < D.length) (hn : D.length = n) :
    Does Γ N P E H o Unit (fun _ => undef) (fun _ => H.set i (row A n c e 4 (tbs (D.set k v)))) (fun _ => True) :=
  Does.storeRow i ho hx hy hi hA hsz (List.all_eq_true.2 fun u hu => one_tb [v] u (by rw [show tbs [v] = v.enc from List.append_nil _]; exact hu)) (by
    have hl : (tbs D).length = D.length * 4 := by
      unfold tbs
      rw [List.length_flatMap]
      simp only [tb_len]
      rw [List.map_const', List.sum_replicate_nat]
    rw [hl]
    show k * 4 + 4 ≤ D.length * 4
    omega) (by omega) (setR_enc (sz := 4) (fun _ => rfl) D k v hk)
end
theorem ord_fnv (t u : TbP) : FnV Tryz.prog ordV [.agg t.enc.toArray, .agg u.enc.toArray] [] Unit (fun _ => .int .i64 (ordI t u)) (fun _ => []) (fun _ => True) :=
  ⟨40, Tryz.f40, [], rfl, Tryz.func40, by kernel_rfl, by kernel_rfl, order_sl t u⟩
set_option maxHeartbeats 1000000 in
theorem ins_sl (A : Option Addr) (n c : Nat) (D : List TbP) (a b : Nat) (hn : D.length = n) (hb : b ≤ n) (hab : a ≤ b) (hm : n ≤ 1000000000000) : Fn Tryz.prog 119 #[.slice A n c, .int .i64 a, .int .i64 b, ordV] [rowTb A n c D] (List TbP) (fun _ => .tuple #[]) (fun D' => [rowTb A n c D']) (fun D' => Mv a b D D' ∧ SOn ltT D' a b) := by
  refine Fn.enter Tryz.func119 rfl Tryz.ntmps119 (by rfl) ?_
  intro w0
  skip
  refine Cd.seq ?_
  refine Cd.region ?_
  refine Ls.qM 10 ?_
  refine Ls.qE 11 (Ev.addN (b := 1) rfl (by rfl) (by rfl) (by omega)) ?_
  refine Ls.qA 8 ?_
  refine Ls.nil ?_
  refine Cd.block ?_
  refine Cd.loop (ι := Nat × List TbP) (fun p => [(0, .slice A n c), (1, .int .i64 a), (2, .int .i64 b), (3, ordV), (8, .int .i64 p.1)]) (fun p => [rowTb A n c p.2]) (fun p => a < p.1 ∧ (p.1 ≤ b ∨ p.1 = a + 1) ∧ Mv a b D p.2 ∧ SOn ltT p.2 a p.1) (fun p => b - p.1) ((a + 1, D)) (⟨Nat.lt_succ_self _, .inr rfl, Mv.refl _ _ _, SOn.one (Nat.le_refl _)⟩) ?_ rfl ?_
  · (repeat (first | exact trivial | refine ⟨by rfl, ?_⟩))
  rintro ⟨i, D1⟩ ⟨hi1, hi2, hmv, hso⟩
  dsimp only at hi1 hi2 hmv hso ⊢
  refine Cd.seq ?_
  refine Cd.seq ?_
  refine Cd.region ?_
  refine Ls.qM 12 ?_
  refine Ls.qM 13 ?_
  refine Ls.qE 14 (Ev.lss rfl (by rfl) (by rfl)) ?_
  refine Ls.nil ?_
  refine Cd.cond _ (by rfl) (fun h2 => ?_) (fun h2 => ?_)
  · skip
    have hib : i < b := by have := of_decide_eq_true h2; omega
    refine Cd.skip ?_
    refine Cd.seq ?_
    refine Cd.block ?_
    refine Cd.seq ?_
    refine Cd.region ?_
    refine Ls.qM 17 ?_
    refine Ls.qA 9 ?_
    refine Ls.nil ?_
    refine Cd.block ?_
    refine Cd.loop (ι := Nat × List TbP) (fun p => [(0, .slice A n c), (1, .int .i64 a), (2, .int .i64 b), (3, ordV), (8, .int .i64 i), (9, .int .i64 p.1)]) (fun p => [rowTb A n c p.2]) (fun p => a ≤ p.1 ∧ p.1 ≤ i ∧ Mv a b D p.2 ∧ InsJ ltT p.2 a i p.1) (fun p => p.1) ((i, D1)) (⟨Nat.le_of_lt hi1, Nat.le_refl _, hmv, InsJ.start hso⟩) ?_ rfl ?_
    · (repeat (first | exact trivial | refine ⟨by rfl, ?_⟩))
    rintro ⟨j, D2⟩ ⟨hj1, hj2, hmv2, hin⟩
    dsimp only at hj1 hj2 hmv2 hin ⊢
    have hl2 : D2.length = n := hmv2.len.trans hn
    refine Cd.seq ?_
    refine Cd.seq ?_
    by_cases haj : a < j
    · skip
      obtain ⟨k, rfl⟩ : ∃ k, j = k + 1 := ⟨j - 1, by omega⟩
      obtain ⟨x, hx⟩ := get_of_lt (show k + 1 < D2.length by omega)
      obtain ⟨y, hy⟩ := get_of_lt (show k < D2.length by omega)
      refine Ent.rowSome 0 (by rfl) (by omega) (fun ad had => ?_)
      obtain rfl : A = some ad := had
      refine Cd.draw [] (by kernel_rfl) ?_
      refine Rg.qE 0 18 (by rfl) (Ev.move rfl (by rfl)) ?_
      refine Rg.qE 1 19 (by rfl) (Ev.move rfl (by rfl)) ?_
      refine Rg.qE 2 20 (by rfl) (Ev.gtr rfl (by rfl) (by rfl)) ?_
      refine Rg.qE 3 21 (by rfl) (Ev.move rfl (by rfl)) ?_
      refine Ent.known 21 true (by rfl) (by exact (decide_eq_true (show (a : Int) < ((k + 1 : Nat) : Int) by omega))) ?_
      refine Rg.qE 4 22 (by rfl) (Ev.move rfl (by rfl)) ?_
      refine Rg.qE 5 23 (by rfl) (Ev.move rfl (by rfl)) ?_
      refine Rg.qE 6 24 (by rfl) (Ev.move rfl (by rfl)) ?_
      refine Rg.qE 7 25 (by rfl) (Ev.indexAt (sz := 4) rfl (by rfl) (by rfl) Tryz.underlying22 (by kernel_rfl) (by omega)) ?_
      refine Rg.qE 8 26 (by rfl) (Ev.loadEl rfl (by rfl) (ReadsIn.row 0 (by rfl)) (by kernel_rfl) (by intro _; rfl) (by assumption)) ?_
      refine Rg.qE 9 27 (by rfl) (Ev.move rfl (by rfl)) ?_
      refine Rg.qE 10 28 (by rfl) (Ev.move rfl (by rfl)) ?_
      refine Rg.qE 11 29 (by rfl) (Ev.subN (b := 1) rfl (by rfl) (by rfl) (by omega)) ?_
      refine Rg.qE 12 30 (by rfl) (Ev.indexAt (sz := 4) rfl (by rfl) (by rfl) Tryz.underlying22 (by kernel_rfl) (by omega)) ?_
      refine Rg.qE 13 31 (by rfl) (Ev.loadEl rfl (by rfl) (ReadsIn.row 0 (by rfl)) (by kernel_rfl) (by intro _; rfl) (by assumption)) ?_
      refine Rg.does 14 (by rfl) (by kernel_rfl) (Does.readV rfl (by rfl) (ord_fnv x y) (by rfl) (by rfl) trivial) (by rfl) (some 32) (by rfl) (by exact fun _ _ h => h) ?_
      rintro _ -
      refine Rg.qE 15 33 (by rfl) (Ev.lss rfl (by rfl) (by rfl)) ?_
      rw [ordI_lt]
      refine Rg.qE 16 34 (by rfl) (Ev.pickT rfl (by rfl) (by rfl)) ?_
      refine Rg.done (by kernel_rfl) ?_ _
      cases hlt : ltT x y with
      | true =>
        skip
        refine Cd.cond_true (by rfl) (rfl) ?_
        refine Cd.skip ?_
        refine Cd.seq ?_
        refine Cd.block ?_
        refine Cd.draw [15] (by kernel_rfl) ?_
        refine Rg.qE 0 37 (by rfl) (Ev.move rfl (by rfl)) ?_
        refine Rg.qE 1 38 (by rfl) (Ev.move rfl (by rfl)) ?_
        refine Rg.mv 2 (by rfl) (fun _ h => h) rfl (by rfl) (by rfl) (some 39) (by rfl) (by kernel_rfl) (by kernel_rfl) (by kernel_rfl) (by kernel_rfl) ?_
        refine Rg.mv 3 (by rfl) (fun _ h => h) rfl (by rfl) (by rfl) (some 40) (by rfl) (by kernel_rfl) (by kernel_rfl) (by kernel_rfl) (by kernel_rfl) ?_
        refine Rg.pv 4 (by rfl) (fun _ h => h) (fun _ => Ev.subN (b := 1) rfl (by rfl) (by rfl) (by omega)) (by rfl) (some 41) (by rfl) (by kernel_rfl) (by kernel_rfl) (by kernel_rfl) (by kernel_rfl) ?_
        refine Rg.qE 5 42 (by rfl) (Ev.move rfl (by rfl)) ?_
        refine Rg.qE 6 43 (by rfl) (Ev.move rfl (by rfl)) ?_
        refine Rg.qE 7 44 (by rfl) (Ev.subN (b := 1) rfl (by rfl) (by rfl) (by omega)) ?_
        refine Rg.qE 8 45 (by rfl) (Ev.indexAt (sz := 4) rfl (by rfl) (by rfl) Tryz.underlying22 (by kernel_rfl) (by omega)) ?_
        refine Rg.qE 9 46 (by rfl) (Ev.loadEl rfl (by rfl) (ReadsIn.row 0 (by rfl)) (by kernel_rfl) (by intro _; rfl) (by assumption)) ?_
        refine Rg.qE 10 47 (by rfl) (Ev.move rfl (by rfl)) ?_
        refine Rg.qE 11 48 (by rfl) (Ev.move rfl (by rfl)) ?_
        refine Rg.qE 12 49 (by rfl) (Ev.indexAt (sz := 4) rfl (by rfl) (by rfl) Tryz.underlying22 (by kernel_rfl) (by omega)) ?_
        refine Rg.qE 13 50 (by rfl) (Ev.loadEl rfl (by rfl) (ReadsIn.row 0 (by rfl)) (by kernel_rfl) (by intro _; rfl) (by assumption)) ?_
        refine Rg.qE 14 51 (by rfl) (Ev.indexAt (sz := 4) rfl (by rfl) (by rfl) Tryz.underlying22 (by kernel_rfl) (by omega)) ?_
        refine Rg.tail 15 [17] (by rfl) (by kernel_rfl) (Does.storeTb (k := k + 1) (v := y) 0 rfl (by rfl) (by rfl) (by rfl) rfl (by kernel_rfl) (by omega) hl2) (by rfl) none (by rfl) (by kernel_rfl) (by kernel_rfl) ?_
        rintro _ -
        refine Rg.qE 16 52 (by rfl) (Ev.indexAt (sz := 4) rfl (by rfl) (by rfl) Tryz.underlying22 (by kernel_rfl) (by omega)) ?_
        refine Rg.tail 17 [] (by rfl) (by kernel_rfl) (Does.storeTb (k := k) (v := x) 0 rfl (by rfl) (by rfl) (by rfl) rfl (by kernel_rfl) (by rw [List.length_set]; omega) (by rw [List.length_set]; exact hl2)) (by rfl) none (by rfl) (by kernel_rfl) (by kernel_rfl) ?_
        rintro _ -
        refine Rg.done (by kernel_rfl) ?_ _
        refine Cd.region ?_
        refine Ls.qM 35 ?_
        refine Ls.qE 36 (Ev.subN (b := 1) rfl (by rfl) (by rfl) (by omega)) ?_
        refine Ls.qA 9 ?_
        refine Ls.nil ?_
        refine Ent.inv ((k, (D2.set (k + 1) y).set k x)) ?_ ?_ ?_
        · (try dsimp only); exact ⟨⟨by omega, by omega, hmv2.trans (Mv.swap hx hy (by omega) (by omega) (by omega) (by omega)), hin.step ltT_ord (by omega) hj2 hx hy hlt⟩, by omega⟩
        · (repeat (first | exact trivial | refine ⟨by rfl, ?_⟩ | refine ⟨by simp only [List.length_append, List.length_cons, List.length_nil]; rfl, ?_⟩ | refine ⟨by push_cast; rfl, ?_⟩))
        · rfl
      | false =>
        skip
        refine Cd.cond_false (by rfl) (rfl) ?_
        refine Cd.exit ?_
        refine Cd.region ?_
        refine Ls.qM 15 ?_
        refine Ls.qE 16 (Ev.addN (b := 1) rfl (by rfl) (by rfl) (by omega)) ?_
        refine Ls.qA 8 ?_
        refine Ls.nil ?_
        refine Ent.inv ((i + 1, D2)) ?_ ?_ ?_
        · (try dsimp only); exact ⟨⟨by omega, by omega, hmv2, hin.stop ltT_ord hj2 (.inr ⟨x, y, by omega, by omega, hx, by rw [Nat.add_sub_cancel]; exact hy, hlt⟩)⟩, by omega⟩
        · (repeat (first | exact trivial | refine ⟨by rfl, ?_⟩ | refine ⟨by simp only [List.length_append, List.length_cons, List.length_nil]; rfl, ?_⟩ | refine ⟨by push_cast; rfl, ?_⟩))
        · rfl
    · skip
      refine Cd.draw [] (by kernel_rfl) ?_
      refine Rg.qE 0 18 (by rfl) (Ev.move rfl (by rfl)) ?_
      refine Rg.qE 1 19 (by rfl) (Ev.move rfl (by rfl)) ?_
      refine Rg.qE 2 20 (by rfl) (Ev.gtr rfl (by rfl) (by rfl)) ?_
      refine Rg.qE 3 21 (by rfl) (Ev.move rfl (by rfl)) ?_
      refine Ent.known 21 false (by rfl) (by exact (decide_eq_false (show ¬ ((a : Int) < (j : Int)) by omega))) ?_
      refine Rg.qP 4 22 ?_
      refine Rg.qP 5 23 ?_
      refine Rg.qP 6 24 ?_
      refine Rg.qP 7 25 ?_
      refine Rg.qP 8 26 ?_
      refine Rg.qP 9 27 ?_
      refine Rg.qP 10 28 ?_
      refine Rg.qP 11 29 ?_
      refine Rg.qP 12 30 ?_
      refine Rg.qP 13 31 ?_
      refine Rg.qP 14 32 ?_
      refine Rg.qP 15 33 ?_
      refine Rg.qE 16 34 (by rfl) (Ev.pickF rfl (by rfl) (by rfl)) ?_
      refine Rg.done (by kernel_rfl) ?_ _
      refine Cd.cond_false (by rfl) (rfl) ?_
      refine Cd.exit ?_
      refine Cd.region ?_
      refine Ls.qM 15 ?_
      refine Ls.qE 16 (Ev.addN (b := 1) rfl (by rfl) (by rfl) (by omega)) ?_
      refine Ls.qA 8 ?_
      refine Ls.nil ?_
      refine Ent.inv ((i + 1, D2)) ?_ ?_ ?_
      · (try dsimp only); exact ⟨⟨by omega, by omega, hmv2, hin.stop ltT_ord hj2 (.inl (by omega))⟩, by omega⟩
      · (repeat (first | exact trivial | refine ⟨by rfl, ?_⟩ | refine ⟨by simp only [List.length_append, List.length_cons, List.length_nil]; rfl, ?_⟩ | refine ⟨by push_cast; rfl, ?_⟩))
      · rfl
  · skip
    have hge : b ≤ i := by have := of_decide_eq_false h2; omega
    refine Cd.exit ?_
    refine Ent.fin (D1) (⟨hmv, hso.sub (Nat.le_refl _) hge⟩) (Res.nothing (by rfl)) ?_ [0] (by rfl) ?_
    · rfl
    · rfl
end Go.Proofs.YtacbkganjkipdaaGreatDoor
/- tables sorted in place: ranges exchanged -/
namespace Go.Proofs.YtacbkganjkipdaaGreatDoor
open Go.RowKit
set_option maxHeartbeats 1000000 in
theorem swap_sl (A : Option Addr) (n c : Nat) (D : List TbP) (a b k : Nat) (hn : D.length = n) (hab : a + k ≤ b) (hb : b + k ≤ n) (hm : n ≤ 1000000000000) : Fn Tryz.prog 158 #[.slice A n c, .int .i64 a, .int .i64 b, .int .i64 k, ordV] [rowTb A n c D] (List TbP) (fun _ => .tuple #[]) (fun D' => [rowTb A n c D']) (fun D' => Sw a b k D D') := by
  refine Fn.enter Tryz.func158 rfl Tryz.ntmps158 (by rfl) ?_
  intro w0
  skip
  refine Cd.seq ?_
  refine Cd.region ?_
  refine Ls.qA 10 ?_
  refine Ls.nil ?_
  refine Cd.block ?_
  refine Cd.loop (ι := Nat × List TbP) (fun p => [(0, .slice A n c), (1, .int .i64 a), (2, .int .i64 b), (3, .int .i64 k), (10, .int .i64 p.1)]) (fun p => [rowTb A n c p.2]) (fun p => p.1 ≤ k ∧ Sw a b p.1 D p.2) (fun p => k - p.1) ((0, D)) (⟨Nat.zero_le _, Sw.none_ _ _ _⟩) ?_ rfl ?_
  · (repeat (first | exact trivial | refine ⟨by rfl, ?_⟩))
  rintro ⟨i, D1⟩ ⟨hi, hsw⟩
  dsimp only at hi hsw ⊢
  have hl1 : D1.length = n := hsw.mv.len.trans hn
  refine Cd.seq ?_
  refine Cd.seq ?_
  refine Cd.region ?_
  refine Ls.qM 11 ?_
  refine Ls.qM 12 ?_
  refine Ls.qE 13 (Ev.lss rfl (by rfl) (by rfl)) ?_
  refine Ls.nil ?_
  refine Cd.cond _ (by rfl) (fun h2 => ?_) (fun h2 => ?_)
  · skip
    have hik : i < k := by have := of_decide_eq_true h2; omega
    obtain ⟨x, hx⟩ := get_of_lt (show a + i < D1.length by omega)
    obtain ⟨y, hy⟩ := get_of_lt (show b + i < D1.length by omega)
    refine Ent.rowSome 0 (by rfl) (by omega) (fun ad had => ?_)
    obtain rfl : A = some ad := had
    refine Cd.skip ?_
    refine Cd.seq ?_
    refine Cd.block ?_
    refine Cd.draw [21] (by kernel_rfl) ?_
    refine Rg.qE 0 16 (by rfl) (Ev.move rfl (by rfl)) ?_
    refine Rg.qE 1 17 (by rfl) (Ev.move rfl (by rfl)) ?_
    refine Rg.qE 2 18 (by rfl) (Ev.move rfl (by rfl)) ?_
    refine Rg.qE 3 19 (by rfl) (Ev.addN rfl (by rfl) (by rfl) (by omega)) ?_
    refine Rg.mv 4 (by rfl) (fun _ h => h) rfl (by rfl) (by rfl) (some 20) (by rfl) (by kernel_rfl) (by kernel_rfl) (by kernel_rfl) (by kernel_rfl) ?_
    refine Rg.mv 5 (by rfl) (fun _ h => h) rfl (by rfl) (by rfl) (some 21) (by rfl) (by kernel_rfl) (by kernel_rfl) (by kernel_rfl) (by kernel_rfl) ?_
    refine Rg.mv 6 (by rfl) (fun _ h => h) rfl (by rfl) (by rfl) (some 22) (by rfl) (by kernel_rfl) (by kernel_rfl) (by kernel_rfl) (by kernel_rfl) ?_
    refine Rg.pv 7 (by rfl) (fun _ h => h) (fun _ => Ev.addN rfl (by rfl) (by rfl) (by omega)) (by rfl) (some 23) (by rfl) (by kernel_rfl) (by kernel_rfl) (by kernel_rfl) (by kernel_rfl) ?_
    refine Rg.qE 8 24 (by rfl) (Ev.move rfl (by rfl)) ?_
    refine Rg.qE 9 25 (by rfl) (Ev.move rfl (by rfl)) ?_
    refine Rg.qE 10 26 (by rfl) (Ev.move rfl (by rfl)) ?_
    refine Rg.qE 11 27 (by rfl) (Ev.addN rfl (by rfl) (by rfl) (by omega)) ?_
    refine Rg.qE 12 28 (by rfl) (Ev.indexAt (sz := 4) rfl (by rfl) (by rfl) Tryz.underlying22 (by kernel_rfl) (by omega)) ?_
    refine Rg.qE 13 29 (by rfl) (Ev.loadEl rfl (by rfl) (ReadsIn.row 0 (by rfl)) (by kernel_rfl) (by intro _; rfl) (by assumption)) ?_
    refine Rg.qE 14 30 (by rfl) (Ev.move rfl (by rfl)) ?_
    refine Rg.qE 15 31 (by rfl) (Ev.move rfl (by rfl)) ?_
    refine Rg.qE 16 32 (by rfl) (Ev.move rfl (by rfl)) ?_
    refine Rg.qE 17 33 (by rfl) (Ev.addN rfl (by rfl) (by rfl) (by omega)) ?_
    refine Rg.qE 18 34 (by rfl) (Ev.indexAt (sz := 4) rfl (by rfl) (by rfl) Tryz.underlying22 (by kernel_rfl) (by omega)) ?_
    refine Rg.qE 19 35 (by rfl) (Ev.loadEl rfl (by rfl) (ReadsIn.row 0 (by rfl)) (by kernel_rfl) (by intro _; rfl) (by assumption)) ?_
    refine Rg.qE 20 36 (by rfl) (Ev.indexAt (sz := 4) rfl (by rfl) (by rfl) Tryz.underlying22 (by kernel_rfl) (by omega)) ?_
    refine Rg.tail 21 [23] (by rfl) (by kernel_rfl) (Does.storeTb (k := a + i) (v := y) 0 rfl (by rfl) (by rfl) (by rfl) rfl (by kernel_rfl) (by omega) hl1) (by rfl) none (by rfl) (by kernel_rfl) (by kernel_rfl) ?_
    rintro _ -
    refine Rg.qE 22 37 (by rfl) (Ev.indexAt (sz := 4) rfl (by rfl) (by rfl) Tryz.underlying22 (by kernel_rfl) (by omega)) ?_
    refine Rg.tail 23 [] (by rfl) (by kernel_rfl) (Does.storeTb (k := b + i) (v := x) 0 rfl (by rfl) (by rfl) (by rfl) rfl (by kernel_rfl) (by rw [List.length_set]; omega) (by rw [List.length_set]; exact hl1)) (by rfl) none (by rfl) (by kernel_rfl) (by kernel_rfl) ?_
    rintro _ -
    refine Rg.done (by kernel_rfl) ?_ _
    refine Cd.region ?_
    refine Ls.qM 14 ?_
    refine Ls.qE 15 (Ev.addN (b := 1) rfl (by rfl) (by rfl) (by omega)) ?_
    refine Ls.qA 10 ?_
    refine Ls.nil ?_
    refine Ent.inv ((i + 1, (D1.set (a + i) y).set (b + i) x)) ?_ ?_ ?_
    · (try dsimp only); exact ⟨⟨hik, hsw.step (by omega) hx hy⟩, by omega⟩
    · (repeat (first | exact trivial | refine ⟨by rfl, ?_⟩ | refine ⟨by simp only [List.length_append, List.length_cons, List.length_nil]; rfl, ?_⟩ | refine ⟨by push_cast; rfl, ?_⟩))
    · rfl
  · skip
    have hge : i = k := by have := of_decide_eq_false h2; omega
    subst hge
    refine Cd.exit ?_
    refine Ent.fin (D1) (hsw) (Res.nothing (by rfl)) ?_ [0] (by rfl) ?_
    · rfl
    · rfl
set_option maxHeartbeats 1000000 in
theorem rot_sl (A : Option Addr) (n c : Nat) (D : List TbP) (a m b : Nat) (hn : D.length = n) (ham : a < m) (hmb : m < b) (hb : b ≤ n) (hm : n ≤ 1000000000000) : Fn Tryz.prog 142 #[.slice A n c, .int .i64 a, .int .i64 m, .int .i64 b, ordV] [rowTb A n c D] (List TbP) (fun _ => .tuple #[]) (fun D' => [rowTb A n c D']) (fun D' => Rot a m b D D') := by
  refine Fn.enter Tryz.func142 rfl Tryz.ntmps142 (by rfl) ?_
  intro w0
  skip
  refine Cd.seq ?_
  refine Cd.region ?_
  refine Ls.qM 12 ?_
  refine Ls.qM 13 ?_
  refine Ls.qE 14 (Ev.subN rfl (by rfl) (by rfl) (by omega)) ?_
  refine Ls.qA 10 ?_
  refine Ls.nil ?_
  refine Cd.seq ?_
  refine Cd.region ?_
  refine Ls.qM 15 ?_
  refine Ls.qM 16 ?_
  refine Ls.qE 17 (Ev.subN rfl (by rfl) (by rfl) (by omega)) ?_
  refine Ls.qA 11 ?_
  refine Ls.nil ?_
  refine Cd.seq ?_
  refine Cd.block ?_
  refine Cd.loop (ι := Nat × Nat × List TbP) (fun p => [(0, .slice A n c), (2, .int .i64 m), (4, ordV), (10, .int .i64 p.1), (11, .int .i64 p.2.1)]) (fun p => [rowTb A n c p.2.2]) (fun p => 1 ≤ p.1 ∧ 1 ≤ p.2.1 ∧ p.1 ≤ m ∧ m + p.2.1 ≤ n ∧ p.2.2.length = n ∧ ∀ D', Rot (m - p.1) m (m + p.2.1) p.2.2 D' → Rot a m b D D') (fun p => p.1 + p.2.1) ((m - a, b - m, D)) (⟨by dsimp only; omega, by dsimp only; omega, by dsimp only; omega, by dsimp only; omega, hn, fun D' h => by
    dsimp only at h
    rw [show m - (m - a) = a by omega, show m + (b - m) = b by omega] at h
    exact h⟩) ?_ rfl ?_
  · (repeat (first | exact trivial | refine ⟨by rfl, ?_⟩))
  rintro ⟨i, j, D1⟩ ⟨hi, hj, him, hjn, hl1, hrot⟩
  dsimp only at hi hj him hjn hl1 hrot ⊢
  refine Cd.seq ?_
  refine Cd.seq ?_
  refine Cd.region ?_
  refine Ls.qM 18 ?_
  refine Ls.qM 19 ?_
  refine Ls.qE 20 (Ev.neq rfl (by rfl) (by rfl)) ?_
  refine Ls.nil ?_
  refine Cd.cond _ (by rfl) (fun h2 => ?_) (fun h2 => ?_)
  · skip
    have hne : i ≠ j := by have := of_decide_eq_true h2; omega
    refine Cd.skip ?_
    refine Cd.block ?_
    refine Cd.seq ?_
    refine Cd.region ?_
    refine Ls.qM 21 ?_
    refine Ls.qM 22 ?_
    refine Ls.qE 23 (Ev.gtr rfl (by rfl) (by rfl)) ?_
    refine Ls.nil ?_
    refine Cd.cond _ (by rfl) (fun h3 => ?_) (fun h3 => ?_)
    · skip
      have hlt : j < i := by have := of_decide_eq_true h3; omega
      refine Cd.seq ?_
      refine Cd.region ?_
      refine Ls.qM 24 ?_
      refine Ls.qM 25 ?_
      refine Ls.qM 26 ?_
      refine Ls.qE 27 (Ev.subN rfl (by rfl) (by rfl) (by omega)) ?_
      refine Ls.qM 28 ?_
      refine Ls.qM 29 ?_
      refine Ls.qM 30 ?_
      refine Ls.does (some 31) (Does.call [0] rfl Tryz.func158 (by kernel_rfl) (by kernel_rfl) (swap_sl A n c D1 (m - i) m j hl1 (by omega) (by omega) hm) (by rfl) (by rfl) (by rfl)) (by rfl) (by rfl) ?_
      rintro D2 hsw
      refine Ls.nil ?_
      refine Cd.region ?_
      refine Ls.qM 32 ?_
      refine Ls.qM 33 ?_
      refine Ls.qE 34 (Ev.subN rfl (by rfl) (by rfl) (by omega)) ?_
      refine Ls.qA 10 ?_
      refine Ls.nil ?_
      refine Ent.inv ((i - j, j, D2)) ?_ ?_ ?_
      · (try dsimp only); exact ⟨⟨by omega, hj, by omega, hjn, hsw.mv.len.trans hl1, fun D' h => hrot D' (Rot.more hsw hlt him h)⟩, by omega⟩
      · (repeat (first | exact trivial | refine ⟨by rfl, ?_⟩ | refine ⟨by simp only [List.length_append, List.length_cons, List.length_nil]; rfl, ?_⟩ | refine ⟨by push_cast; rfl, ?_⟩))
      · rfl
    · skip
      have hlt : i < j := by have := of_decide_eq_false h3; omega
      refine Cd.seq ?_
      refine Cd.region ?_
      refine Ls.qM 35 ?_
      refine Ls.qM 36 ?_
      refine Ls.qM 37 ?_
      refine Ls.qE 38 (Ev.subN rfl (by rfl) (by rfl) (by omega)) ?_
      refine Ls.qM 39 ?_
      refine Ls.qM 40 ?_
      refine Ls.qE 41 (Ev.addN rfl (by rfl) (by rfl) (by omega)) ?_
      refine Ls.qM 42 ?_
      refine Ls.qE 43 (Ev.subN rfl (by rfl) (by rfl) (by omega)) ?_
      refine Ls.qM 44 ?_
      refine Ls.qM 45 ?_
      refine Ls.does (some 46) (Does.call [0] rfl Tryz.func158 (by kernel_rfl) (by kernel_rfl) (swap_sl A n c D1 (m - i) (m + j - i) i hl1 (by omega) (by omega) hm) (by rfl) (by rfl) (by rfl)) (by rfl) (by rfl) ?_
      rintro D2 hsw
      refine Ls.nil ?_
      refine Cd.region ?_
      refine Ls.qM 47 ?_
      refine Ls.qM 48 ?_
      refine Ls.qE 49 (Ev.subN rfl (by rfl) (by rfl) (by omega)) ?_
      refine Ls.qA 11 ?_
      refine Ls.nil ?_
      refine Ent.inv ((i, j - i, D2)) ?_ ?_ ?_
      · (try dsimp only); exact ⟨⟨hi, by omega, him, by omega, hsw.mv.len.trans hl1, fun D' h => hrot D' (Rot.less hsw hlt him h)⟩, by omega⟩
      · (repeat (first | exact trivial | refine ⟨by rfl, ?_⟩ | refine ⟨by simp only [List.length_append, List.length_cons, List.length_nil]; rfl, ?_⟩ | refine ⟨by push_cast; rfl, ?_⟩))
      · rfl
  · skip
    have he : i = j := by have := of_decide_eq_false h2; omega
    subst he
    refine Cd.exit ?_
    refine Cd.region ?_
    refine Ls.qM 50 ?_
    refine Ls.qM 51 ?_
    refine Ls.qM 52 ?_
    refine Ls.qE 53 (Ev.subN rfl (by rfl) (by rfl) (by omega)) ?_
    refine Ls.qM 54 ?_
    refine Ls.qM 55 ?_
    refine Ls.qM 56 ?_
    refine Ls.does (some 57) (Does.call [0] rfl Tryz.func158 (by kernel_rfl) (by kernel_rfl) (swap_sl A n c D1 (m - i) m i hl1 (by omega) (by omega) hm) (by rfl) (by rfl) (by rfl)) (by rfl) (by rfl) ?_
    rintro D2 hsw
    refine Ls.nil ?_
    refine Ent.fin (D2) (hrot D2 (Rot.same hsw him)) (Res.nothing (by rfl)) ?_ [0] (by rfl) ?_
    · rfl
    · rfl
end Go.Proofs.YtacbkganjkipdaaGreatDoor
/- tables sorted in place: two parts merged -/
namespace Go.Proofs.YtacbkganjkipdaaGreatDoor
open Go.RowKit
theorem half_ (k : Nat) : ((k : Nat) : Int).fdiv (2 ^ (min (1 : Int).toNat IntKind.u64.bits)) = ((k / 2 : Nat) : Int) := by
  have e : ((2 : Int) ^ (min (1 : Int).toNat IntKind.u64.bits)) = 2 := by decide
  rw [e, Int.fdiv_eq_ediv_of_nonneg _ (by decide)]
  omega
section
variable {D : List TbP} {a b m : Nat} {x : TbP}
/-- What a search has told: what is ahead of i isn't behind x, what is from j on isn't ahead of it. -/
structure Srch (D : List TbP) (x : TbP) (lo hi i j : Nat) : Prop where
  l1 : lo ≤ i
  l2 : i ≤ j
  l3 : j ≤ hi
  low : ∀ k y, lo ≤ k → k < i → D[k]? = some y → ltT x y = false
  high : ∀ k y, j ≤ k → k < hi → D[k]? = some y → ltT y x = false
theorem Srch.start (D : List TbP) (x : TbP) {lo hi : Nat} (h : lo ≤ hi) : Srch D x lo hi lo hi := ⟨Nat.le_refl _, h, Nat.le_refl _, fun _ _ h1 h2 => absurd h2 (by omega), fun _ _ h1 h2 => absurd h2 (by omega)⟩
theorem Srch.up {lo hi i j h : Nat} {y : TbP} (s : Srch D x lo hi i j) (hs : SOn ltT D lo hi) (h1 : i ≤ h) (h2 : h < j) (hy : D[h]? = some y) (hl : ltT x y = false) : Srch D x lo hi (h + 1) j :=
  ⟨by have := s.l1; omega, by omega, s.l3, fun k z k1 k2 hz => by
    by_cases e : k = h
    · subst e
      rw [hy] at hz
      obtain rfl := Option.some.inj hz
      exact hl
    · exact ltT_ord.tr z y x (hs k h z y k1 (by omega) (by have := s.l3; omega) hz hy) hl, s.high⟩
theorem Srch.down {lo hi i j h : Nat} {y : TbP} (s : Srch D x lo hi i j) (hs : SOn ltT D lo hi) (h1 : i ≤ h) (h2 : h < j) (hy : D[h]? = some y) (hl : ltT y x = false) : Srch D x lo hi i h :=
  ⟨s.l1, h1, by have := s.l3; omega, s.low, fun k z k1 k2 hz => by
    by_cases e : k = h
    · subst e
      rw [hy] at hz
      obtain rfl := Option.some.inj hz
      exact hl
    · exact ltT_ord.tr x y z hl (hs h k y z (by have := s.l1; omega) (by omega) k2 hy hz)⟩
/-- One on its way to the right. -/
structure Rgt (D : List TbP) (x : TbP) (a b k : Nat) (D' : List TbP) : Prop where
  mv : Mv a b D D'
  le : a ≤ k
  here : D'[k]? = some x
  past : ∀ p, a ≤ p → p < k → D'[p]? = D[p + 1]?
  rest : ∀ p, k < p → D'[p]? = D[p]?
theorem Rgt.step {k : Nat} {D' : List TbP} {y : TbP} (h : Rgt D x a b k D') (hb : k + 1 < b) (hy : D'[k + 1]? = some y) : Rgt D x a b (k + 1) ((D'.set k y).set (k + 1) x) := by
  have hl := h.le
  refine ⟨h.mv.trans (Mv.swap h.here hy hl (by omega) (by omega) hb), by omega, by rw [swp_get h.here hy, if_pos rfl], fun p h1 h2 => ?_, fun p h1 => ?_⟩
  · rw [swp_get h.here hy, if_neg (by omega)]
    by_cases e : p = k
    · rw [if_pos e, e, ← hy, h.rest (k + 1) (by omega)]
    · rw [if_neg e]
      exact h.past p h1 (by omega)
  · rw [swp_get h.here hy, if_neg (by omega), if_neg (by omega)]
    exact h.rest p (by omega)
/-- One on its way to the left, from m. -/
structure Lft (D : List TbP) (x : TbP) (a m k : Nat) (D' : List TbP) : Prop where
  mv : Mv a (m + 1) D D'
  le : k ≤ m
  here : D'[k]? = some x
  past : ∀ p, k < p → p ≤ m → D'[p]? = D[p - 1]?
  rest : ∀ p, p < k → D'[p]? = D[p]?
theorem Lft.step {k : Nat} {D' : List TbP} {y : TbP} (h : Lft D x a m (k + 1) D') (ha : a ≤ k) (hy : D'[k]? = some y) : Lft D x a m k ((D'.set (k + 1) y).set k x) := by
  have hl := h.le
  refine ⟨h.mv.trans (Mv.swap h.here hy (by omega) (by omega) ha (by omega)), by omega, by rw [swp_get h.here hy, if_pos rfl], fun p h1 h2 => ?_, fun p h1 => ?_⟩
  · rw [swp_get h.here hy, if_neg (by omega)]
    by_cases e : p = k + 1
    · rw [if_pos e, e, Nat.add_sub_cancel, ← hy, h.rest k (by omega)]
    · rw [if_neg e]
      exact h.past p (by omega) h2
  · rw [swp_get h.here hy, if_neg (by omega), if_neg (by omega)]
    exact h.rest p (by omega)
/-- The search for where to cut. -/
structure CutS (D : List TbP) (a m b s r : Nat) : Prop where
  l1 : a ≤ s
  l2 : s ≤ r
  l3 : r ≤ m
  l4 : r ≤ (a + b) / 2
  l5 : (a + b) / 2 + m ≤ b + s
  low : ∀ x y, a < s → (a + b) / 2 + m - s < b → D[s - 1]? = some x → D[(a + b) / 2 + m - s]? = some y → ltT y x = false
  high : ∀ x y, r < m → m < (a + b) / 2 + m - r → D[r]? = some x → D[(a + b) / 2 + m - r - 1]? = some y → ltT x y = false
theorem CutS.done {s : Nat} (h : CutS D a m b s s) : CutAt ltT D a m b s := ⟨h.l1, h.l3, by have := h.l4; omega, by have := h.l5; omega, h.low, h.high⟩
end
set_option maxHeartbeats 4000000 in
theorem sym_sl (A : Option Addr) (n c : Nat) (hm : n ≤ 1000000000000) : ∀ (w : Nat) (D : List TbP) (a m b : Nat), b - a ≤ w → D.length = n → a < m → m < b → b ≤ n → SOn ltT D a m → SOn ltT D m b → Fn Tryz.prog 120 #[.slice A n c, .int .i64 a, .int .i64 m, .int .i64 b, ordV] [rowTb A n c D] (List TbP) (fun _ => .tuple #[]) (fun D' => [rowTb A n c D']) (fun D' => Mv a b D D' ∧ SOn ltT D' a b) := by
  intro w
  induction w with
  | zero => intro D a m b hw _ h1 h2; omega
  | succ w ih =>
    intro D a m b hw hn ham hmb hb hA hB
    refine Fn.enter Tryz.func120 rfl Tryz.ntmps120 (by rfl) ?_
    intro w0
    skip
    refine Cd.seq ?_
    refine Cd.seq ?_
    refine Cd.region ?_
    refine Ls.qM 25 ?_
    refine Ls.qM 26 ?_
    refine Ls.qE 27 (Ev.subN rfl (by rfl) (by rfl) (by omega)) ?_
    refine Ls.qE 28 (Ev.eql rfl (by rfl) (by rfl)) ?_
    refine Ls.nil ?_
    refine Cd.cond _ (by rfl) (fun h1 => ?_) (fun h1 => ?_)
    · skip
      obtain rfl : m = a + 1 := by have := of_decide_eq_true h1; omega
      obtain ⟨x, hx⟩ := get_of_lt (show a < D.length by omega)
      refine Cd.seq ?_
      refine Cd.region ?_
      refine Ls.qM 29 ?_
      refine Ls.qA 10 ?_
      refine Ls.nil ?_
      refine Cd.seq ?_
      refine Cd.region ?_
      refine Ls.qM 30 ?_
      refine Ls.qA 11 ?_
      refine Ls.nil ?_
      refine Cd.seq ?_
      refine Cd.block ?_
      refine Cd.loop (ι := Nat × Nat) (fun p => [(0, .slice A n c), (1, .int .i64 a), (4, ordV), (10, .int .i64 p.1), (11, .int .i64 p.2)]) (fun _ => [rowTb A n c D]) (fun p => Srch D x (a + 1) b p.1 p.2) (fun p => p.2 - p.1) ((a + 1, b)) (Srch.start D x (Nat.le_of_lt hmb)) ?_ rfl ?_
      · (repeat (first | exact trivial | refine ⟨by rfl, ?_⟩))
      rintro ⟨i, j⟩ hs
      dsimp only at hs ⊢
      have s1 := hs.l1
      have s2 := hs.l2
      have s3 := hs.l3
      refine Cd.seq ?_
      refine Cd.seq ?_
      refine Cd.region ?_
      refine Ls.qM 31 ?_
      refine Ls.qM 32 ?_
      refine Ls.qE 33 (Ev.lss rfl (by rfl) (by rfl)) ?_
      refine Ls.nil ?_
      refine Cd.cond _ (by rfl) (fun h2 => ?_) (fun h2 => ?_)
      · skip
        have hij : i < j := by have := of_decide_eq_true h2; omega
        obtain ⟨h, hh⟩ : ∃ h, h = (i + j) / 2 := ⟨_, rfl⟩
        have hh1 : i ≤ h := by omega
        have hh2 : h < j := by omega
        obtain ⟨y, hy⟩ := get_of_lt (show h < D.length by omega)
        refine Ent.rowSome 0 (by rfl) (by omega) (fun ad had => ?_)
        obtain rfl : A = some ad := had
        refine Cd.skip ?_
        refine Cd.block ?_
        refine Cd.seq ?_
        refine Cd.region ?_
        refine Ls.qM 34 ?_
        refine Ls.qM 35 ?_
        refine Ls.qE 36 (Ev.addN rfl (by rfl) (by rfl) (by omega)) ?_
        refine Ls.qE 37 (Ev.convU rfl (by rfl) (by kernel_rfl) Tryz.underlying156 (by omega)) ?_
        refine Ls.qE 38 (Ev.to (Ev.shr rfl (by rfl) (by rfl) (by decide)) (congrArg (Value.int .u64) (half_ (i + j)))) ?_
        rw [← hh]
        refine Ls.qE 39 (Ev.convI rfl (by rfl) (by kernel_rfl) Tryz.underlying3 (by omega)) ?_
        refine Ls.qA 12 ?_
        refine Ls.nil ?_
        refine Cd.seq ?_
        refine Cd.draw [] (by kernel_rfl) ?_
        refine Rg.qE 0 40 (by rfl) (Ev.move rfl (by rfl)) ?_
        refine Rg.qE 1 41 (by rfl) (Ev.move rfl (by rfl)) ?_
        refine Rg.qE 2 42 (by rfl) (Ev.move rfl (by rfl)) ?_
        refine Rg.qE 3 43 (by rfl) (Ev.indexAt (sz := 4) rfl (by rfl) (by rfl) Tryz.underlying22 (by kernel_rfl) (by omega)) ?_
        refine Rg.qE 4 44 (by rfl) (Ev.loadEl rfl (by rfl) (ReadsIn.row 0 (by rfl)) (by kernel_rfl) (by intro _; rfl) (by assumption)) ?_
        refine Rg.qE 5 45 (by rfl) (Ev.move rfl (by rfl)) ?_
        refine Rg.qE 6 46 (by rfl) (Ev.move rfl (by rfl)) ?_
        refine Rg.qE 7 47 (by rfl) (Ev.indexAt (sz := 4) rfl (by rfl) (by rfl) Tryz.underlying22 (by kernel_rfl) (by omega)) ?_
        refine Rg.qE 8 48 (by rfl) (Ev.loadEl rfl (by rfl) (ReadsIn.row 0 (by rfl)) (by kernel_rfl) (by intro _; rfl) (by assumption)) ?_
        refine Rg.does 9 (by rfl) (by kernel_rfl) (Does.readV rfl (by rfl) (ord_fnv y x) (by rfl) (by rfl) trivial) (by rfl) (some 49) (by rfl) (by exact fun _ _ h => h) ?_
        rintro _ -
        refine Rg.qE 10 50 (by rfl) (Ev.lss rfl (by rfl) (by rfl)) ?_
        refine Rg.done (by kernel_rfl) ?_ _
        rw [ordI_lt]
        cases hlt : ltT y x with
        | true =>
          skip
          refine Cd.cond_true (by rfl) (rfl) ?_
          refine Cd.region ?_
          refine Ls.qM 51 ?_
          refine Ls.qE 52 (Ev.addN (b := 1) rfl (by rfl) (by rfl) (by omega)) ?_
          refine Ls.qA 10 ?_
          refine Ls.nil ?_
          refine Ent.inv ((h + 1, j)) ?_ ?_ ?_
          · (try dsimp only); exact ⟨hs.up hB hh1 hh2 hy (ltT_ord.asym _ _ hlt), by omega⟩
          · (repeat (first | exact trivial | refine ⟨by rfl, ?_⟩ | refine ⟨by simp only [List.length_append, List.length_cons, List.length_nil]; rfl, ?_⟩ | refine ⟨by push_cast; rfl, ?_⟩))
          · rfl
        | false =>
          skip
          refine Cd.cond_false (by rfl) (rfl) ?_
          refine Cd.region ?_
          refine Ls.qM 53 ?_
          refine Ls.qA 11 ?_
          refine Ls.nil ?_
          refine Ent.inv ((i, h)) ?_ ?_ ?_
          · (try dsimp only); exact ⟨hs.down hB hh1 hh2 hy hlt, by omega⟩
          · (repeat (first | exact trivial | refine ⟨by rfl, ?_⟩ | refine ⟨by simp only [List.length_append, List.length_cons, List.length_nil]; rfl, ?_⟩ | refine ⟨by push_cast; rfl, ?_⟩))
          · rfl
      · skip
        obtain rfl : i = j := by have := of_decide_eq_false h2; omega
        refine Cd.exit ?_
        refine Cd.seq ?_
        refine Cd.seq ?_
        refine Cd.region ?_
        refine Ls.qM 54 ?_
        refine Ls.qA 13 ?_
        refine Ls.nil ?_
        refine Cd.block ?_
        refine Cd.loop (ι := Nat × List TbP) (fun p => [(0, .slice A n c), (10, .int .i64 i), (13, .int .i64 p.1)]) (fun p => [rowTb A n c p.2]) (fun p => p.1 + 1 ≤ i ∧ Rgt D x a b p.1 p.2) (fun p => i - p.1) ((a, D)) (⟨s1, Mv.refl _ _ _, Nat.le_refl _, hx, fun p q1 q2 => absurd q2 (by dsimp only; omega), fun _ _ => rfl⟩) ?_ rfl ?_
        · (repeat (first | exact trivial | refine ⟨by rfl, ?_⟩))
        rintro ⟨k, D1⟩ ⟨hk, hr⟩
        dsimp only at hk hr ⊢
        have hl1 : D1.length = n := hr.mv.len.trans hn
        have hak := hr.le
        refine Cd.seq ?_
        refine Cd.seq ?_
        refine Cd.region ?_
        refine Ls.qM 55 ?_
        refine Ls.qM 56 ?_
        refine Ls.qE 57 (Ev.subN (b := 1) rfl (by rfl) (by rfl) (by omega)) ?_
        refine Ls.qE 58 (Ev.lss rfl (by rfl) (by rfl)) ?_
        refine Ls.nil ?_
        refine Cd.cond _ (by rfl) (fun h3 => ?_) (fun h3 => ?_)
        · skip
          have hki : k + 1 < i := by have := of_decide_eq_true h3; omega
          obtain ⟨y, hy⟩ := get_of_lt (show k + 1 < D1.length by omega)
          have hhere := hr.here
          refine Ent.rowSome 0 (by rfl) (by omega) (fun ad had => ?_)
          obtain rfl : A = some ad := had
          refine Cd.skip ?_
          refine Cd.seq ?_
          refine Cd.block ?_
          refine Cd.draw [15] (by kernel_rfl) ?_
          refine Rg.qE 0 61 (by rfl) (Ev.move rfl (by rfl)) ?_
          refine Rg.qE 1 62 (by rfl) (Ev.move rfl (by rfl)) ?_
          refine Rg.mv 2 (by rfl) (fun _ h => h) rfl (by rfl) (by rfl) (some 63) (by rfl) (by kernel_rfl) (by kernel_rfl) (by kernel_rfl) (by kernel_rfl) ?_
          refine Rg.mv 3 (by rfl) (fun _ h => h) rfl (by rfl) (by rfl) (some 64) (by rfl) (by kernel_rfl) (by kernel_rfl) (by kernel_rfl) (by kernel_rfl) ?_
          refine Rg.pv 4 (by rfl) (fun _ h => h) (fun _ => Ev.addN (b := 1) rfl (by rfl) (by rfl) (by omega)) (by rfl) (some 65) (by rfl) (by kernel_rfl) (by kernel_rfl) (by kernel_rfl) (by kernel_rfl) ?_
          refine Rg.qE 5 66 (by rfl) (Ev.move rfl (by rfl)) ?_
          refine Rg.qE 6 67 (by rfl) (Ev.move rfl (by rfl)) ?_
          refine Rg.qE 7 68 (by rfl) (Ev.addN (b := 1) rfl (by rfl) (by rfl) (by omega)) ?_
          refine Rg.qE 8 69 (by rfl) (Ev.indexAt (sz := 4) rfl (by rfl) (by rfl) Tryz.underlying22 (by kernel_rfl) (by omega)) ?_
          refine Rg.qE 9 70 (by rfl) (Ev.loadEl rfl (by rfl) (ReadsIn.row 0 (by rfl)) (by kernel_rfl) (by intro _; rfl) (by assumption)) ?_
          refine Rg.qE 10 71 (by rfl) (Ev.move rfl (by rfl)) ?_
          refine Rg.qE 11 72 (by rfl) (Ev.move rfl (by rfl)) ?_
          refine Rg.qE 12 73 (by rfl) (Ev.indexAt (sz := 4) rfl (by rfl) (by rfl) Tryz.underlying22 (by kernel_rfl) (by omega)) ?_
          refine Rg.qE 13 74 (by rfl) (Ev.loadEl rfl (by rfl) (ReadsIn.row 0 (by rfl)) (by kernel_rfl) (by intro _; rfl) (by assumption)) ?_
          refine Rg.qE 14 75 (by rfl) (Ev.indexAt (sz := 4) rfl (by rfl) (by rfl) Tryz.underlying22 (by kernel_rfl) (by omega)) ?_
          refine Rg.tail 15 [17] (by rfl) (by kernel_rfl) (Does.storeTb (k := k) (v := y) 0 rfl (by rfl) (by rfl) (by rfl) rfl (by kernel_rfl) (by omega) hl1) (by rfl) none (by rfl) (by kernel_rfl) (by kernel_rfl) ?_
          rintro _ -
          refine Rg.qE 16 76 (by rfl) (Ev.indexAt (sz := 4) rfl (by rfl) (by rfl) Tryz.underlying22 (by kernel_rfl) (by omega)) ?_
          refine Rg.tail 17 [] (by rfl) (by kernel_rfl) (Does.storeTb (k := k + 1) (v := x) 0 rfl (by rfl) (by rfl) (by rfl) rfl (by kernel_rfl) (by rw [List.length_set]; omega) (by rw [List.length_set]; exact hl1)) (by rfl) none (by rfl) (by kernel_rfl) (by kernel_rfl) ?_
          rintro _ -
          refine Rg.done (by kernel_rfl) ?_ _
          refine Cd.region ?_
          refine Ls.qM 59 ?_
          refine Ls.qE 60 (Ev.addN (b := 1) rfl (by rfl) (by rfl) (by omega)) ?_
          refine Ls.qA 13 ?_
          refine Ls.nil ?_
          refine Ent.inv ((k + 1, (D1.set k y).set (k + 1) x)) ?_ ?_ ?_
          · (try dsimp only); exact ⟨⟨hki, hr.step (by omega) hy⟩, by omega⟩
          · (repeat (first | exact trivial | refine ⟨by rfl, ?_⟩ | refine ⟨by simp only [List.length_append, List.length_cons, List.length_nil]; rfl, ?_⟩ | refine ⟨by push_cast; rfl, ?_⟩))
          · rfl
        · skip
          obtain rfl : i = k + 1 := by have := of_decide_eq_false h3; omega
          refine Cd.exit ?_
          refine Cd.ret ?_
          refine Ent.ret (D1) (⟨hr.mv, front_sorted ltT_ord hx hB (by omega) s3 hs.low hs.high (fun p q1 q2 => hr.past p q1 (by omega)) hr.here (fun p q => hr.rest p (by omega))⟩) (Res.nothing (by rfl)) ?_ [0] (by rfl) ?_
          · rfl
          · rfl
    · skip
      have hne1 : m - a ≠ 1 := by have := of_decide_eq_false h1; omega
      refine Cd.skip ?_
      refine Cd.seq ?_
      refine Cd.seq ?_
      refine Cd.region ?_
      refine Ls.qM 77 ?_
      refine Ls.qM 78 ?_
      refine Ls.qE 79 (Ev.subN rfl (by rfl) (by rfl) (by omega)) ?_
      refine Ls.qE 80 (Ev.eql rfl (by rfl) (by rfl)) ?_
      refine Ls.nil ?_
      refine Cd.cond _ (by rfl) (fun h1b => ?_) (fun h1b => ?_)
      · skip
        obtain rfl : b = m + 1 := by have := of_decide_eq_true h1b; omega
        obtain ⟨x, hx⟩ := get_of_lt (show m < D.length by omega)
        refine Cd.seq ?_
        refine Cd.region ?_
        refine Ls.qM 81 ?_
        refine Ls.qA 14 ?_
        refine Ls.nil ?_
        refine Cd.seq ?_
        refine Cd.region ?_
        refine Ls.qM 82 ?_
        refine Ls.qA 15 ?_
        refine Ls.nil ?_
        refine Cd.seq ?_
        refine Cd.block ?_
        refine Cd.loop (ι := Nat × Nat) (fun p => [(0, .slice A n c), (2, .int .i64 m), (4, ordV), (14, .int .i64 p.1), (15, .int .i64 p.2)]) (fun _ => [rowTb A n c D]) (fun p => Srch D x a m p.1 p.2) (fun p => p.2 - p.1) ((a, m)) (Srch.start D x (Nat.le_of_lt ham)) ?_ rfl ?_
        · (repeat (first | exact trivial | refine ⟨by rfl, ?_⟩))
        rintro ⟨i, j⟩ hs
        dsimp only at hs ⊢
        have s1 := hs.l1
        have s2 := hs.l2
        have s3 := hs.l3
        refine Cd.seq ?_
        refine Cd.seq ?_
        refine Cd.region ?_
        refine Ls.qM 83 ?_
        refine Ls.qM 84 ?_
        refine Ls.qE 85 (Ev.lss rfl (by rfl) (by rfl)) ?_
        refine Ls.nil ?_
        refine Cd.cond _ (by rfl) (fun h2 => ?_) (fun h2 => ?_)
        · skip
          have hij : i < j := by have := of_decide_eq_true h2; omega
          obtain ⟨h, hh⟩ : ∃ h, h = (i + j) / 2 := ⟨_, rfl⟩
          have hh1 : i ≤ h := by omega
          have hh2 : h < j := by omega
          obtain ⟨y, hy⟩ := get_of_lt (show h < D.length by omega)
          refine Ent.rowSome 0 (by rfl) (by omega) (fun ad had => ?_)
          obtain rfl : A = some ad := had
          refine Cd.skip ?_
          refine Cd.block ?_
          refine Cd.seq ?_
          refine Cd.region ?_
          refine Ls.qM 86 ?_
          refine Ls.qM 87 ?_
          refine Ls.qE 88 (Ev.addN rfl (by rfl) (by rfl) (by omega)) ?_
          refine Ls.qE 89 (Ev.convU rfl (by rfl) (by kernel_rfl) Tryz.underlying156 (by omega)) ?_
          refine Ls.qE 90 (Ev.to (Ev.shr rfl (by rfl) (by rfl) (by decide)) (congrArg (Value.int .u64) (half_ (i + j)))) ?_
          rw [← hh]
          refine Ls.qE 91 (Ev.convI rfl (by rfl) (by kernel_rfl) Tryz.underlying3 (by omega)) ?_
          refine Ls.qA 16 ?_
          refine Ls.nil ?_
          refine Cd.seq ?_
          refine Cd.draw [] (by kernel_rfl) ?_
          refine Rg.qE 0 92 (by rfl) (Ev.move rfl (by rfl)) ?_
          refine Rg.qE 1 93 (by rfl) (Ev.move rfl (by rfl)) ?_
          refine Rg.qE 2 94 (by rfl) (Ev.move rfl (by rfl)) ?_
          refine Rg.qE 3 95 (by rfl) (Ev.indexAt (sz := 4) rfl (by rfl) (by rfl) Tryz.underlying22 (by kernel_rfl) (by omega)) ?_
          refine Rg.qE 4 96 (by rfl) (Ev.loadEl rfl (by rfl) (ReadsIn.row 0 (by rfl)) (by kernel_rfl) (by intro _; rfl) (by assumption)) ?_
          refine Rg.qE 5 97 (by rfl) (Ev.move rfl (by rfl)) ?_
          refine Rg.qE 6 98 (by rfl) (Ev.move rfl (by rfl)) ?_
          refine Rg.qE 7 99 (by rfl) (Ev.indexAt (sz := 4) rfl (by rfl) (by rfl) Tryz.underlying22 (by kernel_rfl) (by omega)) ?_
          refine Rg.qE 8 100 (by rfl) (Ev.loadEl rfl (by rfl) (ReadsIn.row 0 (by rfl)) (by kernel_rfl) (by intro _; rfl) (by assumption)) ?_
          refine Rg.does 9 (by rfl) (by kernel_rfl) (Does.readV rfl (by rfl) (ord_fnv x y) (by rfl) (by rfl) trivial) (by rfl) (some 101) (by rfl) (by exact fun _ _ h => h) ?_
          rintro _ -
          refine Rg.qE 10 102 (by rfl) (Ev.lss rfl (by rfl) (by rfl)) ?_
          refine Rg.qE 11 103 (by rfl) (Ev.not rfl (by rfl)) ?_
          refine Rg.done (by kernel_rfl) ?_ _
          rw [ordI_lt]
          cases hlt : ltT x y with
          | false =>
            skip
            refine Cd.cond_true (by rfl) (rfl) ?_
            refine Cd.region ?_
            refine Ls.qM 104 ?_
            refine Ls.qE 105 (Ev.addN (b := 1) rfl (by rfl) (by rfl) (by omega)) ?_
            refine Ls.qA 14 ?_
            refine Ls.nil ?_
            refine Ent.inv ((h + 1, j)) ?_ ?_ ?_
            · (try dsimp only); exact ⟨hs.up hA hh1 hh2 hy hlt, by omega⟩
            · (repeat (first | exact trivial | refine ⟨by rfl, ?_⟩ | refine ⟨by simp only [List.length_append, List.length_cons, List.length_nil]; rfl, ?_⟩ | refine ⟨by push_cast; rfl, ?_⟩))
            · rfl
          | true =>
            skip
            refine Cd.cond_false (by rfl) (rfl) ?_
            refine Cd.region ?_
            refine Ls.qM 106 ?_
            refine Ls.qA 15 ?_
            refine Ls.nil ?_
            refine Ent.inv ((i, h)) ?_ ?_ ?_
            · (try dsimp only); exact ⟨hs.down hA hh1 hh2 hy (ltT_ord.asym _ _ hlt), by omega⟩
            · (repeat (first | exact trivial | refine ⟨by rfl, ?_⟩ | refine ⟨by simp only [List.length_append, List.length_cons, List.length_nil]; rfl, ?_⟩ | refine ⟨by push_cast; rfl, ?_⟩))
            · rfl
        · skip
          obtain rfl : i = j := by have := of_decide_eq_false h2; omega
          refine Cd.exit ?_
          refine Cd.seq ?_
          refine Cd.seq ?_
          refine Cd.region ?_
          refine Ls.qM 107 ?_
          refine Ls.qA 17 ?_
          refine Ls.nil ?_
          refine Cd.block ?_
          refine Cd.loop (ι := Nat × List TbP) (fun p => [(0, .slice A n c), (14, .int .i64 i), (17, .int .i64 p.1)]) (fun p => [rowTb A n c p.2]) (fun p => i ≤ p.1 ∧ Lft D x a m p.1 p.2) (fun p => p.1 - i) ((m, D)) (⟨s3, Mv.refl _ _ _, Nat.le_refl _, hx, fun p q1 q2 => absurd q2 (by dsimp only at q1; omega), fun _ _ => rfl⟩) ?_ rfl ?_
          · (repeat (first | exact trivial | refine ⟨by rfl, ?_⟩))
          rintro ⟨k, D1⟩ ⟨hk, hr⟩
          dsimp only at hk hr ⊢
          have hl1 : D1.length = n := hr.mv.len.trans hn
          have hkm := hr.le
          refine Cd.seq ?_
          refine Cd.seq ?_
          refine Cd.region ?_
          refine Ls.qM 108 ?_
          refine Ls.qM 109 ?_
          refine Ls.qE 110 (Ev.gtr rfl (by rfl) (by rfl)) ?_
          refine Ls.nil ?_
          refine Cd.cond _ (by rfl) (fun h3 => ?_) (fun h3 => ?_)
          · skip
            have hki : i < k := by have := of_decide_eq_true h3; omega
            obtain ⟨k, rfl⟩ : ∃ l, k = l + 1 := ⟨k - 1, by omega⟩
            obtain ⟨y, hy⟩ := get_of_lt (show k < D1.length by omega)
            have hhere := hr.here
            refine Ent.rowSome 0 (by rfl) (by omega) (fun ad had => ?_)
            obtain rfl : A = some ad := had
            refine Cd.skip ?_
            refine Cd.seq ?_
            refine Cd.block ?_
            refine Cd.draw [15] (by kernel_rfl) ?_
            refine Rg.qE 0 113 (by rfl) (Ev.move rfl (by rfl)) ?_
            refine Rg.qE 1 114 (by rfl) (Ev.move rfl (by rfl)) ?_
            refine Rg.mv 2 (by rfl) (fun _ h => h) rfl (by rfl) (by rfl) (some 115) (by rfl) (by kernel_rfl) (by kernel_rfl) (by kernel_rfl) (by kernel_rfl) ?_
            refine Rg.mv 3 (by rfl) (fun _ h => h) rfl (by rfl) (by rfl) (some 116) (by rfl) (by kernel_rfl) (by kernel_rfl) (by kernel_rfl) (by kernel_rfl) ?_
            refine Rg.pv 4 (by rfl) (fun _ h => h) (fun _ => Ev.subN (b := 1) rfl (by rfl) (by rfl) (by omega)) (by rfl) (some 117) (by rfl) (by kernel_rfl) (by kernel_rfl) (by kernel_rfl) (by kernel_rfl) ?_
            refine Rg.qE 5 118 (by rfl) (Ev.move rfl (by rfl)) ?_
            refine Rg.qE 6 119 (by rfl) (Ev.move rfl (by rfl)) ?_
            refine Rg.qE 7 120 (by rfl) (Ev.subN (b := 1) rfl (by rfl) (by rfl) (by omega)) ?_
            refine Rg.qE 8 121 (by rfl) (Ev.indexAt (sz := 4) rfl (by rfl) (by rfl) Tryz.underlying22 (by kernel_rfl) (by omega)) ?_
            refine Rg.qE 9 122 (by rfl) (Ev.loadEl rfl (by rfl) (ReadsIn.row 0 (by rfl)) (by kernel_rfl) (by intro _; rfl) (by assumption)) ?_
            refine Rg.qE 10 123 (by rfl) (Ev.move rfl (by rfl)) ?_
            refine Rg.qE 11 124 (by rfl) (Ev.move rfl (by rfl)) ?_
            refine Rg.qE 12 125 (by rfl) (Ev.indexAt (sz := 4) rfl (by rfl) (by rfl) Tryz.underlying22 (by kernel_rfl) (by omega)) ?_
            refine Rg.qE 13 126 (by rfl) (Ev.loadEl rfl (by rfl) (ReadsIn.row 0 (by rfl)) (by kernel_rfl) (by intro _; rfl) (by assumption)) ?_
            refine Rg.qE 14 127 (by rfl) (Ev.indexAt (sz := 4) rfl (by rfl) (by rfl) Tryz.underlying22 (by kernel_rfl) (by omega)) ?_
            refine Rg.tail 15 [17] (by rfl) (by kernel_rfl) (Does.storeTb (k := k + 1) (v := y) 0 rfl (by rfl) (by rfl) (by rfl) rfl (by kernel_rfl) (by omega) hl1) (by rfl) none (by rfl) (by kernel_rfl) (by kernel_rfl) ?_
            rintro _ -
            refine Rg.qE 16 128 (by rfl) (Ev.indexAt (sz := 4) rfl (by rfl) (by rfl) Tryz.underlying22 (by kernel_rfl) (by omega)) ?_
            refine Rg.tail 17 [] (by rfl) (by kernel_rfl) (Does.storeTb (k := k) (v := x) 0 rfl (by rfl) (by rfl) (by rfl) rfl (by kernel_rfl) (by rw [List.length_set]; omega) (by rw [List.length_set]; exact hl1)) (by rfl) none (by rfl) (by kernel_rfl) (by kernel_rfl) ?_
            rintro _ -
            refine Rg.done (by kernel_rfl) ?_ _
            refine Cd.region ?_
            refine Ls.qM 111 ?_
            refine Ls.qE 112 (Ev.subN (b := 1) rfl (by rfl) (by rfl) (by omega)) ?_
            refine Ls.qA 17 ?_
            refine Ls.nil ?_
            refine Ent.inv ((k, (D1.set (k + 1) y).set k x)) ?_ ?_ ?_
            · (try dsimp only); exact ⟨⟨by omega, hr.step (by omega) hy⟩, by omega⟩
            · (repeat (first | exact trivial | refine ⟨by rfl, ?_⟩ | refine ⟨by simp only [List.length_append, List.length_cons, List.length_nil]; rfl, ?_⟩ | refine ⟨by push_cast; rfl, ?_⟩))
            · rfl
          · skip
            obtain rfl : k = i := by have := of_decide_eq_false h3; omega
            refine Cd.exit ?_
            refine Cd.ret ?_
            refine Ent.ret (D1) (⟨hr.mv, back_sorted ltT_ord hx hA s1 s3 hs.low hs.high (fun p q1 q2 => hr.past p q1 q2) hr.here (fun p q => hr.rest p q)⟩) (Res.nothing (by rfl)) ?_ [0] (by rfl) ?_
            · rfl
            · rfl
      · skip
        refine Cd.skip ?_
        refine Cd.seq ?_
        refine Cd.region ?_
        refine Ls.qM 129 ?_
        refine Ls.qM 130 ?_
        refine Ls.qE 131 (Ev.addN rfl (by rfl) (by rfl) (by omega)) ?_
        refine Ls.qE 132 (Ev.convU rfl (by rfl) (by kernel_rfl) Tryz.underlying156 (by omega)) ?_
        refine Ls.qE 133 (Ev.to (Ev.shr rfl (by rfl) (by rfl) (by decide)) (congrArg (Value.int .u64) (half_ (a + b)))) ?_
        refine Ls.qE 134 (Ev.convI rfl (by rfl) (by kernel_rfl) Tryz.underlying3 (by omega)) ?_
        refine Ls.qA 18 ?_
        refine Ls.nil ?_
        refine Cd.seq ?_
        refine Cd.region ?_
        refine Ls.qM 135 ?_
        refine Ls.qM 136 ?_
        refine Ls.qE 137 (Ev.addN rfl (by rfl) (by rfl) (by omega)) ?_
        refine Ls.qA 19 ?_
        refine Ls.nil ?_
        refine Cd.seq ?_
        refine Cd.region ?_
        refine Ls.qA 20 ?_
        refine Ls.qA 21 ?_
        refine Ls.nil ?_
        refine Cd.seq ?_
        refine Cd.seq ?_
        refine Cd.region ?_
        refine Ls.qM 138 ?_
        refine Ls.qM 139 ?_
        refine Ls.qE 140 (Ev.gtr rfl (by rfl) (by rfl)) ?_
        refine Ls.nil ?_
        refine Cd.cut (ι := Nat × Nat) (fun p => [(0, .slice A n c), (1, .int .i64 a), (2, .int .i64 m), (3, .int .i64 b), (4, ordV), (18, .int .i64 ((a + b) / 2 : Nat)), (19, .int .i64 ((a + b) / 2 + m : Nat)), (20, .int .i64 p.1), (21, .int .i64 p.2)]) (fun _ => [rowTb A n c D]) (fun p => CutS D a m b p.1 p.2) ?_ ?_
        · skip
          refine Cd.cond _ (by rfl) (fun h2 => ?_) (fun h2 => ?_)
          · skip
            have h2 : (a + b) / 2 < m := by have := of_decide_eq_true h2; omega
            refine Cd.seq ?_
            refine Cd.region ?_
            refine Ls.qM 141 ?_
            refine Ls.qM 142 ?_
            refine Ls.qE 143 (Ev.subN rfl (by rfl) (by rfl) (by omega)) ?_
            refine Ls.qA 20 ?_
            refine Ls.nil ?_
            refine Cd.region ?_
            refine Ls.qM 144 ?_
            refine Ls.qA 21 ?_
            refine Ls.nil ?_
            refine Ent.inv (((a + b) / 2 + m - b, (a + b) / 2)) ?_ ?_ ?_
            · (try dsimp only); exact ⟨by omega, by omega, by omega, by omega, by omega, fun x y q1 q2 => absurd q2 (by omega), fun x y q1 q2 => absurd q2 (by omega)⟩
            · (repeat (first | exact trivial | refine ⟨by rfl, ?_⟩ | refine ⟨by simp only [List.length_append, List.length_cons, List.length_nil]; rfl, ?_⟩ | refine ⟨by push_cast; rfl, ?_⟩))
            · rfl
          · skip
            have h2 : m ≤ (a + b) / 2 := by have := of_decide_eq_false h2; omega
            refine Cd.seq ?_
            refine Cd.region ?_
            refine Ls.qM 145 ?_
            refine Ls.qA 20 ?_
            refine Ls.nil ?_
            refine Cd.region ?_
            refine Ls.qM 146 ?_
            refine Ls.qA 21 ?_
            refine Ls.nil ?_
            refine Ent.inv ((a, m)) ?_ ?_ ?_
            · (try dsimp only); exact ⟨by omega, by omega, by omega, by omega, by omega, fun x y q1 q2 => absurd q1 (by omega), fun x y q1 q2 => absurd q1 (by omega)⟩
            · (repeat (first | exact trivial | refine ⟨by rfl, ?_⟩ | refine ⟨by simp only [List.length_append, List.length_cons, List.length_nil]; rfl, ?_⟩ | refine ⟨by push_cast; rfl, ?_⟩))
            · rfl
        skip
        rintro ⟨s0, r0⟩ hc0
        dsimp only at hc0 ⊢
        refine Cd.seq ?_
        refine Cd.region ?_
        refine Ls.qM 147 ?_
        refine Ls.qE 148 (Ev.subN (b := 1) rfl (by rfl) (by rfl) (by omega)) ?_
        refine Ls.qA 22 ?_
        refine Ls.nil ?_
        refine Cd.seq ?_
        refine Cd.block ?_
        refine Cd.loop (ι := Nat × Nat) (fun p => [(0, .slice A n c), (1, .int .i64 a), (2, .int .i64 m), (3, .int .i64 b), (4, ordV), (18, .int .i64 ((a + b) / 2 : Nat)), (19, .int .i64 ((a + b) / 2 + m : Nat)), (20, .int .i64 p.1), (21, .int .i64 p.2), (22, .int .i64 ((a + b) / 2 + m - 1 : Nat))]) (fun _ => [rowTb A n c D]) (fun p => CutS D a m b p.1 p.2) (fun p => p.2 - p.1) ((s0, r0)) (hc0) ?_ rfl ?_
        · (repeat (first | exact trivial | refine ⟨by rfl, ?_⟩))
        rintro ⟨s, r⟩ hc
        dsimp only at hc ⊢
        obtain ⟨l1, l2, l3, l4, l5, clo, chi⟩ := hc
        refine Cd.seq ?_
        refine Cd.seq ?_
        refine Cd.region ?_
        refine Ls.qM 149 ?_
        refine Ls.qM 150 ?_
        refine Ls.qE 151 (Ev.lss rfl (by rfl) (by rfl)) ?_
        refine Ls.nil ?_
        refine Cd.cond _ (by rfl) (fun h3 => ?_) (fun h3 => ?_)
        · skip
          have hsr : s < r := by have := of_decide_eq_true h3; omega
          obtain ⟨h, hh⟩ : ∃ h, h = (s + r) / 2 := ⟨_, rfl⟩
          have hh1 : s ≤ h := by omega
          have hh2 : h < r := by omega
          obtain ⟨x, hx⟩ := get_of_lt (show h < D.length by omega)
          obtain ⟨y, hy⟩ := get_of_lt (show (a + b) / 2 + m - 1 - h < D.length by omega)
          refine Ent.rowSome 0 (by rfl) (by omega) (fun ad had => ?_)
          obtain rfl : A = some ad := had
          refine Cd.skip ?_
          refine Cd.block ?_
          refine Cd.seq ?_
          refine Cd.region ?_
          refine Ls.qM 152 ?_
          refine Ls.qM 153 ?_
          refine Ls.qE 154 (Ev.addN rfl (by rfl) (by rfl) (by omega)) ?_
          refine Ls.qE 155 (Ev.convU rfl (by rfl) (by kernel_rfl) Tryz.underlying156 (by omega)) ?_
          refine Ls.qE 156 (Ev.to (Ev.shr rfl (by rfl) (by rfl) (by decide)) (congrArg (Value.int .u64) (half_ (s + r)))) ?_
          rw [← hh]
          refine Ls.qE 157 (Ev.convI rfl (by rfl) (by kernel_rfl) Tryz.underlying3 (by omega)) ?_
          refine Ls.qA 23 ?_
          refine Ls.nil ?_
          refine Cd.seq ?_
          refine Cd.draw [] (by kernel_rfl) ?_
          refine Rg.qE 0 158 (by rfl) (Ev.move rfl (by rfl)) ?_
          refine Rg.qE 1 159 (by rfl) (Ev.move rfl (by rfl)) ?_
          refine Rg.qE 2 160 (by rfl) (Ev.move rfl (by rfl)) ?_
          refine Rg.qE 3 161 (by rfl) (Ev.move rfl (by rfl)) ?_
          refine Rg.qE 4 162 (by rfl) (Ev.subN rfl (by rfl) (by rfl) (by omega)) ?_
          refine Rg.qE 5 163 (by rfl) (Ev.indexAt (sz := 4) rfl (by rfl) (by rfl) Tryz.underlying22 (by kernel_rfl) (by omega)) ?_
          refine Rg.qE 6 164 (by rfl) (Ev.loadEl rfl (by rfl) (ReadsIn.row 0 (by rfl)) (by kernel_rfl) (by intro _; rfl) (by assumption)) ?_
          refine Rg.qE 7 165 (by rfl) (Ev.move rfl (by rfl)) ?_
          refine Rg.qE 8 166 (by rfl) (Ev.move rfl (by rfl)) ?_
          refine Rg.qE 9 167 (by rfl) (Ev.indexAt (sz := 4) rfl (by rfl) (by rfl) Tryz.underlying22 (by kernel_rfl) (by omega)) ?_
          refine Rg.qE 10 168 (by rfl) (Ev.loadEl rfl (by rfl) (ReadsIn.row 0 (by rfl)) (by kernel_rfl) (by intro _; rfl) (by assumption)) ?_
          refine Rg.does 11 (by rfl) (by kernel_rfl) (Does.readV rfl (by rfl) (ord_fnv y x) (by rfl) (by rfl) trivial) (by rfl) (some 169) (by rfl) (by exact fun _ _ h => h) ?_
          rintro _ -
          refine Rg.qE 12 170 (by rfl) (Ev.lss rfl (by rfl) (by rfl)) ?_
          refine Rg.qE 13 171 (by rfl) (Ev.not rfl (by rfl)) ?_
          refine Rg.done (by kernel_rfl) ?_ _
          rw [ordI_lt]
          cases hlt : ltT y x with
          | false =>
            skip
            refine Cd.cond_true (by rfl) (rfl) ?_
            refine Cd.region ?_
            refine Ls.qM 172 ?_
            refine Ls.qE 173 (Ev.addN (b := 1) rfl (by rfl) (by rfl) (by omega)) ?_
            refine Ls.qA 20 ?_
            refine Ls.nil ?_
            refine Ent.inv ((h + 1, r)) ?_ ?_ ?_
            · (try dsimp only); exact ⟨⟨by omega, by omega, by omega, by omega, by omega, fun u v _ _ hu hv => by
              rw [Nat.add_sub_cancel, hx] at hu
              rw [show (a + b) / 2 + m - (h + 1) = (a + b) / 2 + m - 1 - h by omega, hy] at hv
              obtain rfl := Option.some.inj hu
              obtain rfl := Option.some.inj hv
              exact hlt, chi⟩, by omega⟩
            · (repeat (first | exact trivial | refine ⟨by rfl, ?_⟩ | refine ⟨by simp only [List.length_append, List.length_cons, List.length_nil]; rfl, ?_⟩ | refine ⟨by push_cast; rfl, ?_⟩))
            · rfl
          | true =>
            skip
            refine Cd.cond_false (by rfl) (rfl) ?_
            refine Cd.region ?_
            refine Ls.qM 174 ?_
            refine Ls.qA 21 ?_
            refine Ls.nil ?_
            refine Ent.inv ((s, h)) ?_ ?_ ?_
            · (try dsimp only); exact ⟨⟨by omega, by omega, by omega, by omega, by omega, clo, fun u v _ _ hu hv => by
              rw [hx] at hu
              rw [show (a + b) / 2 + m - h - 1 = (a + b) / 2 + m - 1 - h by omega, hy] at hv
              obtain rfl := Option.some.inj hu
              obtain rfl := Option.some.inj hv
              exact ltT_ord.asym _ _ hlt⟩, by omega⟩
            · (repeat (first | exact trivial | refine ⟨by rfl, ?_⟩ | refine ⟨by simp only [List.length_append, List.length_cons, List.length_nil]; rfl, ?_⟩ | refine ⟨by push_cast; rfl, ?_⟩))
            · rfl
        · skip
          obtain rfl : s = r := by have := of_decide_eq_false h3; omega
          have hcut := CutS.done ⟨l1, l2, l3, l4, l5, clo, chi⟩
          obtain ⟨e, he⟩ : ∃ e, e = (a + b) / 2 + m - s := ⟨_, rfl⟩
          have he1 : m ≤ e := by omega
          have he2 : e ≤ b := by omega
          refine Cd.exit ?_
          refine Cd.seq ?_
          refine Cd.region ?_
          refine Ls.qM 175 ?_
          refine Ls.qM 176 ?_
          refine Ls.qE 177 (Ev.subN rfl (by rfl) (by rfl) (by omega)) ?_
          rw [← he]
          refine Ls.qA 24 ?_
          refine Ls.nil ?_
          refine Cd.seq ?_
          refine Cd.seq ?_
          refine Cd.cut (ι := Unit) (fun _ => [(0, .slice A n c), (1, .int .i64 a), (2, .int .i64 m), (3, .int .i64 b), (4, ordV), (18, .int .i64 ((a + b) / 2 : Nat)), (20, .int .i64 s), (24, .int .i64 e), (185, .bool (decide (s < m ∧ m < e)))]) (fun _ => [rowTb A n c D]) (fun _ => True) ?_ ?_
          · skip
            refine Cd.region ?_
            refine Ls.qM 178 ?_
            refine Ls.qM 179 ?_
            refine Ls.qE 180 (Ev.lss rfl (by rfl) (by rfl)) ?_
            refine Ls.qM 181 ?_
            refine Ent.split 181 (by rfl) (fun hT1 => ?_) (fun hT1 => ?_)
            · first | have hT1 := of_decide_eq_false hT1 | have hT1 := of_not_decide_false hT1 | skip
              refine Ls.qP 182 ?_
              refine Ls.qP 183 ?_
              refine Ls.qP 184 ?_
              refine Ls.qN 185 ?_
              refine Ls.nil ?_
              refine Ent.inv () ?_ ?_ ?_
              · exact trivial
              · (repeat (first | exact trivial | refine ⟨by rfl, ?_⟩ | refine ⟨by simp only [List.length_append, List.length_cons, List.length_nil]; rfl, ?_⟩ | refine ⟨by push_cast; rfl, ?_⟩ | refine ⟨by (show some (Value.bool _) = some (Value.bool _); congr 2; all_goals ((first | exact (decide_eq_decide.2 (by omega)) | exact (decide_eq_false (by omega)).symm | exact (decide_eq_true (by omega)).symm | exact decide_eq_true (by omega) | exact decide_eq_false (by omega)))), ?_⟩))
              · rfl
            · first | have hT1 := of_decide_eq_true hT1 | have hT1 := of_not_decide_true hT1 | skip
              refine Ls.qM 182 ?_
              refine Ls.qM 183 ?_
              refine Ls.qE 184 (Ev.lss rfl (by rfl) (by rfl)) ?_
              refine Ls.qT 185 ?_
              refine Ls.nil ?_
              refine Ent.inv () ?_ ?_ ?_
              · exact trivial
              · (repeat (first | exact trivial | refine ⟨by rfl, ?_⟩ | refine ⟨by simp only [List.length_append, List.length_cons, List.length_nil]; rfl, ?_⟩ | refine ⟨by push_cast; rfl, ?_⟩ | refine ⟨by (show some (Value.bool _) = some (Value.bool _); congr 2; all_goals ((first | exact (decide_eq_decide.2 (by omega)) | exact (decide_eq_false (by omega)).symm | exact (decide_eq_true (by omega)).symm | exact decide_eq_true (by omega) | exact decide_eq_false (by omega)))), ?_⟩))
              · rfl
          skip
          rintro _ -
          refine Cd.cut (ι := List TbP) (fun _ => [(0, .slice A n c), (1, .int .i64 a), (2, .int .i64 m), (3, .int .i64 b), (4, ordV), (18, .int .i64 ((a + b) / 2 : Nat)), (20, .int .i64 s), (24, .int .i64 e)]) (fun D1 => [rowTb A n c D1]) (fun D1 => Rot s m e D D1) ?_ ?_
          · skip
            refine Cd.cond _ (by rfl) (fun h4 => ?_) (fun h4 => ?_)
            · skip
              have h4 := of_decide_eq_true h4
              refine Cd.region ?_
              refine Ls.qM 186 ?_
              refine Ls.qM 187 ?_
              refine Ls.qM 188 ?_
              refine Ls.qM 189 ?_
              refine Ls.qM 190 ?_
              refine Ls.does (some 191) (Does.call [0] rfl Tryz.func142 (by kernel_rfl) (by kernel_rfl) (rot_sl A n c D s m e hn h4.1 h4.2 (by omega) hm) (by rfl) (by rfl) (by rfl)) (by rfl) (by rfl) ?_
              rintro D1 hrot
              refine Ls.nil ?_
              refine Ent.inv (D1) ?_ ?_ ?_
              · (try dsimp only); exact hrot
              · (repeat (first | exact trivial | refine ⟨by rfl, ?_⟩ | refine ⟨by simp only [List.length_append, List.length_cons, List.length_nil]; rfl, ?_⟩ | refine ⟨by push_cast; rfl, ?_⟩))
              · rfl
            · skip
              have h4 := of_decide_eq_false h4
              refine Cd.skip ?_
              refine Ent.inv (D) ?_ ?_ ?_
              · (try dsimp only); exact Rot.none_ (by omega)
              · (repeat (first | exact trivial | refine ⟨by rfl, ?_⟩ | refine ⟨by simp only [List.length_append, List.length_cons, List.length_nil]; rfl, ?_⟩ | refine ⟨by push_cast; rfl, ?_⟩))
              · rfl
          skip
          rintro D1 hrot
          have hl1 : D1.length = n := hrot.mv.len.trans hn
          have hrot' := hrot
          rw [he] at hrot'
          obtain ⟨q1, q2, q3, q4, q5⟩ := rot_cross ltT_ord hA hB hcut (by omega) hrot'
          rw [← he] at q3 q4
          refine Cd.seq ?_
          refine Cd.seq ?_
          refine Cd.cut (ι := Unit) (fun _ => [(0, .slice A n c), (1, .int .i64 a), (2, .int .i64 m), (3, .int .i64 b), (4, ordV), (18, .int .i64 ((a + b) / 2 : Nat)), (20, .int .i64 s), (24, .int .i64 e), (199, .bool (decide (a < s ∧ s < (a + b) / 2)))]) (fun _ => [rowTb A n c D1]) (fun _ => True) ?_ ?_
          · skip
            refine Cd.region ?_
            refine Ls.qM 192 ?_
            refine Ls.qM 193 ?_
            refine Ls.qE 194 (Ev.lss rfl (by rfl) (by rfl)) ?_
            refine Ls.qM 195 ?_
            refine Ent.split 195 (by rfl) (fun hT1 => ?_) (fun hT1 => ?_)
            · first | have hT1 := of_decide_eq_false hT1 | have hT1 := of_not_decide_false hT1 | skip
              refine Ls.qP 196 ?_
              refine Ls.qP 197 ?_
              refine Ls.qP 198 ?_
              refine Ls.qN 199 ?_
              refine Ls.nil ?_
              refine Ent.inv () ?_ ?_ ?_
              · exact trivial
              · (repeat (first | exact trivial | refine ⟨by rfl, ?_⟩ | refine ⟨by simp only [List.length_append, List.length_cons, List.length_nil]; rfl, ?_⟩ | refine ⟨by push_cast; rfl, ?_⟩ | refine ⟨by (show some (Value.bool _) = some (Value.bool _); congr 2; all_goals ((first | exact (decide_eq_decide.2 (by omega)) | exact (decide_eq_false (by omega)).symm | exact (decide_eq_true (by omega)).symm | exact decide_eq_true (by omega) | exact decide_eq_false (by omega)))), ?_⟩))
              · rfl
            · first | have hT1 := of_decide_eq_true hT1 | have hT1 := of_not_decide_true hT1 | skip
              refine Ls.qM 196 ?_
              refine Ls.qM 197 ?_
              refine Ls.qE 198 (Ev.lss rfl (by rfl) (by rfl)) ?_
              refine Ls.qT 199 ?_
              refine Ls.nil ?_
              refine Ent.inv () ?_ ?_ ?_
              · exact trivial
              · (repeat (first | exact trivial | refine ⟨by rfl, ?_⟩ | refine ⟨by simp only [List.length_append, List.length_cons, List.length_nil]; rfl, ?_⟩ | refine ⟨by push_cast; rfl, ?_⟩ | refine ⟨by (show some (Value.bool _) = some (Value.bool _); congr 2; all_goals ((first | exact (decide_eq_decide.2 (by omega)) | exact (decide_eq_false (by omega)).symm | exact (decide_eq_true (by omega)).symm | exact decide_eq_true (by omega) | exact decide_eq_false (by omega)))), ?_⟩))
              · rfl
          skip
          rintro _ -
          refine Cd.cut (ι := List TbP) (fun _ => [(0, .slice A n c), (1, .int .i64 a), (2, .int .i64 m), (3, .int .i64 b), (4, ordV), (18, .int .i64 ((a + b) / 2 : Nat)), (20, .int .i64 s), (24, .int .i64 e)]) (fun D2 => [rowTb A n c D2]) (fun D2 => Mv a ((a + b) / 2) D1 D2 ∧ SOn ltT D2 a ((a + b) / 2)) ?_ ?_
          · skip
            refine Cd.cond _ (by rfl) (fun h5 => ?_) (fun h5 => ?_)
            · skip
              have h5 := of_decide_eq_true h5
              refine Cd.region ?_
              refine Ls.qM 200 ?_
              refine Ls.qM 201 ?_
              refine Ls.qM 202 ?_
              refine Ls.qM 203 ?_
              refine Ls.qM 204 ?_
              refine Ls.does (some 205) (Does.call [0] rfl Tryz.func120 (by kernel_rfl) (by kernel_rfl) (ih D1 a s ((a + b) / 2) (by omega) hl1 h5.1 h5.2 (by omega) q1 q2) (by rfl) (by rfl) (by rfl)) (by rfl) (by rfl) ?_
              rintro D2 hD2
              refine Ls.nil ?_
              refine Ent.inv (D2) ?_ ?_ ?_
              · (try dsimp only); exact hD2
              · (repeat (first | exact trivial | refine ⟨by rfl, ?_⟩ | refine ⟨by simp only [List.length_append, List.length_cons, List.length_nil]; rfl, ?_⟩ | refine ⟨by push_cast; rfl, ?_⟩))
              · rfl
            · skip
              have h5 := of_decide_eq_false h5
              refine Cd.skip ?_
              refine Ent.inv (D1) ?_ ?_ ?_
              · (try dsimp only); exact ⟨Mv.refl _ _ _, mid_sorted q1 q2 h5 l1 l4⟩
              · (repeat (first | exact trivial | refine ⟨by rfl, ?_⟩ | refine ⟨by simp only [List.length_append, List.length_cons, List.length_nil]; rfl, ?_⟩ | refine ⟨by push_cast; rfl, ?_⟩))
              · rfl
          skip
          rintro D2 ⟨hm2, hs2⟩
          have hl2 : D2.length = n := hm2.len.trans hl1
          have q3' := q3.stay hm2 (.inr (Nat.le_refl _))
          have q4' := q4.stay hm2 (.inr (by omega))
          refine Cd.seq ?_
          refine Cd.cut (ι := Unit) (fun _ => [(0, .slice A n c), (1, .int .i64 a), (2, .int .i64 m), (3, .int .i64 b), (4, ordV), (18, .int .i64 ((a + b) / 2 : Nat)), (24, .int .i64 e), (213, .bool (decide ((a + b) / 2 < e ∧ e < b)))]) (fun _ => [rowTb A n c D2]) (fun _ => True) ?_ ?_
          · skip
            refine Cd.region ?_
            refine Ls.qM 206 ?_
            refine Ls.qM 207 ?_
            refine Ls.qE 208 (Ev.lss rfl (by rfl) (by rfl)) ?_
            refine Ls.qM 209 ?_
            refine Ent.split 209 (by rfl) (fun hT1 => ?_) (fun hT1 => ?_)
            · first | have hT1 := of_decide_eq_false hT1 | have hT1 := of_not_decide_false hT1 | skip
              refine Ls.qP 210 ?_
              refine Ls.qP 211 ?_
              refine Ls.qP 212 ?_
              refine Ls.qN 213 ?_
              refine Ls.nil ?_
              refine Ent.inv () ?_ ?_ ?_
              · exact trivial
              · (repeat (first | exact trivial | refine ⟨by rfl, ?_⟩ | refine ⟨by simp only [List.length_append, List.length_cons, List.length_nil]; rfl, ?_⟩ | refine ⟨by push_cast; rfl, ?_⟩ | refine ⟨by (show some (Value.bool _) = some (Value.bool _); congr 2; all_goals ((first | exact (decide_eq_decide.2 (by omega)) | exact (decide_eq_false (by omega)).symm | exact (decide_eq_true (by omega)).symm | exact decide_eq_true (by omega) | exact decide_eq_false (by omega)))), ?_⟩))
              · rfl
            · first | have hT1 := of_decide_eq_true hT1 | have hT1 := of_not_decide_true hT1 | skip
              refine Ls.qM 210 ?_
              refine Ls.qM 211 ?_
              refine Ls.qE 212 (Ev.lss rfl (by rfl) (by rfl)) ?_
              refine Ls.qT 213 ?_
              refine Ls.nil ?_
              refine Ent.inv () ?_ ?_ ?_
              · exact trivial
              · (repeat (first | exact trivial | refine ⟨by rfl, ?_⟩ | refine ⟨by simp only [List.length_append, List.length_cons, List.length_nil]; rfl, ?_⟩ | refine ⟨by push_cast; rfl, ?_⟩ | refine ⟨by (show some (Value.bool _) = some (Value.bool _); congr 2; all_goals ((first | exact (decide_eq_decide.2 (by omega)) | exact (decide_eq_false (by omega)).symm | exact (decide_eq_true (by omega)).symm | exact decide_eq_true (by omega) | exact decide_eq_false (by omega)))), ?_⟩))
              · rfl
          skip
          rintro _ -
          refine Cd.cut (ι := List TbP) (fun _ => [(0, .slice A n c)]) (fun D3 => [rowTb A n c D3]) (fun D3 => Mv ((a + b) / 2) b D2 D3 ∧ SOn ltT D3 ((a + b) / 2) b) ?_ ?_
          · skip
            refine Cd.cond _ (by rfl) (fun h6 => ?_) (fun h6 => ?_)
            · skip
              have h6 := of_decide_eq_true h6
              refine Cd.region ?_
              refine Ls.qM 214 ?_
              refine Ls.qM 215 ?_
              refine Ls.qM 216 ?_
              refine Ls.qM 217 ?_
              refine Ls.qM 218 ?_
              refine Ls.does (some 219) (Does.call [0] rfl Tryz.func120 (by kernel_rfl) (by kernel_rfl) (ih D2 ((a + b) / 2) e b (by omega) hl2 h6.1 h6.2 hb q3' q4') (by rfl) (by rfl) (by rfl)) (by rfl) (by rfl) ?_
              rintro D3 hD3
              refine Ls.nil ?_
              refine Ent.inv (D3) ?_ ?_ ?_
              · (try dsimp only); exact hD3
              · (repeat (first | exact trivial | refine ⟨by rfl, ?_⟩ | refine ⟨by simp only [List.length_append, List.length_cons, List.length_nil]; rfl, ?_⟩ | refine ⟨by push_cast; rfl, ?_⟩))
              · rfl
            · skip
              have h6 := of_decide_eq_false h6
              refine Cd.skip ?_
              refine Ent.inv (D2) ?_ ?_ ?_
              · (try dsimp only); exact ⟨Mv.refl _ _ _, mid_sorted q3' q4' h6 (by omega) he2⟩
              · (repeat (first | exact trivial | refine ⟨by rfl, ?_⟩ | refine ⟨by simp only [List.length_append, List.length_cons, List.length_nil]; rfl, ?_⟩ | refine ⟨by push_cast; rfl, ?_⟩))
              · rfl
          skip
          rintro D3 ⟨hm3, hs3⟩
          skip
          refine Ent.fin (D3) (⟨((hrot.mv.wide l1 he2).trans (hm2.wide (Nat.le_refl _) (by omega))).trans (hm3.wide (by omega) (Nat.le_refl _)), SOn.join (hs2.stay hm3 (.inl (Nat.le_refl _))) hs3 (cross_stay q5 hm2 hm3)⟩) (Res.nothing (by rfl)) ?_ [0] (by rfl) ?_
          · rfl
          · rfl
end Go.Proofs.YtacbkganjkipdaaGreatDoor
/- tables sorted in place -/
namespace Go.Proofs.YtacbkganjkipdaaGreatDoor
open Go.RowKit
theorem dbl_ (k : Nat) : Value.int .i64 (2 * (k : Int)) = Value.int .i64 ((2 * k : Nat) : Int) := by rw [Int.natCast_mul]; rfl
theorem dbl2_ (k : Nat) : Value.int .i64 ((k : Int) * 2) = Value.int .i64 ((2 * k : Nat) : Int) := by rw [Int.natCast_mul, Int.mul_comm]; rfl
set_option maxHeartbeats 2000000 in
theorem stable_sl (A : Option Addr) (n c : Nat) (D : List TbP) (hn : D.length = n) (hm : n ≤ 1000000000000) : Fn Tryz.prog 79 #[.slice A n c, .int .i64 n, ordV] [rowTb A n c D] (List TbP) (fun _ => .tuple #[]) (fun D' => [rowTb A n c D']) (fun D' => Mv 0 n D D' ∧ SOn ltT D' 0 n) := by
  refine Fn.enter Tryz.func79 rfl Tryz.ntmps79 (by rfl) ?_
  intro w0
  skip
  refine Cd.seq ?_
  refine Cd.region ?_
  refine Ls.qA 6 ?_
  refine Ls.nil ?_
  refine Cd.seq ?_
  refine Cd.region ?_
  refine Ls.qM 10 ?_
  refine Ls.qA 7 ?_
  refine Ls.qA 8 ?_
  refine Ls.nil ?_
  refine Cd.seq ?_
  refine Cd.block ?_
  refine Cd.loop (ι := Nat × List TbP) (fun p => [(0, .slice A n c), (1, .int .i64 n), (2, ordV), (6, .int .i64 20), (7, .int .i64 (20 * p.1 : Nat)), (8, .int .i64 (20 * p.1 + 20 : Nat))]) (fun p => [rowTb A n c p.2]) (fun p => Mv 0 n D p.2 ∧ (∀ j, j < p.1 → SOn ltT p.2 (j * 20) (j * 20 + 20)) ∧ 20 * p.1 ≤ n) (fun p => n - 20 * p.1) ((0, D)) (⟨Mv.refl _ _ _, fun j h => absurd h (Nat.not_lt_zero _), Nat.zero_le _⟩) ?_ rfl ?_
  · (repeat (first | exact trivial | refine ⟨by rfl, ?_⟩))
  rintro ⟨k, D1⟩ ⟨hmv, hso, hk⟩
  dsimp only at hmv hso hk ⊢
  have hl1 : D1.length = n := hmv.len.trans hn
  refine Cd.seq ?_
  refine Cd.seq ?_
  refine Cd.region ?_
  refine Ls.qM 11 ?_
  refine Ls.qM 12 ?_
  refine Ls.qE 13 (Ev.leq rfl (by rfl) (by rfl)) ?_
  refine Ls.nil ?_
  refine Cd.cond _ (by rfl) (fun h2 => ?_) (fun h2 => ?_)
  · skip
    have hb : 20 * k + 20 ≤ n := by have := of_decide_eq_true h2; omega
    refine Cd.skip ?_
    refine Cd.block ?_
    refine Cd.seq ?_
    refine Cd.region ?_
    refine Ls.qM 14 ?_
    refine Ls.qM 15 ?_
    refine Ls.qM 16 ?_
    refine Ls.qM 17 ?_
    refine Ls.does (some 18) (Does.call [0] rfl Tryz.func119 (by kernel_rfl) (by kernel_rfl) (ins_sl A n c D1 (20 * k) (20 * k + 20) hl1 hb (by omega) hm) (by rfl) (by rfl) (by rfl)) (by rfl) (by rfl) ?_
    rintro D2 ⟨hm2, hs2⟩
    refine Ls.nil ?_
    refine Cd.seq ?_
    refine Cd.region ?_
    refine Ls.qM 19 ?_
    refine Ls.qA 7 ?_
    refine Ls.nil ?_
    refine Cd.region ?_
    refine Ls.qM 20 ?_
    refine Ls.qM 21 ?_
    refine Ls.qE 22 (Ev.to (Ev.addI rfl (by rfl) (by rfl) (by omega)) (show Value.int .i64 (((20 * k + 20 : Nat) : Int) + 20) = Value.int .i64 ((20 * (k + 1) + 20 : Nat) : Int) by congr 1 <;> omega)) ?_
    refine Ls.qA 8 ?_
    refine Ls.nil ?_
    refine Ent.inv ((k + 1, D2)) ?_ ?_ ?_
    · (try dsimp only); exact ⟨⟨hmv.trans (hm2.wide (Nat.zero_le _) hb), fun j hj => by
      by_cases e : j = k
      · subst e
        rw [Nat.mul_comm j 20]
        exact hs2
      · exact (hso j (by omega)).stay hm2 (.inl (by omega)), by omega⟩, by omega⟩
    · (repeat (first | exact trivial | refine ⟨by rfl, ?_⟩ | refine ⟨by simp only [List.length_append, List.length_cons, List.length_nil]; rfl, ?_⟩ | refine ⟨by push_cast; rfl, ?_⟩))
    · rfl
  · skip
    have hb : n < 20 * k + 20 := by have := of_decide_eq_false h2; omega
    refine Cd.exit ?_
    refine Cd.seq ?_
    refine Cd.region ?_
    refine Ls.qM 23 ?_
    refine Ls.qM 24 ?_
    refine Ls.qM 25 ?_
    refine Ls.qM 26 ?_
    refine Ls.does (some 27) (Does.call [0] rfl Tryz.func119 (by kernel_rfl) (by kernel_rfl) (ins_sl A n c D1 (20 * k) n hl1 (Nat.le_refl _) hk hm) (by rfl) (by rfl) (by rfl)) (by rfl) (by rfl) ?_
    rintro D2 ⟨hm2, hs2⟩
    refine Ls.nil ?_
    refine Cd.block ?_
    have hblk : Blk_ ltT D2 20 n := fun j => by
      by_cases e : j < k
      · exact ((hso j e).stay hm2 (.inl (by omega))).sub (Nat.le_refl _) (Nat.min_le_left _ _)
      · by_cases e2 : j = k
        · subst e2
          rw [Nat.mul_comm j 20]
          exact hs2.sub (Nat.le_refl _) (Nat.min_le_right _ _)
        · exact SOn.one (by omega)
    refine Cd.loop (ι := Nat × List TbP) (fun p => [(0, .slice A n c), (1, .int .i64 n), (2, ordV), (6, .int .i64 p.1)]) (fun p => [rowTb A n c p.2]) (fun p => 20 ≤ p.1 ∧ p.1 ≤ 2 * n + 20 ∧ Mv 0 n D p.2 ∧ Blk_ ltT p.2 p.1 n) (fun p => n - p.1) ((20, D2)) (⟨Nat.le_refl _, by dsimp only; omega, hmv.trans (hm2.wide (Nat.zero_le _) (Nat.le_refl _)), hblk⟩) ?_ rfl ?_
    · (repeat (first | exact trivial | refine ⟨by rfl, ?_⟩))
    rintro ⟨bs, D3⟩ ⟨hbs, hbs2, hm3, hb3⟩
    dsimp only at hbs hbs2 hm3 hb3 ⊢
    refine Cd.seq ?_
    refine Cd.seq ?_
    refine Cd.region ?_
    refine Ls.qM 28 ?_
    refine Ls.qM 29 ?_
    refine Ls.qE 30 (Ev.lss rfl (by rfl) (by rfl)) ?_
    refine Ls.nil ?_
    refine Cd.cond _ (by rfl) (fun h3 => ?_) (fun h3 => ?_)
    · skip
      have hbn : bs < n := by have := of_decide_eq_true h3; omega
      refine Cd.skip ?_
      refine Cd.block ?_
      refine Cd.seq ?_
      refine Cd.region ?_
      refine Ls.qM 31 ?_
      refine Ls.qE 32 (Ev.to (Ev.mulI rfl (by rfl) (by rfl) (by omega)) (dbl_ bs)) ?_
      refine Ls.qA 7 ?_
      refine Ls.qA 8 ?_
      refine Ls.nil ?_
      refine Cd.seq ?_
      refine Cd.block ?_
      refine Cd.loop (ι := Nat × Nat × List TbP) (fun p => [(0, .slice A n c), (1, .int .i64 n), (2, ordV), (6, .int .i64 bs), (7, .int .i64 p.2.1), (8, .int .i64 (p.2.1 + 2 * bs : Nat))]) (fun p => [rowTb A n c p.2.2]) (fun p => p.2.1 = p.1 * (2 * bs) ∧ p.2.1 ≤ n ∧ Mv 0 n D p.2.2 ∧ Mrg ltT p.2.2 bs n p.1) (fun p => n - p.2.1) ((0, 0, D3)) (⟨(Nat.zero_mul _).symm, Nat.zero_le _, hm3, Mrg.start hb3⟩) ?_ rfl ?_
      · (first | exact ⟨by rfl, by rfl, by rfl, by rfl, by rfl, by (show some (Value.int .i64 ((2 * bs : Nat) : Int)) = some (Value.int .i64 ((0 + 2 * bs : Nat) : Int)); rw [Nat.zero_add]), trivial⟩)
      rintro ⟨k2, a, D4⟩ ⟨ha, han, hm4, hg⟩
      dsimp only at ha han hm4 hg ⊢
      have hl4 : D4.length = n := hm4.len.trans hn
      have hpt := hg.parts
      rw [← ha] at hpt
      refine Cd.seq ?_
      refine Cd.seq ?_
      refine Cd.region ?_
      refine Ls.qM 33 ?_
      refine Ls.qM 34 ?_
      refine Ls.qE 35 (Ev.leq rfl (by rfl) (by rfl)) ?_
      refine Ls.nil ?_
      refine Cd.cond _ (by rfl) (fun h4 => ?_) (fun h4 => ?_)
      · skip
        have hab : a + 2 * bs ≤ n := by have := of_decide_eq_true h4; omega
        rw [Nat.min_eq_left (by omega), Nat.min_eq_left hab] at hpt
        refine Cd.skip ?_
        refine Cd.block ?_
        refine Cd.seq ?_
        refine Cd.region ?_
        refine Ls.qM 36 ?_
        refine Ls.qM 37 ?_
        refine Ls.qM 38 ?_
        refine Ls.qM 39 ?_
        refine Ls.qE 40 (Ev.addN rfl (by rfl) (by rfl) (by omega)) ?_
        refine Ls.qM 41 ?_
        refine Ls.qM 42 ?_
        refine Ls.does (some 43) (Does.call [0] rfl Tryz.func120 (by kernel_rfl) (by kernel_rfl) (sym_sl A n c hm (2 * bs) D4 a (a + bs) (a + 2 * bs) (by omega) hl4 (by omega) (by omega) hab hpt.1 hpt.2) (by rfl) (by rfl) (by rfl)) (by rfl) (by rfl) ?_
        rintro D5 ⟨hm5, hs5⟩
        refine Ls.nil ?_
        refine Cd.seq ?_
        refine Cd.region ?_
        refine Ls.qM 44 ?_
        refine Ls.qA 7 ?_
        refine Ls.nil ?_
        refine Cd.region ?_
        refine Ls.qM 45 ?_
        refine Ls.qM 46 ?_
        refine Ls.qE 47 (Ev.to (Ev.mulI rfl (by rfl) (by rfl) (by omega)) (dbl_ bs)) ?_
        refine Ls.qE 48 (Ev.addN rfl (by rfl) (by rfl) (by omega)) ?_
        refine Ls.qA 8 ?_
        refine Ls.nil ?_
        refine Ent.inv ((k2 + 1, a + 2 * bs, D5)) ?_ ?_ ?_
        · (try dsimp only); exact ⟨⟨by rw [ha]; exact (Nat.succ_mul k2 (2 * bs)).symm, hab, hm4.trans (hm5.wide (Nat.zero_le _) hab), by rw [ha] at hm5 hs5; exact hg.step hm5 hs5⟩, by omega⟩
        · (repeat (first | exact trivial | refine ⟨by rfl, ?_⟩ | refine ⟨by simp only [List.length_append, List.length_cons, List.length_nil]; rfl, ?_⟩ | refine ⟨by push_cast; rfl, ?_⟩))
        · rfl
      · skip
        have hab : n < a + 2 * bs := by have := of_decide_eq_false h4; omega
        refine Cd.exit ?_
        refine Cd.seq ?_
        refine Cd.seq ?_
        refine Cd.region ?_
        refine Ls.qM 49 ?_
        refine Ls.qM 50 ?_
        refine Ls.qE 51 (Ev.addN rfl (by rfl) (by rfl) (by omega)) ?_
        refine Ls.qA 9 ?_
        refine Ls.nil ?_
        refine Cd.seq ?_
        refine Cd.region ?_
        refine Ls.qM 52 ?_
        refine Ls.qM 53 ?_
        refine Ls.qE 54 (Ev.lss rfl (by rfl) (by rfl)) ?_
        refine Ls.nil ?_
        refine Cd.cut (ι := List TbP) (fun _ => [(0, .slice A n c), (1, .int .i64 n), (2, ordV), (6, .int .i64 bs)]) (fun D5 => [rowTb A n c D5]) (fun D5 => Mv 0 n D D5 ∧ Blk_ ltT D5 (2 * bs) n) ?_ ?_
        · skip
          refine Cd.cond _ (by rfl) (fun h5 => ?_) (fun h5 => ?_)
          · skip
            have han2 : a + bs < n := by have := of_decide_eq_true h5; omega
            rw [Nat.min_eq_left (by omega), Nat.min_eq_right (by omega)] at hpt
            refine Cd.region ?_
            refine Ls.qM 55 ?_
            refine Ls.qM 56 ?_
            refine Ls.qM 57 ?_
            refine Ls.qM 58 ?_
            refine Ls.qM 59 ?_
            refine Ls.does (some 60) (Does.call [0] rfl Tryz.func120 (by kernel_rfl) (by kernel_rfl) (sym_sl A n c hm n D4 a (a + bs) n (by omega) hl4 (by omega) han2 (Nat.le_refl _) hpt.1 hpt.2) (by rfl) (by rfl) (by rfl)) (by rfl) (by rfl) ?_
            rintro D5 ⟨hm5, hs5⟩
            refine Ls.nil ?_
            refine Ent.inv (D5) ?_ ?_ ?_
            · (try dsimp only); exact ⟨hm4.trans (hm5.wide (Nat.zero_le _) (Nat.le_refl _)), by rw [ha] at hm5 hs5 hab; exact hg.last hab hm5 hs5⟩
            · (repeat (first | exact trivial | refine ⟨by rfl, ?_⟩ | refine ⟨by simp only [List.length_append, List.length_cons, List.length_nil]; rfl, ?_⟩ | refine ⟨by push_cast; rfl, ?_⟩))
            · rfl
          · skip
            have han2 : n ≤ a + bs := by have := of_decide_eq_false h5; omega
            rw [Nat.min_eq_right han2] at hpt
            refine Cd.skip ?_
            refine Ent.inv (D4) ?_ ?_ ?_
            · (try dsimp only); exact ⟨hm4, by rw [ha] at hpt hab; exact hg.last hab (Mv.refl _ _ _) hpt.1⟩
            · (repeat (first | exact trivial | refine ⟨by rfl, ?_⟩ | refine ⟨by simp only [List.length_append, List.length_cons, List.length_nil]; rfl, ?_⟩ | refine ⟨by push_cast; rfl, ?_⟩))
            · rfl
        skip
        rintro D5 ⟨hm5, hb5⟩
        refine Cd.region ?_
        refine Ls.qM 61 ?_
        refine Ls.qE 62 (Ev.to (Ev.mulI rfl (by rfl) (by rfl) (by omega)) (dbl2_ bs)) ?_
        refine Ls.qA 6 ?_
        refine Ls.nil ?_
        refine Ent.inv ((2 * bs, D5)) ?_ ?_ ?_
        · (try dsimp only); exact ⟨⟨by omega, by omega, hm5, hb5⟩, by omega⟩
        · (repeat (first | exact trivial | refine ⟨by rfl, ?_⟩ | refine ⟨by simp only [List.length_append, List.length_cons, List.length_nil]; rfl, ?_⟩ | refine ⟨by push_cast; rfl, ?_⟩))
        · rfl
    · skip
      have hbn : n ≤ bs := by have := of_decide_eq_false h3; omega
      refine Cd.exit ?_
      refine Ent.fin (D3) (⟨hm3, hb3.all hbn⟩) (Res.nothing (by rfl)) ?_ [0] (by rfl) ?_
      · rfl
      · rfl
theorem sort_sl (A : Option Addr) (n c : Nat) (D : List TbP) (hn : D.length = n) (hm : n ≤ 1000000000000) : Fn Tryz.prog 39 #[.slice A n c, ordV] [rowTb A n c D] (List TbP) (fun _ => .tuple #[]) (fun D' => [rowTb A n c D']) (fun D' => D'.Perm D ∧ D'.Pairwise fun x y => ltT y x = false) := by
  refine Fn.enter Tryz.func39 rfl Tryz.ntmps39 (by rfl) ?_
  intro w0
  refine Cd.region ?_
  refine Ls.qM 4 ?_
  refine Ls.qM 5 ?_
  refine Ls.qE 6 (Ev.len rfl (by rfl) Tryz.underlying22) ?_
  refine Ls.qM 7 ?_
  refine Ls.does (some 8) (Does.call [0] rfl Tryz.func79 (by kernel_rfl) (by kernel_rfl) (stable_sl A n c D hn hm) (by rfl) (by rfl) (by rfl)) (by rfl) (by rfl) ?_
  rintro D' ⟨h1, h2⟩
  refine Ls.nil ?_
  refine Ent.fin (D') (⟨h1.perm, h2.pair (Nat.le_of_eq (h1.len.trans hn))⟩) (Res.nothing (by rfl)) ?_ [0] (by rfl) ?_
  · rfl
  · rfl
end Go.Proofs.YtacbkganjkipdaaGreatDoor
/- versions over pieces: good -/
namespace Go.Proofs.YtacbkganjkipdaaGreatDoor
open Go.RowKit
theorem cloneT_sl (A : Option Addr) (c : Nat) (l : List TbP) (hn : l.length ≤ 1000000000) : Fn Tryz.prog 35 #[.slice A l.length c] [rdT A l] (Option Addr × Nat) (fun p => .slice p.1 l.length p.2) (fun p => [rowTb p.1 l.length p.2 l]) (fun _ => True) := by
  refine Fn.enter Tryz.func35 rfl Tryz.ntmps35 (by rfl) ?_
  intro w0
  cases A with
  | none =>
    by_cases h0 : 0 < l.length
    · skip
      refine Ent.rdSome 0 (by rfl) h0 (fun ad had => ?_)
      cases had
    · skip
      obtain rfl : l = [] := List.length_eq_zero_iff.1 (by omega)
      refine Cd.seq ?_
      refine Cd.region ?_
      refine Ls.qA 2 ?_
      refine Ls.nil ?_
      refine Cd.seq ?_
      refine Cd.seq ?_
      refine Cd.region ?_
      refine Ls.qM 3 ?_
      refine Ls.qE 4 (Ev.isNil rfl (by rfl) (by rfl) Tryz.underlying22) ?_
      refine Ls.nil ?_
      refine Cd.cond_true (by rfl) (rfl) ?_
      refine Cd.seq ?_
      refine Cd.region ?_
      refine Ls.qA 2 ?_
      refine Ls.nil ?_
      refine Ent.nil 42 4 ?_
      refine Cd.ret ?_
      refine Ent.ret ((none, 0)) (trivial) (Res.tmp (by rfl) (by rfl)) ?_ [0] (by rfl) ?_
      · rfl
      · rfl
  | some ad =>
    skip
    refine Cd.seq ?_
    refine Cd.region ?_
    refine Ls.qA 2 ?_
    refine Ls.nil ?_
    refine Cd.seq ?_
    refine Cd.seq ?_
    refine Cd.region ?_
    refine Ls.qM 3 ?_
    refine Ls.qE 4 (Ev.isNil rfl (by rfl) (by rfl) Tryz.underlying22) ?_
    refine Ls.nil ?_
    refine Cd.cond_false (by rfl) (rfl) ?_
    refine Cd.skip ?_
    refine Cd.seq ?_
    refine Cd.region ?_
    refine Ls.does (some 5) (Does.lit0 (sz := 4) rfl Tryz.underlying22 (by kernel_rfl)) (by rfl) (by rfl) ?_
    intro g1 _
    refine Ls.qM 6 ?_
    refine Ls.does (some 7) (Does.app0 (news := tbs l) 0 rfl (by rfl) (by rfl) (by rfl) (ReadsIn.rd 1 (by rfl)) elem_tb (one_tb l) (show l.length * 48 ≤ 140737488355328 by omega)) (by rfl) (by rfl) ?_
    rintro p -
    refine Ls.qA 2 ?_
    refine Ls.nil ?_
    refine Cd.ret ?_
    refine Ent.ret (p) (trivial) (Res.tmp (by rfl) (by rfl)) ?_ [0] (by rfl) ?_
    · rfl
    · rfl
/-- How often a number stands among the first k. -/
def cntV (l : List TbP) (k : Nat) (q : Int) : Value := .int .i64 ((((l.take k).map TbP.num).count q : Nat) : Int)
theorem cntV_step {l : List TbP} {k : Nat} {t : TbP} (ht : l[k]? = some t) : put (cntV l k) t.num (.int .i64 (((((l.take k).map TbP.num).count t.num : Nat) : Int) + 1)) = cntV l (k + 1) := by
  funext q
  have e : (l.take (k + 1)).map TbP.num = (l.take k).map TbP.num ++ [t.num] := by
    rw [List.take_add_one, ht, List.map_append]
    rfl
  unfold cntV put
  rw [e, List.count_append]
  by_cases h : q = t.num
  · subst h
    rw [if_pos rfl]
    simp
  · rw [if_neg h]
    have : List.count q [t.num] = 0 := List.count_eq_zero.2 (by simpa using h)
    rw [this, Nat.add_zero]
theorem cnt_one {nx : Int} {l : List TbP} {k : Nat} {t : TbP} (ht : l[k]? = some t) : ((((l.take (k + 1)).map TbP.num).count t.num : Nat) : Int) ≤ 1 ↔ ∀ (j : Nat) (u : TbP), j < k → l[j]? = some u → u.num ≠ t.num := by
  have _ := nx
  have e : (l.take (k + 1)).map TbP.num = (l.take k).map TbP.num ++ [t.num] := by
    rw [List.take_add_one, ht, List.map_append]
    rfl
  rw [e, List.count_append, show List.count t.num [t.num] = 1 by simp]
  constructor
  · intro h j u hj hu he
    have h0 : ((l.take k).map TbP.num).count t.num = 0 := by omega
    refine List.count_eq_zero.1 h0 (List.mem_map.2 ⟨u, ?_, he⟩)
    exact List.mem_of_getElem? (i := j) (by rw [List.getElem?_take, if_pos hj]; exact hu)
  · intro h
    have h0 : ((l.take k).map TbP.num).count t.num = 0 := List.count_eq_zero.2 fun hm => by
      obtain ⟨u, hu, he⟩ := List.mem_map.1 hm
      obtain ⟨j, hj⟩ := List.getElem?_of_mem hu
      rw [List.getElem?_take] at hj
      split at hj
      · rename_i hjk
        exact h j u hjk hj he
      · cases hj
    omega
end Go.Proofs.YtacbkganjkipdaaGreatDoor
/- versions over pieces: good, walked -/
namespace Go.Proofs.YtacbkganjkipdaaGreatDoor
open Go.RowKit
theorem Does.mapPutL {Γ : Ctx} {N : Frm} {P : Program} {E : Env} {H : List Chunk} {o : Oper} {x y u : Operand} {t k e b n : Nat} {z v : Value} {f : Int → Value} {q : Int} (i : Nat) (ho : o.op = .mapUpdate t x y u) (hx : E.ev x = some (.map (some b))) (hy : E.ev y = some (.int .i64 q)) (hu : E.ev u = some v) (hi : H[i]? = some (mapc P k b n z f)) (hk : P.underlying k = some (.int .i64)) (ht : P.underlying t = some (.map k e)) (hn : n < 1000000000) (hq : -9223372036854775808 ≤ q ∧ q ≤ 9223372036854775807) :
    Does Γ N P E H o Unit (fun _ => undef) (fun _ => H.set i (mapc P k b (n + 1) z (put f q v))) (fun _ => True) := .of fun ρ hρ w hs => by
  obtain ⟨m, hm, h⟩ := hs.mem hi
  obtain ⟨w', hrun, h1, h2⟩ := h.put_ hk ht (show m < maxLen by unfold maxLen; omega) (wf64 hq) v
  refine ⟨(), w', trivial, hs.turn hi rfl h2 ⟨m + 1, by omega, h1⟩ (fun k hk => .inl hk), .inr ⟨rfl, ?_⟩⟩
  simp [execOp, ho, hρ x _ hx, hρ y _ hy, hρ u _ hu, hrun]
set_option maxHeartbeats 4000000 in
theorem good_slV (v : VsP) (A : Option Addr) (c : Nat) (hn : v.tbs.length ≤ 90000000) (hz : ∀ t ∈ v.tbs, t.fst.length ≤ 140737488355328 ∧ t.lst.length ≤ 140737488355328 ∧ in64 t.num) : Fn Tryz.prog 34 #[.agg (v.val A c).toArray] [rdT A v.tbs] Unit (fun _ => .bool (decide (goodP v))) (fun _ => []) (fun _ => True) := by
  obtain ⟨l, nx, lg, sq⟩ := v
  dsimp only [VsP.val] at hn hz ⊢
  refine Fn.enter Tryz.func34 rfl Tryz.ntmps34 (by rfl) ?_
  intro w0
  refine Cd.seq ?_
  refine Cd.region ?_
  refine Ls.does (some 1) (Does.box rfl (by rfl)) (by rfl) (by rfl) ?_
  intro g1 _
  refine Ls.qA 2 ?_
  refine Ls.nil ?_
  refine Cd.seq ?_
  refine Cd.seq ?_
  by_cases hr : RngOk ⟨l, nx, lg, sq⟩
  rotate_left
  · skip
    have hr2 := hr
    unfold RngOk at hr2
    dsimp only at hr2
    refine Cd.cut (ι := Unit) (fun _ => [(1, .pointer (some ⟨g1, 0, none⟩)), (33, .bool true)]) (fun _ => []) (fun _ => True) ?_ ?_
    · skip
      refine Cd.region ?_
      refine Ls.qF 6 1 ?_
      refine Ls.qL 7 0 ?_
      refine Ls.qE 8 (Ev.lss rfl (by rfl) (by rfl)) ?_
      refine Ls.qM 9 ?_
      refine Ent.split 9 (by rfl) (fun hT1 => ?_) (fun hT1 => ?_)
      · first | have hT1 := of_decide_eq_false hT1 | have hT1 := of_not_decide_false hT1 | skip
        refine Ls.qF 10 1 ?_
        refine Ls.qL 11 0 ?_
        refine Ls.qE 12 (Ev.gtr rfl (by rfl) (by rfl)) ?_
        refine Ls.qN 13 ?_
        refine Ls.qM 14 ?_
        refine Ent.split 14 (by rfl) (fun hT2 => ?_) (fun hT2 => ?_)
        · first | have hT2 := of_decide_eq_false hT2 | have hT2 := of_not_decide_false hT2 | skip
          refine Ls.qF 15 2 ?_
          refine Ls.qL 16 0 ?_
          refine Ls.qE 17 (Ev.lss rfl (by rfl) (by rfl)) ?_
          refine Ls.qN 18 ?_
          refine Ls.qM 19 ?_
          refine Ent.split 19 (by rfl) (fun hT3 => ?_) (fun hT3 => ?_)
          · first | have hT3 := of_decide_eq_false hT3 | have hT3 := of_not_decide_false hT3 | skip
            refine Ls.qF 20 2 ?_
            refine Ls.qL 21 0 ?_
            refine Ls.qE 22 (Ev.gtr rfl (by rfl) (by rfl)) ?_
            refine Ls.qN 23 ?_
            refine Ls.qM 24 ?_
            refine Ent.split 24 (by rfl) (fun hT4 => ?_) (fun hT4 => ?_)
            · first | have hT4 := of_decide_eq_false hT4 | have hT4 := of_not_decide_false hT4 | skip
              refine Ls.qF 25 3 ?_
              refine Ls.qL 26 0 ?_
              refine Ls.qE 27 (Ev.lss rfl (by rfl) (by rfl)) ?_
              refine Ls.qN 28 ?_
              refine Ls.qM 29 ?_
              refine Ent.split 29 (by rfl) (fun hT5 => ?_) (fun hT5 => ?_)
              · first | have hT5 := of_decide_eq_false hT5 | have hT5 := of_not_decide_false hT5 | skip
                refine Ls.qF 30 3 ?_
                refine Ls.qL 31 0 ?_
                refine Ls.qE 32 (Ev.gtr rfl (by rfl) (by rfl)) ?_
                refine Ls.qN 33 ?_
                refine Ls.nil ?_
                refine Ent.pick [] (by rfl) ?_
                refine Ent.inv () ?_ ?_ ?_
                · exact trivial
                · (repeat (first | exact trivial | refine ⟨by rfl, ?_⟩ | refine ⟨by simp only [List.length_append, List.length_cons, List.length_nil]; rfl, ?_⟩ | refine ⟨by push_cast; rfl, ?_⟩ | refine ⟨by (show some (Value.bool _) = some (Value.bool _); congr 2; all_goals ((first | rfl | exact (decide_eq_true (by omega)).symm | exact (decide_eq_true (by omega)) | omega))), ?_⟩))
                · rfl
              · first | have hT5 := of_decide_eq_true hT5 | have hT5 := of_not_decide_true hT5 | skip
                refine Ls.qP 30 ?_
                refine Ls.qP 31 ?_
                refine Ls.qP 32 ?_
                refine Ls.qT 33 ?_
                refine Ls.nil ?_
                refine Ent.pick [] (by rfl) ?_
                refine Ent.inv () ?_ ?_ ?_
                · exact trivial
                · (repeat (first | exact trivial | refine ⟨by rfl, ?_⟩ | refine ⟨by simp only [List.length_append, List.length_cons, List.length_nil]; rfl, ?_⟩ | refine ⟨by push_cast; rfl, ?_⟩ | refine ⟨by (show some (Value.bool _) = some (Value.bool _); congr 2; all_goals ((first | rfl | exact (decide_eq_true (by omega)).symm | exact (decide_eq_true (by omega)) | omega))), ?_⟩))
                · rfl
            · first | have hT4 := of_decide_eq_true hT4 | have hT4 := of_not_decide_true hT4 | skip
              refine Ls.qP 25 ?_
              refine Ls.qP 26 ?_
              refine Ls.qP 27 ?_
              refine Ls.qT 28 ?_
              refine Ls.qM 29 ?_
              refine Ls.qP 30 ?_
              refine Ls.qP 31 ?_
              refine Ls.qP 32 ?_
              refine Ls.qT 33 ?_
              refine Ls.nil ?_
              refine Ent.pick [] (by rfl) ?_
              refine Ent.inv () ?_ ?_ ?_
              · exact trivial
              · (repeat (first | exact trivial | refine ⟨by rfl, ?_⟩ | refine ⟨by simp only [List.length_append, List.length_cons, List.length_nil]; rfl, ?_⟩ | refine ⟨by push_cast; rfl, ?_⟩ | refine ⟨by (show some (Value.bool _) = some (Value.bool _); congr 2; all_goals ((first | rfl | exact (decide_eq_true (by omega)).symm | exact (decide_eq_true (by omega)) | omega))), ?_⟩))
              · rfl
          · first | have hT3 := of_decide_eq_true hT3 | have hT3 := of_not_decide_true hT3 | skip
            refine Ls.qP 20 ?_
            refine Ls.qP 21 ?_
            refine Ls.qP 22 ?_
            refine Ls.qT 23 ?_
            refine Ls.qM 24 ?_
            refine Ls.qP 25 ?_
            refine Ls.qP 26 ?_
            refine Ls.qP 27 ?_
            refine Ls.qT 28 ?_
            refine Ls.qM 29 ?_
            refine Ls.qP 30 ?_
            refine Ls.qP 31 ?_
            refine Ls.qP 32 ?_
            refine Ls.qT 33 ?_
            refine Ls.nil ?_
            refine Ent.pick [] (by rfl) ?_
            refine Ent.inv () ?_ ?_ ?_
            · exact trivial
            · (repeat (first | exact trivial | refine ⟨by rfl, ?_⟩ | refine ⟨by simp only [List.length_append, List.length_cons, List.length_nil]; rfl, ?_⟩ | refine ⟨by push_cast; rfl, ?_⟩ | refine ⟨by (show some (Value.bool _) = some (Value.bool _); congr 2; all_goals ((first | rfl | exact (decide_eq_true (by omega)).symm | exact (decide_eq_true (by omega)) | omega))), ?_⟩))
            · rfl
        · first | have hT2 := of_decide_eq_true hT2 | have hT2 := of_not_decide_true hT2 | skip
          refine Ls.qP 15 ?_
          refine Ls.qP 16 ?_
          refine Ls.qP 17 ?_
          refine Ls.qT 18 ?_
          refine Ls.qM 19 ?_
          refine Ls.qP 20 ?_
          refine Ls.qP 21 ?_
          refine Ls.qP 22 ?_
          refine Ls.qT 23 ?_
          refine Ls.qM 24 ?_
          refine Ls.qP 25 ?_
          refine Ls.qP 26 ?_
          refine Ls.qP 27 ?_
          refine Ls.qT 28 ?_
          refine Ls.qM 29 ?_
          refine Ls.qP 30 ?_
          refine Ls.qP 31 ?_
          refine Ls.qP 32 ?_
          refine Ls.qT 33 ?_
          refine Ls.nil ?_
          refine Ent.pick [] (by rfl) ?_
          refine Ent.inv () ?_ ?_ ?_
          · exact trivial
          · (repeat (first | exact trivial | refine ⟨by rfl, ?_⟩ | refine ⟨by simp only [List.length_append, List.length_cons, List.length_nil]; rfl, ?_⟩ | refine ⟨by push_cast; rfl, ?_⟩ | refine ⟨by (show some (Value.bool _) = some (Value.bool _); congr 2; all_goals ((first | rfl | exact (decide_eq_true (by omega)).symm | exact (decide_eq_true (by omega)) | omega))), ?_⟩))
          · rfl
      · first | have hT1 := of_decide_eq_true hT1 | have hT1 := of_not_decide_true hT1 | skip
        refine Ls.qP 10 ?_
        refine Ls.qP 11 ?_
        refine Ls.qP 12 ?_
        refine Ls.qT 13 ?_
        refine Ls.qM 14 ?_
        refine Ls.qP 15 ?_
        refine Ls.qP 16 ?_
        refine Ls.qP 17 ?_
        refine Ls.qT 18 ?_
        refine Ls.qM 19 ?_
        refine Ls.qP 20 ?_
        refine Ls.qP 21 ?_
        refine Ls.qP 22 ?_
        refine Ls.qT 23 ?_
        refine Ls.qM 24 ?_
        refine Ls.qP 25 ?_
        refine Ls.qP 26 ?_
        refine Ls.qP 27 ?_
        refine Ls.qT 28 ?_
        refine Ls.qM 29 ?_
        refine Ls.qP 30 ?_
        refine Ls.qP 31 ?_
        refine Ls.qP 32 ?_
        refine Ls.qT 33 ?_
        refine Ls.nil ?_
        refine Ent.pick [] (by rfl) ?_
        refine Ent.inv () ?_ ?_ ?_
        · exact trivial
        · (repeat (first | exact trivial | refine ⟨by rfl, ?_⟩ | refine ⟨by simp only [List.length_append, List.length_cons, List.length_nil]; rfl, ?_⟩ | refine ⟨by push_cast; rfl, ?_⟩ | refine ⟨by (show some (Value.bool _) = some (Value.bool _); congr 2; all_goals ((first | rfl | exact (decide_eq_true (by omega)).symm | exact (decide_eq_true (by omega)) | omega))), ?_⟩))
        · rfl
    skip
    rintro _ -
    refine Cd.cond_true (by rfl) (rfl) ?_
    refine Cd.seq ?_
    refine Cd.region ?_
    refine Ls.qA 2 ?_
    refine Ls.nil ?_
    refine Cd.ret ?_
    refine Ent.ret (()) (trivial) (Res.tmp (by rfl) (by rfl)) ?_ [] (by rfl) ?_
    · exact congrArg Value.bool (decide_eq_false (fun h => hr h.1)).symm
    · rfl
  · skip
    have hr2 := hr
    unfold RngOk at hr2
    dsimp only at hr2
    refine Cd.cut (ι := Unit) (fun _ => [(1, .pointer (some ⟨g1, 0, none⟩)), (33, .bool false)]) (fun _ => [blk g1 24 [.slice A l.length c, .int .i64 nx, .int .i64 lg, .int .i64 sq], rdT A l]) (fun _ => True) ?_ ?_
    · skip
      refine Cd.region ?_
      refine Ls.qF 6 1 ?_
      refine Ls.qL 7 0 ?_
      refine Ls.qE 8 (Ev.lss rfl (by rfl) (by rfl)) ?_
      refine Ls.qM 9 ?_
      refine Ent.split 9 (by rfl) (fun hT1 => ?_) (fun hT1 => ?_)
      · first | have hT1 := of_decide_eq_false hT1 | have hT1 := of_not_decide_false hT1 | skip
        refine Ls.qF 10 1 ?_
        refine Ls.qL 11 0 ?_
        refine Ls.qE 12 (Ev.gtr rfl (by rfl) (by rfl)) ?_
        refine Ls.qN 13 ?_
        refine Ls.qM 14 ?_
        refine Ent.split 14 (by rfl) (fun hT2 => ?_) (fun hT2 => ?_)
        · first | have hT2 := of_decide_eq_false hT2 | have hT2 := of_not_decide_false hT2 | skip
          refine Ls.qF 15 2 ?_
          refine Ls.qL 16 0 ?_
          refine Ls.qE 17 (Ev.lss rfl (by rfl) (by rfl)) ?_
          refine Ls.qN 18 ?_
          refine Ls.qM 19 ?_
          refine Ent.split 19 (by rfl) (fun hT3 => ?_) (fun hT3 => ?_)
          · first | have hT3 := of_decide_eq_false hT3 | have hT3 := of_not_decide_false hT3 | skip
            refine Ls.qF 20 2 ?_
            refine Ls.qL 21 0 ?_
            refine Ls.qE 22 (Ev.gtr rfl (by rfl) (by rfl)) ?_
            refine Ls.qN 23 ?_
            refine Ls.qM 24 ?_
            refine Ent.split 24 (by rfl) (fun hT4 => ?_) (fun hT4 => ?_)
            · first | have hT4 := of_decide_eq_false hT4 | have hT4 := of_not_decide_false hT4 | skip
              refine Ls.qF 25 3 ?_
              refine Ls.qL 26 0 ?_
              refine Ls.qE 27 (Ev.lss rfl (by rfl) (by rfl)) ?_
              refine Ls.qN 28 ?_
              refine Ls.qM 29 ?_
              refine Ent.split 29 (by rfl) (fun hT5 => ?_) (fun hT5 => ?_)
              · first | have hT5 := of_decide_eq_false hT5 | have hT5 := of_not_decide_false hT5 | skip
                refine Ls.qF 30 3 ?_
                refine Ls.qL 31 0 ?_
                refine Ls.qE 32 (Ev.gtr rfl (by rfl) (by rfl)) ?_
                refine Ls.qN 33 ?_
                refine Ls.nil ?_
                refine Ent.inv () ?_ ?_ ?_
                · exact trivial
                · (repeat (first | exact trivial | refine ⟨by rfl, ?_⟩ | refine ⟨by simp only [List.length_append, List.length_cons, List.length_nil]; rfl, ?_⟩ | refine ⟨by push_cast; rfl, ?_⟩ | refine ⟨by (show some (Value.bool _) = some (Value.bool _); congr 2; all_goals ((first | rfl | exact (decide_eq_false (by omega)).symm | exact (decide_eq_false (by omega)) | omega))), ?_⟩))
                · rfl
              · first | have hT5 := of_decide_eq_true hT5 | have hT5 := of_not_decide_true hT5 | skip
                refine Ls.qP 30 ?_
                refine Ls.qP 31 ?_
                refine Ls.qP 32 ?_
                refine Ls.qT 33 ?_
                refine Ls.nil ?_
                refine Ent.inv () ?_ ?_ ?_
                · exact trivial
                · (repeat (first | exact trivial | refine ⟨by rfl, ?_⟩ | refine ⟨by simp only [List.length_append, List.length_cons, List.length_nil]; rfl, ?_⟩ | refine ⟨by push_cast; rfl, ?_⟩ | refine ⟨by (show some (Value.bool _) = some (Value.bool _); congr 2; all_goals ((first | rfl | exact (decide_eq_false (by omega)).symm | exact (decide_eq_false (by omega)) | omega))), ?_⟩))
                · rfl
            · first | have hT4 := of_decide_eq_true hT4 | have hT4 := of_not_decide_true hT4 | skip
              refine Ls.qP 25 ?_
              refine Ls.qP 26 ?_
              refine Ls.qP 27 ?_
              refine Ls.qT 28 ?_
              refine Ls.qM 29 ?_
              refine Ls.qP 30 ?_
              refine Ls.qP 31 ?_
              refine Ls.qP 32 ?_
              refine Ls.qT 33 ?_
              refine Ls.nil ?_
              refine Ent.inv () ?_ ?_ ?_
              · exact trivial
              · (repeat (first | exact trivial | refine ⟨by rfl, ?_⟩ | refine ⟨by simp only [List.length_append, List.length_cons, List.length_nil]; rfl, ?_⟩ | refine ⟨by push_cast; rfl, ?_⟩ | refine ⟨by (show some (Value.bool _) = some (Value.bool _); congr 2; all_goals ((first | rfl | exact (decide_eq_false (by omega)).symm | exact (decide_eq_false (by omega)) | omega))), ?_⟩))
              · rfl
          · first | have hT3 := of_decide_eq_true hT3 | have hT3 := of_not_decide_true hT3 | skip
            refine Ls.qP 20 ?_
            refine Ls.qP 21 ?_
            refine Ls.qP 22 ?_
            refine Ls.qT 23 ?_
            refine Ls.qM 24 ?_
            refine Ls.qP 25 ?_
            refine Ls.qP 26 ?_
            refine Ls.qP 27 ?_
            refine Ls.qT 28 ?_
            refine Ls.qM 29 ?_
            refine Ls.qP 30 ?_
            refine Ls.qP 31 ?_
            refine Ls.qP 32 ?_
            refine Ls.qT 33 ?_
            refine Ls.nil ?_
            refine Ent.inv () ?_ ?_ ?_
            · exact trivial
            · (repeat (first | exact trivial | refine ⟨by rfl, ?_⟩ | refine ⟨by simp only [List.length_append, List.length_cons, List.length_nil]; rfl, ?_⟩ | refine ⟨by push_cast; rfl, ?_⟩ | refine ⟨by (show some (Value.bool _) = some (Value.bool _); congr 2; all_goals ((first | rfl | exact (decide_eq_false (by omega)).symm | exact (decide_eq_false (by omega)) | omega))), ?_⟩))
            · rfl
        · first | have hT2 := of_decide_eq_true hT2 | have hT2 := of_not_decide_true hT2 | skip
          refine Ls.qP 15 ?_
          refine Ls.qP 16 ?_
          refine Ls.qP 17 ?_
          refine Ls.qT 18 ?_
          refine Ls.qM 19 ?_
          refine Ls.qP 20 ?_
          refine Ls.qP 21 ?_
          refine Ls.qP 22 ?_
          refine Ls.qT 23 ?_
          refine Ls.qM 24 ?_
          refine Ls.qP 25 ?_
          refine Ls.qP 26 ?_
          refine Ls.qP 27 ?_
          refine Ls.qT 28 ?_
          refine Ls.qM 29 ?_
          refine Ls.qP 30 ?_
          refine Ls.qP 31 ?_
          refine Ls.qP 32 ?_
          refine Ls.qT 33 ?_
          refine Ls.nil ?_
          refine Ent.inv () ?_ ?_ ?_
          · exact trivial
          · (repeat (first | exact trivial | refine ⟨by rfl, ?_⟩ | refine ⟨by simp only [List.length_append, List.length_cons, List.length_nil]; rfl, ?_⟩ | refine ⟨by push_cast; rfl, ?_⟩ | refine ⟨by (show some (Value.bool _) = some (Value.bool _); congr 2; all_goals ((first | rfl | exact (decide_eq_false (by omega)).symm | exact (decide_eq_false (by omega)) | omega))), ?_⟩))
          · rfl
      · first | have hT1 := of_decide_eq_true hT1 | have hT1 := of_not_decide_true hT1 | skip
        refine Ls.qP 10 ?_
        refine Ls.qP 11 ?_
        refine Ls.qP 12 ?_
        refine Ls.qT 13 ?_
        refine Ls.qM 14 ?_
        refine Ls.qP 15 ?_
        refine Ls.qP 16 ?_
        refine Ls.qP 17 ?_
        refine Ls.qT 18 ?_
        refine Ls.qM 19 ?_
        refine Ls.qP 20 ?_
        refine Ls.qP 21 ?_
        refine Ls.qP 22 ?_
        refine Ls.qT 23 ?_
        refine Ls.qM 24 ?_
        refine Ls.qP 25 ?_
        refine Ls.qP 26 ?_
        refine Ls.qP 27 ?_
        refine Ls.qT 28 ?_
        refine Ls.qM 29 ?_
        refine Ls.qP 30 ?_
        refine Ls.qP 31 ?_
        refine Ls.qP 32 ?_
        refine Ls.qT 33 ?_
        refine Ls.nil ?_
        refine Ent.inv () ?_ ?_ ?_
        · exact trivial
        · (repeat (first | exact trivial | refine ⟨by rfl, ?_⟩ | refine ⟨by simp only [List.length_append, List.length_cons, List.length_nil]; rfl, ?_⟩ | refine ⟨by push_cast; rfl, ?_⟩ | refine ⟨by (show some (Value.bool _) = some (Value.bool _); congr 2; all_goals ((first | rfl | exact (decide_eq_false (by omega)).symm | exact (decide_eq_false (by omega)) | omega))), ?_⟩))
        · rfl
    skip
    rintro _ -
    refine Cd.cond_false (by rfl) (rfl) ?_
    skip
    refine Cd.skip ?_
    refine Cd.seq ?_
    refine Cd.region ?_
    refine Ls.does (some 34) (Does.mapNew 3 (.int .i64 0) rfl) (by rfl) (by rfl) ?_
    rintro b -
    refine Ls.qA 3 ?_
    refine Ls.nil ?_
    refine Cd.seq ?_
    refine Cd.seq ?_
    refine Cd.region ?_
    refine Ls.qF 35 0 ?_
    refine Ls.qL 36 1 ?_
    refine Ls.qE 37 (Ev.len rfl (by rfl) Tryz.underlying22) ?_
    refine Ls.qM 38 ?_
    refine Ls.nil ?_
    refine Cd.block ?_
    refine Cd.loop (ι := Nat) (fun i => [(1, .pointer (some ⟨g1, 0, none⟩)), (3, .map (some b)), (36, .slice A l.length c), (37, .int .i64 l.length), (38, .int .i64 i)]) (fun i => [mapc Tryz.prog 3 b i (.int .i64 0) (cntV l i), blk g1 24 [.slice A l.length c, .int .i64 nx, .int .i64 lg, .int .i64 sq], rdT A l]) (fun i => i ≤ l.length ∧ ∀ (j : Nat) (t : TbP), j < i → l[j]? = some t → OkAt nx l j t) (fun i => l.length - i) (0) (⟨Nat.zero_le _, fun j t h => absurd h (Nat.not_lt_zero _)⟩) ?_ rfl ?_
    · (repeat (first | exact trivial | refine ⟨by rfl, ?_⟩))
    rintro i ⟨hi, hall⟩
    refine Cd.seq ?_
    refine Cd.region ?_
    refine Ls.qE 39 (Ev.lss rfl (by rfl) (by rfl)) ?_
    refine Ls.nil ?_
    refine Cd.seq ?_
    refine Cd.cond _ (by rfl) (fun h2 => ?_) (fun h2 => ?_)
    · skip
      have hlt : i < l.length := by have := of_decide_eq_true h2; omega
      obtain ⟨t, ht⟩ := get_of_lt hlt
      have htz := hz t (List.mem_of_getElem? ht)
      have hfs : (txt t.fst).size = t.fst.length := rfl
      have hls2 : (txt t.lst).size = t.lst.length := rfl
      refine Ent.rdSome 2 (by rfl) (by omega) (fun ad had => ?_)
      subst had
      refine Cd.skip ?_
      refine Cd.seq ?_
      refine Cd.block ?_
      refine Cd.seq ?_
      refine Cd.region ?_
      refine Ls.qM 40 ?_
      refine Ls.qE 41 (Ev.indexAt (sz := 4) rfl (by rfl) (by rfl) Tryz.underlying22 (by kernel_rfl) (by omega)) ?_
      refine Ls.qE 42 (Ev.loadEl (enc := TbP.enc) (sz := 4) rfl (by rfl) (ReadsIn.rd 2 (by rfl)) (by kernel_rfl) (fun _ => rfl) ht) ?_
      refine Ls.does (some 5) (Does.alloc (cs := [.int .i64 0, .int .i64 0, .string ⟨#[]⟩, .string ⟨#[]⟩]) rfl (ZeroIs.mk (.agg #[.int .i64 0, .int .i64 0, .string ⟨#[]⟩, .string ⟨#[]⟩]) (by kernel_rfl) (by rfl))) (by rfl) (by rfl) ?_
      intro g2 _
      refine Ls.qA 4 ?_
      refine Ls.qD (Does.store 0 rfl (by rfl) (by rfl) (by rfl) (by kernel_rfl) (by rfl) (by kernel_rfl) (by rfl)) ?_
      intro _ _
      refine Ls.nil ?_
      refine Cd.seq ?_
      refine Cd.region ?_
      refine Ls.qM 43 ?_
      refine Ls.qF 44 0 ?_
      refine Ls.qL 45 0 ?_
      refine Ls.qE 46 (Ev.look 1 rfl (by rfl) (by rfl) (by rfl) Tryz.underlying3 Tryz.underlying121 (zero_of (by kernel_rfl)) htz.2.2) ?_
      have hcl : ((l.take i).map TbP.num).count t.num ≤ 90000000 := Nat.le_trans List.count_le_length (by rw [List.length_map, List.length_take]; omega)
      skip
      refine Ls.qE 47 (Ev.to (Ev.addI (a := ((((l.take i).map TbP.num).count t.num : Nat) : Int)) (b := 1) rfl (by rfl) (by rfl) (by omega)) rfl) ?_
      refine Ls.qD (Does.mapPutL 1 rfl (by rfl) (by rfl) (by rfl) (by rfl) Tryz.underlying3 Tryz.underlying121 (by omega) htz.2.2) ?_
      rintro _ -
      rw [cntV_step ht]
      refine Ls.nil ?_
      refine Cd.block ?_
      refine Cd.seq ?_
      refine Cd.seq ?_
      refine Cd.cut (ι := Unit) (fun _ => [(1, .pointer (some ⟨g1, 0, none⟩)), (3, .map (some b)), (4, .int .i64 i), (5, .pointer (some ⟨g2, 0, none⟩)), (36, .slice (some ad) l.length c), (37, .int .i64 l.length), (38, .int .i64 i), (48, .bool (decide (t.lev ≠ 0 ∧ t.lev ≠ 1)))]) (fun _ => [blk g2 42 t.enc, mapc Tryz.prog 3 b (i + 1) (.int .i64 0) (cntV l (i + 1)), blk g1 24 [.slice (some ad) l.length c, .int .i64 nx, .int .i64 lg, .int .i64 sq], rdT (some ad) l]) (fun _ => True) ?_ ?_
      · skip
        refine Cd.region ?_
        refine Ls.qF 49 1 ?_
        refine Ls.qL 50 0 ?_
        refine Ls.qE 51 (Ev.neq rfl (by rfl) (by rfl)) ?_
        refine Ls.qM 52 ?_
        refine Ent.split 52 (by rfl) (fun hT1 => ?_) (fun hT1 => ?_)
        · first | have hT1 := of_decide_eq_false hT1 | have hT1 := of_not_decide_false hT1 | skip
          refine Ls.qP 53 ?_
          refine Ls.qP 54 ?_
          refine Ls.qP 55 ?_
          refine Ls.qN 56 ?_
          refine Ls.qA 48 ?_
          refine Ls.nil ?_
          refine Ent.inv () ?_ ?_ ?_
          · exact trivial
          · (repeat (first | exact trivial | refine ⟨by rfl, ?_⟩ | refine ⟨by simp only [List.length_append, List.length_cons, List.length_nil]; rfl, ?_⟩ | refine ⟨by push_cast; rfl, ?_⟩ | refine ⟨by (show some (Value.bool _) = some (Value.bool _); congr 2; all_goals ((first | exact decide_eq_decide.2 (by omega) | exact (decide_eq_false (by omega)).symm | exact decide_eq_false (by omega) | omega))), ?_⟩))
          · rfl
        · first | have hT1 := of_decide_eq_true hT1 | have hT1 := of_not_decide_true hT1 | skip
          refine Ls.qF 53 1 ?_
          refine Ls.qL 54 0 ?_
          refine Ls.qE 55 (Ev.neq rfl (by rfl) (by rfl)) ?_
          refine Ls.qT 56 ?_
          refine Ls.qA 48 ?_
          refine Ls.nil ?_
          refine Ent.inv () ?_ ?_ ?_
          · exact trivial
          · (repeat (first | exact trivial | refine ⟨by rfl, ?_⟩ | refine ⟨by simp only [List.length_append, List.length_cons, List.length_nil]; rfl, ?_⟩ | refine ⟨by push_cast; rfl, ?_⟩ | refine ⟨by (show some (Value.bool _) = some (Value.bool _); congr 2; all_goals ((first | exact decide_eq_decide.2 (by omega) | exact (decide_eq_false (by omega)).symm | exact decide_eq_false (by omega) | omega))), ?_⟩))
          · rfl
      skip
      rintro _ -
      refine Cd.cond _ (by rfl) (fun h3 => ?_) (fun h3 => ?_)
      · skip
        have k3 := of_decide_eq_true h3
        refine Cd.skip ?_
        refine Cd.cond_true (by rfl) (h3) ?_
        refine Cd.seq ?_
        refine Cd.region ?_
        refine Ls.qA 2 ?_
        refine Ls.nil ?_
        refine Cd.ret ?_
        refine Ent.ret (()) (trivial) (Res.tmp (by rfl) (by rfl)) ?_ [] (by rfl) ?_
        · exact congrArg Value.bool (decide_eq_false (fun h => (fun h=>by have := h.ok.lev; omega) (h.2 i t ht))).symm
        · rfl
      · skip
        have k3 := of_decide_eq_false h3
        refine Cd.seq ?_
        refine Cd.region ?_
        refine Ls.qF 57 0 ?_
        refine Ls.qL 58 0 ?_
        refine Ls.qE 59 (Ev.lss rfl (by rfl) (by rfl)) ?_
        refine Ls.qA 48 ?_
        refine Ls.nil ?_
        refine Cd.cond _ (by rfl) (fun h4 => ?_) (fun h4 => ?_)
        · skip
          have k4 := of_decide_eq_true h4
          refine Cd.skip ?_
          refine Cd.cond_true (by rfl) (h4) ?_
          refine Cd.seq ?_
          refine Cd.region ?_
          refine Ls.qA 2 ?_
          refine Ls.nil ?_
          refine Cd.ret ?_
          refine Ent.ret (()) (trivial) (Res.tmp (by rfl) (by rfl)) ?_ [] (by rfl) ?_
          · exact congrArg Value.bool (decide_eq_false (fun h => (fun h=>by have := h.ok.lo; omega) (h.2 i t ht))).symm
          · rfl
        · skip
          have k4 := of_decide_eq_false h4
          refine Cd.seq ?_
          refine Cd.region ?_
          refine Ls.qF 60 0 ?_
          refine Ls.qL 61 0 ?_
          refine Ls.qE 62 (Ev.gtr rfl (by rfl) (by rfl)) ?_
          refine Ls.qA 48 ?_
          refine Ls.nil ?_
          refine Cd.cond _ (by rfl) (fun h5 => ?_) (fun h5 => ?_)
          · skip
            have k5 := of_decide_eq_true h5
            refine Cd.skip ?_
            refine Cd.cond_true (by rfl) (h5) ?_
            refine Cd.seq ?_
            refine Cd.region ?_
            refine Ls.qA 2 ?_
            refine Ls.nil ?_
            refine Cd.ret ?_
            refine Ent.ret (()) (trivial) (Res.tmp (by rfl) (by rfl)) ?_ [] (by rfl) ?_
            · exact congrArg Value.bool (decide_eq_false (fun h => (fun h=>by have := h.ok.hi; omega) (h.2 i t ht))).symm
            · rfl
          · skip
            have k5 := of_decide_eq_false h5
            refine Cd.region ?_
            refine Ls.qF 63 0 ?_
            refine Ls.qL 64 0 ?_
            refine Ls.qF 65 1 ?_
            refine Ls.qL 66 2 ?_
            refine Ls.qE 67 (Ev.geq rfl (by rfl) (by rfl)) ?_
            refine Ls.qA 48 ?_
            refine Ls.nil ?_
            refine Cd.cond _ (by rfl) (fun h6 => ?_) (fun h6 => ?_)
            · skip
              have k6 := of_decide_eq_true h6
              refine Cd.seq ?_
              refine Cd.region ?_
              refine Ls.qA 2 ?_
              refine Ls.nil ?_
              refine Cd.ret ?_
              refine Ent.ret (()) (trivial) (Res.tmp (by rfl) (by rfl)) ?_ [] (by rfl) ?_
              · exact congrArg Value.bool (decide_eq_false (fun h => by have : t.num < nx := (h.2 i t ht).ok.next; omega)).symm
              · rfl
            · skip
              have k6 := of_decide_eq_false h6
              have hone := cnt_one (nx := nx) ht
              have hcv : cntV l (i + 1) t.num = .int .i64 ((((l.take (i + 1)).map TbP.num).count t.num : Nat) : Int) := rfl
              generalize (((l.take (i + 1)).map TbP.num).count t.num : Nat) = cn at hone hcv
              refine Cd.seq ?_
              refine Cd.seq ?_
              refine Cd.region ?_
              refine Ls.qM 69 ?_
              refine Ls.qF 70 0 ?_
              refine Ls.qL 71 0 ?_
              refine Ls.qE 72 (Ev.to (Ev.look 1 rfl (by rfl) (by rfl) (by rfl) Tryz.underlying3 Tryz.underlying121 (zero_of (by kernel_rfl)) htz.2.2) hcv) ?_
              refine Ls.qE 73 (Ev.gtr rfl (by rfl) (by rfl)) ?_
              refine Ls.qA 68 ?_
              refine Ls.nil ?_
              refine Cd.cond _ (by rfl) (fun h7 => ?_) (fun h7 => ?_)
              · skip
                have k7 := of_decide_eq_true h7
                refine Cd.skip ?_
                refine Cd.cond_true (by rfl) (h7) ?_
                refine Cd.seq ?_
                refine Cd.region ?_
                refine Ls.qA 2 ?_
                refine Ls.nil ?_
                refine Cd.ret ?_
                refine Ent.ret (()) (trivial) (Res.tmp (by rfl) (by rfl)) ?_ [] (by rfl) ?_
                · exact congrArg Value.bool (decide_eq_false (fun h => (fun h=>by have := hone.2 h.once; omega) (h.2 i t ht))).symm
                · rfl
              · skip
                have k7 := of_decide_eq_false h7
                have honce := hone.1 (by omega)
                refine Cd.seq ?_
                refine Cd.region ?_
                refine Ls.qF 74 2 ?_
                refine Ls.qL 75 0 ?_
                refine Ls.qF 76 3 ?_
                refine Ls.qL 77 0 ?_
                refine Ls.qE 78 (Ev.to (Ev.gtrS rfl (by rfl) (by rfl)) (congrArg Value.bool (gtr_txt t.fst t.lst))) ?_
                refine Ls.qA 68 ?_
                refine Ls.nil ?_
                refine Cd.cond _ (by rfl) (fun h8 => ?_) (fun h8 => ?_)
                · skip
                  have k8 := of_decide_eq_true h8
                  refine Cd.skip ?_
                  refine Cd.cond_true (by rfl) (h8) ?_
                  refine Cd.seq ?_
                  refine Cd.region ?_
                  refine Ls.qA 2 ?_
                  refine Ls.nil ?_
                  refine Cd.ret ?_
                  refine Ent.ret (()) (trivial) (Res.tmp (by rfl) (by rfl)) ?_ [] (by rfl) ?_
                  · exact congrArg Value.bool (decide_eq_false (fun h => (fun h=>h.ok.keys k8) (h.2 i t ht))).symm
                  · rfl
                · skip
                  have k8 := of_decide_eq_false h8
                  refine Cd.seq ?_
                  refine Cd.region ?_
                  refine Ls.qF 79 2 ?_
                  refine Ls.qL 80 0 ?_
                  refine Ls.qE 81 (Ev.lenS rfl (by rfl) Tryz.underlying9) ?_
                  refine Ls.qE 82 (Ev.gtr rfl (by rfl) (by rfl)) ?_
                  refine Ls.qA 68 ?_
                  refine Ls.nil ?_
                  refine Cd.cond _ (by rfl) (fun h9 => ?_) (fun h9 => ?_)
                  · skip
                    have k9 := of_decide_eq_true h9
                    refine Cd.skip ?_
                    refine Cd.cond_true (by rfl) (h9) ?_
                    refine Cd.seq ?_
                    refine Cd.region ?_
                    refine Ls.qA 2 ?_
                    refine Ls.nil ?_
                    refine Cd.ret ?_
                    refine Ent.ret (()) (trivial) (Res.tmp (by rfl) (by rfl)) ?_ [] (by rfl) ?_
                    · exact congrArg Value.bool (decide_eq_false (fun h => (fun h=>by have := h.ok.fst; omega) (h.2 i t ht))).symm
                    · rfl
                  · skip
                    have k9 := of_decide_eq_false h9
                    refine Cd.region ?_
                    refine Ls.qF 83 3 ?_
                    refine Ls.qL 84 0 ?_
                    refine Ls.qE 85 (Ev.lenS rfl (by rfl) Tryz.underlying9) ?_
                    refine Ls.qE 86 (Ev.gtr rfl (by rfl) (by rfl)) ?_
                    refine Ls.qA 68 ?_
                    refine Ls.nil ?_
                    refine Cd.cond _ (by rfl) (fun h10 => ?_) (fun h10 => ?_)
                    · skip
                      have k10 := of_decide_eq_true h10
                      refine Cd.seq ?_
                      refine Cd.region ?_
                      refine Ls.qA 2 ?_
                      refine Ls.nil ?_
                      refine Cd.ret ?_
                      refine Ent.ret (()) (trivial) (Res.tmp (by rfl) (by rfl)) ?_ [] (by rfl) ?_
                      · exact congrArg Value.bool (decide_eq_false (fun h => by have := (h.2 i t ht).ok.lst; omega)).symm
                      · rfl
                    · skip
                      have k10 := of_decide_eq_false h10
                      have hok : TbOk nx t := ⟨by omega, by omega, by omega, by omega, k8, by omega, by omega⟩
                      refine Cd.seq ?_
                      by_cases h0 : 1 ≤ i
                      · skip
                        obtain ⟨u, hu⟩ := get_of_lt (show i - 1 < l.length by omega)
                        refine Cd.draw [] (by kernel_rfl) ?_
                        refine Rg.qE 0 88 (by rfl) (Ev.move rfl (by rfl)) ?_
                        refine Rg.qE 1 89 (by rfl) (Ev.gtr rfl (by rfl) (by rfl)) ?_
                        refine Rg.qE 2 90 (by rfl) (Ev.move rfl (by rfl)) ?_
                        skip
                        refine Ent.known 90 true (by rfl) (by exact (decide_eq_true (show (0 : Int) < (i : Int) by omega))) ?_
                        refine Rg.qE 3 91 (by rfl) (Ev.fieldAddr (k := 0) rfl (by rfl) (by kernel_rfl) (by rfl)) ?_
                        refine Rg.qE 4 92 (by rfl) (Ev.load 2 rfl (by rfl) (by rfl) (by kernel_rfl) (by rfl)) ?_
                        refine Rg.qE 5 93 (by rfl) (Ev.move rfl (by rfl)) ?_
                        refine Rg.qE 6 94 (by rfl) (Ev.subN (b := 1) rfl (by rfl) (by rfl) (by omega)) ?_
                        refine Rg.qE 7 95 (by rfl) (Ev.indexAt (sz := 4) rfl (by rfl) (by rfl) Tryz.underlying22 (by kernel_rfl) (by omega)) ?_
                        refine Rg.qE 8 96 (by rfl) (Ev.loadEl rfl (by rfl) (ReadsIn.rd 3 (by rfl)) (by kernel_rfl) (by intro _; rfl) (by assumption)) ?_
                        refine Rg.qE 9 97 (by rfl) (Ev.loads 0 rfl (by rfl) (by rfl) (n := 4) (by kernel_rfl) (by rfl) (by rfl)) ?_
                        refine Rg.does 10 (by rfl) (by kernel_rfl) (Does.read rfl Tryz.func40 (by kernel_rfl) (by kernel_rfl) (order_sl u t) (by rfl) (by rfl) trivial) (by rfl) (some 98) (by rfl) (by exact fun _ _ h => h) ?_
                        rintro _ -
                        refine Rg.qE 11 99 (by rfl) (Ev.geq rfl (by rfl) (by rfl)) ?_
                        refine Rg.qE 12 100 (by rfl) (Ev.pickT rfl (by rfl) (by rfl)) ?_
                        refine Rg.qE 13 87 (by rfl) (Ev.assign rfl (by rfl)) ?_
                        refine Rg.done (by kernel_rfl) ?_ _
                        have hord : decide ((0 : Int) ≤ ordI u t) = !(ltT u t) := by
                          rw [← ordI_lt]
                          by_cases q : ordI u t < 0
                          · rw [decide_eq_true q, decide_eq_false (by omega)]
                            rfl
                          · rw [decide_eq_false q, decide_eq_true (by omega)]
                            rfl
                        rw [hord]
                        cases hlu : ltT u t with
                        | true =>
                          skip
                          refine Cd.cond_false (by rfl) (rfl) ?_
                          refine Cd.skip ?_
                          refine Cd.region ?_
                          refine Ls.qE 101 (Ev.addN (b := 1) rfl (by rfl) (by rfl) (by omega)) ?_
                          refine Ls.qM 38 ?_
                          refine Ls.nil ?_
                          refine Ent.pick [1, 2, 3] (by rfl) ?_
                          refine Ent.inv (i + 1) ?_ ?_ ?_
                          · (try dsimp only); exact ⟨⟨hlt, fun j w hj hw => by
                            by_cases e : j = i
                            · subst e
                              rw [ht] at hw
                              obtain rfl := Option.some.inj hw
                              exact ⟨hok, honce, fun w _ hw => by rw [hu] at hw; obtain rfl := Option.some.inj hw; exact hlu⟩
                            · exact hall j w (by omega) hw⟩, by omega⟩
                          · (repeat (first | exact trivial | refine ⟨by rfl, ?_⟩ | refine ⟨by simp only [List.length_append, List.length_cons, List.length_nil]; rfl, ?_⟩ | refine ⟨by push_cast; rfl, ?_⟩))
                          · rfl
                        | false =>
                          skip
                          refine Cd.cond_true (by rfl) (rfl) ?_
                          refine Cd.seq ?_
                          refine Cd.region ?_
                          refine Ls.qA 2 ?_
                          refine Ls.nil ?_
                          refine Cd.ret ?_
                          refine Ent.ret (()) (trivial) (Res.tmp (by rfl) (by rfl)) ?_ [] (by rfl) ?_
                          · exact congrArg Value.bool (decide_eq_false (fun h => by
                              have := (h.2 i t ht).ahead u h0 hu
                              rw [hlu] at this
                              cases this)).symm
                          · rfl
                      · skip
                        obtain rfl : i = 0 := by omega
                        refine Cd.draw [] (by kernel_rfl) ?_
                        refine Rg.qE 0 88 (by rfl) (Ev.move rfl (by rfl)) ?_
                        refine Rg.qE 1 89 (by rfl) (Ev.gtr rfl (by rfl) (by rfl)) ?_
                        refine Rg.qE 2 90 (by rfl) (Ev.move rfl (by rfl)) ?_
                        refine Ent.known 90 false (by rfl) (by exact (decide_eq_false (show ¬ ((0 : Int) < ((0 : Nat) : Int)) by decide))) ?_
                        refine Rg.qP 3 91 ?_
                        refine Rg.qP 4 92 ?_
                        refine Rg.qP 5 93 ?_
                        refine Rg.qP 6 94 ?_
                        refine Rg.qP 7 95 ?_
                        refine Rg.qP 8 96 ?_
                        refine Rg.qP 9 97 ?_
                        refine Rg.qP 10 98 ?_
                        refine Rg.qP 11 99 ?_
                        refine Rg.qE 12 100 (by rfl) (Ev.pickF rfl (by rfl) (by rfl)) ?_
                        refine Rg.qE 13 87 (by rfl) (Ev.assign rfl (by rfl)) ?_
                        refine Rg.done (by kernel_rfl) ?_ _
                        refine Cd.cond_false (by rfl) (rfl) ?_
                        refine Cd.skip ?_
                        refine Cd.region ?_
                        refine Ls.qE 101 (Ev.addN (b := 1) rfl (by rfl) (by rfl) (by omega)) ?_
                        refine Ls.qM 38 ?_
                        refine Ls.nil ?_
                        refine Ent.pick [1, 2, 3] (by rfl) ?_
                        refine Ent.inv (1) ?_ ?_ ?_
                        · (try dsimp only); exact ⟨⟨hlt, fun j w hj hw => by
                          obtain rfl : j = 0 := by omega
                          rw [ht] at hw
                          obtain rfl := Option.some.inj hw
                          exact ⟨hok, honce, fun w h => absurd h (by decide)⟩⟩, by omega⟩
                        · (repeat (first | exact trivial | refine ⟨by rfl, ?_⟩ | refine ⟨by simp only [List.length_append, List.length_cons, List.length_nil]; rfl, ?_⟩ | refine ⟨by push_cast; rfl, ?_⟩))
                        · rfl
    · skip
      have hge : l.length ≤ i := by have := of_decide_eq_false h2; omega
      refine Cd.exit ?_
      refine Cd.seq ?_
      refine Cd.region ?_
      refine Ls.qA 2 ?_
      refine Ls.nil ?_
      refine Cd.ret ?_
      refine Ent.ret (()) (trivial) (Res.tmp (by rfl) (by rfl)) ?_ [] (by rfl) ?_
      · refine congrArg Value.bool (decide_eq_true ⟨hr, fun j t ht => hall j t ?_ ht⟩).symm
        have := (List.getElem?_eq_some_iff.1 ht).1
        dsimp only at this
        omega
      · rfl
end Go.Proofs.YtacbkganjkipdaaGreatDoor
/- a table looked for by its number -/
namespace Go.Proofs.YtacbkganjkipdaaGreatDoor
open Go.RowKit
abbrev numV (g : Nat) : Value := .func (.func 37) #[] #[.pointer (some ⟨g, 0, none⟩)]
abbrev rnum (g : Nat) (n : Int) : Chunk := rblk g 3 [.int .i64 n]
theorem fit1_sl (g : Nat) (n : Int) (t : TbP) : Fn Tryz.prog 37 #[.agg t.enc.toArray, .pointer (some ⟨g, 0, none⟩)] [rnum g n] Unit (fun _ => .bool (decide (t.num = n))) (fun _ => []) (fun _ => True) := by
  dsimp only [TbP.enc]
  refine Fn.enter Tryz.func37 rfl Tryz.ntmps37 (by rfl) ?_
  intro w0
  skip
  refine Cd.seq ?_
  refine Cd.region ?_
  refine Ls.does (some 2) (Does.box rfl (by rfl)) (by rfl) (by rfl) ?_
  intro g1 _
  refine Ls.qA 3 ?_
  refine Ls.nil ?_
  refine Cd.seq ?_
  refine Cd.region ?_
  refine Ls.qF 4 0 ?_
  refine Ls.qL 5 0 ?_
  refine Ls.qE 6 (Ev.loadB 1 rfl (by rfl) (by rfl) (by kernel_rfl) (by rfl)) ?_
  refine Ls.qE 7 (Ev.eql rfl (by rfl) (by rfl)) ?_
  refine Ls.qA 3 ?_
  refine Ls.nil ?_
  refine Cd.ret ?_
  refine Ent.ret (()) (trivial) (Res.tmp (by rfl) (by rfl)) ?_ [] (by rfl) ?_
  · rfl
  · rfl
theorem fit1_fnv (g : Nat) (n : Int) (t : TbP) : FnV Tryz.prog (numV g) [.agg t.enc.toArray] [rnum g n] Unit (fun _ => .bool (decide (t.num = n))) (fun _ => []) (fun _ => True) :=
  ⟨37, Tryz.f37, [.pointer (some ⟨g, 0, none⟩)], rfl, Tryz.func37, by kernel_rfl, by kernel_rfl, fit1_sl g n t⟩
/-- Where a table of this number stands. -/
def IdxR (l : List TbP) (n r : Int) : Prop := (r = -1 ∧ ∀ t ∈ l, t.num ≠ n) ∨ ∃ (i : Nat) (t : TbP), r = i ∧ l[i]? = some t ∧ t.num = n
theorem index_sl (A : Option Addr) (c : Nat) (l : List TbP) (g : Nat) (n : Int) (hl : l.length ≤ 1000000000) : Fn Tryz.prog 36 #[.slice A l.length c, numV g] [rdT A l, rnum g n] Int (fun r => .int .i64 r) (fun _ => []) (IdxR l n) := by
  refine Fn.enter Tryz.func36 rfl Tryz.ntmps36 (by rfl) ?_
  intro w0
  skip
  refine Cd.seq ?_
  refine Cd.region ?_
  refine Ls.qA 4 ?_
  refine Ls.nil ?_
  refine Cd.seq ?_
  refine Cd.seq ?_
  refine Cd.region ?_
  refine Ls.qM 6 ?_
  refine Ls.qE 7 (Ev.len rfl (by rfl) Tryz.underlying22) ?_
  refine Ls.qM 8 ?_
  refine Ls.nil ?_
  refine Cd.block ?_
  refine Cd.loop (ι := Nat) (fun k => [(0, .slice A l.length c), (1, numV g), (7, .int .i64 l.length), (8, .int .i64 k)]) (fun _ => [rdT A l, rnum g n]) (fun k => k ≤ l.length ∧ ∀ t ∈ l.take k, t.num ≠ n) (fun k => l.length - k) (0) (⟨Nat.zero_le _, fun t h => absurd (show t ∈ [] from h) List.not_mem_nil⟩) ?_ rfl ?_
  · (repeat (first | exact trivial | refine ⟨by rfl, ?_⟩))
  rintro k ⟨hk, hall⟩
  refine Cd.seq ?_
  refine Cd.region ?_
  refine Ls.qE 9 (Ev.lss rfl (by rfl) (by rfl)) ?_
  refine Ls.nil ?_
  refine Cd.seq ?_
  refine Cd.cond _ (by rfl) (fun h2 => ?_) (fun h2 => ?_)
  · skip
    have hlt : k < l.length := by have := of_decide_eq_true h2; omega
    obtain ⟨t, ht⟩ := get_of_lt hlt
    refine Ent.rdSome 0 (by rfl) (by omega) (fun ad had => ?_)
    subst had
    refine Cd.skip ?_
    refine Cd.seq ?_
    refine Cd.block ?_
    refine Cd.seq ?_
    refine Cd.region ?_
    refine Ls.qM 10 ?_
    refine Ls.qA 5 ?_
    refine Ls.nil ?_
    refine Cd.seq ?_
    refine Cd.regionI ?_
    refine Li.ev (some 11) (Ev.move rfl (by rfl)) (by rfl) (by rfl) ?_
    refine Li.ev (some 12) (Ev.move rfl (by rfl)) (by rfl) (by rfl) ?_
    refine Li.ev (some 13) (Ev.move rfl (by rfl)) (by rfl) (by rfl) ?_
    refine Li.ev (some 14) (Ev.indexAt (sz := 4) rfl (by rfl) (by rfl) Tryz.underlying22 (by kernel_rfl) (by omega)) (by rfl) (by rfl) ?_
    refine Li.ev (some 15) (Ev.loadEl (enc := TbP.enc) (sz := 4) rfl (by rfl) (ReadsIn.rd 0 (by rfl)) (by kernel_rfl) (fun _ => rfl) ht) (by rfl) (by rfl) ?_
    refine Li.does (some 16) (Does.readV rfl (by rfl) (fit1_fnv g n t) (by rfl) (by rfl) ⟨rblkIn 1 (by rfl), trivial⟩) (by rfl) (by rfl) ?_
    rintro _ -
    refine Li.nil ?_
    refine Cd.cond _ (by rfl) (fun h3 => ?_) (fun h3 => ?_)
    · skip
      refine Cd.seq ?_
      refine Cd.region ?_
      refine Ls.qM 17 ?_
      refine Ls.qA 4 ?_
      refine Ls.nil ?_
      refine Cd.ret ?_
      refine Ent.ret ((k : Int)) (.inr ⟨k, t, rfl, ht, of_decide_eq_true h3⟩) (Res.tmp (by rfl) (by rfl)) ?_ [] (by rfl) ?_
      · rfl
      · rfl
    · skip
      have h3 := of_decide_eq_false h3
      refine Cd.skip ?_
      refine Cd.region ?_
      refine Ls.qE 18 (Ev.addN (b := 1) rfl (by rfl) (by rfl) (by omega)) ?_
      refine Ls.qM 8 ?_
      refine Ls.nil ?_
      refine Ent.inv (k + 1) ?_ ?_ ?_
      · (try dsimp only); exact ⟨⟨hlt, fun u hu => by
        rw [List.take_add_one, ht] at hu
        rcases List.mem_append.1 hu with hu | hu
        · exact hall u hu
        · obtain rfl : u = t := by simpa using hu
          exact h3⟩, by omega⟩
      · (repeat (first | exact trivial | refine ⟨by rfl, ?_⟩ | refine ⟨by simp only [List.length_append, List.length_cons, List.length_nil]; rfl, ?_⟩ | refine ⟨by push_cast; rfl, ?_⟩))
      · rfl
  · skip
    have hge : l.length ≤ k := by have := of_decide_eq_false h2; omega
    rw [List.take_of_length_le hge] at hall
    refine Cd.exit ?_
    refine Cd.seq ?_
    refine Cd.region ?_
    refine Ls.qE 4 (Ev.assign (show Oper.op _ = Op.assign (Operand.const (Value.int IntKind.i64 (-1))) from rfl) (by rfl)) ?_
    refine Ls.nil ?_
    refine Cd.ret ?_
    refine Ent.ret ((-1 : Int)) (.inl ⟨rfl, hall⟩) (Res.tmp (by rfl) (by rfl)) ?_ [] (by rfl) ?_
    · rfl
    · rfl
end Go.Proofs.YtacbkganjkipdaaGreatDoor
/- An append that stays in its own row, of what that row may hold itself. -/
namespace Go.Proofs.YtacbkganjkipdaaGreatDoor
open Go.RowKit
section
variable {Γ : Ctx} {N : Frm} {P : Program} {E : Env} {H : List Chunk} {o : Oper} {x y : Operand}
theorem Does.appIn {t e sz bytes n c k m d : Nat} {A : Option Addr} {bd : Addr} {xs news : List Value} (i : Nat) (ho : o.op = .call { callee := .builtin .append, args := #[x, y], argTypes := #[t, t] }) (hx : E.ev x = some (.slice A k c)) (hy : E.ev y = some (.slice (some bd) m d)) (hi : H[i]? = some (row A n c e sz xs)) (hn0 : 0 < n) (hr : ReadsIn Γ H sz (some bd) m news) (hel : Elem P t e sz bytes) (h1 : ∀ u ∈ news, u.oneCell' = true) (hkm : k + m ≤ n) :
    Does Γ N P E H o Unit (fun _ => .slice A (k + m) c) (fun _ => H.set i (row A n c e sz (setR xs (k * sz) news))) (fun _ => True) := .of fun ρ hρ w hs => by
  obtain ⟨ie, z, ht, hie, hz, hsize, hby, hzs, hsz, hb0⟩ := hel
  have ho' : Own w 0 e sz A n c xs := hs.mem hi
  have hrw := hr w hs
  rcases ho'.form with ⟨_, e0, _⟩ | ⟨g, cur, hg, _, hb, hnc, hcm, hcs, hxs⟩
  · omega
  · subst hg
    subst hsize
    have hnl : news.length = m * ie.size := hrw.1
    have hcells : ∀ j u, news[j]? = some u → w.cell? (bd.add j) = some u := fun j u hu => by
      rcases Nat.eq_zero_or_pos m with h0 | h0
      · subst h0
        rw [Nat.zero_mul] at hnl
        rw [List.eq_nil_of_length_eq_zero hnl] at hu
        simp at hu
      · obtain ⟨ad, h, _, hc⟩ := hrw.2 h0
        obtain rfl := Option.some.inj h
        exact hc j u hu
    have hmul : k * ie.size + news.length ≤ n * ie.size := by
      rw [hnl, ← Nat.add_mul]
      exact Nat.mul_le_mul_right _ hkm
    have hmul2 : n * ie.size ≤ cur.size := by
      rw [hcs]
      exact Nat.mul_le_mul_right _ hnc
    have hrun := run_append_room (P := P) w t o.type e ie ht hie g k c cur hb bd m d news hnl hcells h1 (by omega) (by omega)
    refine ⟨(), w.setRow g (setR cur.toList (k * ie.size) news).toArray, trivial, ?_, .inl ?_⟩
    · refine hs.turn hi rfl ⟨rfl, rfl, rfl, by simp, fun j hj hn => setRow_other w g j _ (fun e => hn (by rw [e]; rfl))⟩ ?_ (fun j hj => .inl hj)
      have hb2 := setRow_heap w g cur (setR cur.toList (k * ie.size) news).toArray e (0, 0) hb
      have hlen : (setR cur.toList (k * ie.size) news).toArray.size = c * ie.size := by
        rw [List.size_toArray, ← hcs]
        unfold setR
        simp only [List.length_append, List.length_take, List.length_drop, Array.length_toList]
        omega
      have := Own.of_blk (base := 0) (n := n) hb2 (Nat.zero_le _) hnc hcm hlen
      rw [setR_take hmul (by rw [Array.length_toList]; exact hmul2), hxs] at this
      exact this
    · have hrun2 : (Builtin.append_ #[t, t] o.type #[.slice (some ⟨g, 0, none⟩) k c, .slice (some bd) m d]).run P w = .ok (.slice (some ⟨g, 0, none⟩) (k + m) c) (w.setRow g (setR cur.toList (k * ie.size) news).toArray) := hrun
      simp [execOp, ho, resolve, invoke, builtin, hρ x _ hx, hρ y _ hy, hrun2]
theorem Does.clearK {t e sz n c c' m k : Nat} {A : Option Addr} {ad : Addr} {xs : List Value} {v : Value} (i : Nat) (ho : o.op = .call { callee := .builtin .clear, args := #[x], argTypes := #[t] }) (hx : E.ev x = some (.slice (some (ad.add (k * sz))) m c')) (hi : H[i]? = some (row A n c e sz xs)) (hA : A = some ad) (ht : P.underlying t = some (.slice e)) (hz : (P.info? e).bind (·.zero) = some v) (hv : v.cells.size = sz) (h1 : ∀ u ∈ v.cells.toList, u.oneCell' = true) (hm : 0 < m ∧ k + m ≤ n) :
    Does Γ N P E H o Unit (fun _ => .tuple #[]) (fun _ => H.set i (row A n c e sz (setR xs (k * sz) (Builtin.zeroCells v.cells m).toList))) (fun _ => True) := .of fun ρ hρ w hs => by
  have ho' : Own w 0 e sz A n c xs := hs.mem hi
  subst hA
  rcases ho'.form with ⟨e1, _⟩ | ⟨g, cur, e1, hg, hb, hn, hc, hsz, hxs⟩
  · cases e1
  · injection e1 with e1
    subst e1
    have hmm : (⟨g, 0, none⟩ : Addr).add (k * sz) = ⟨g, k * sz, none⟩ := by rw [add_at]; simp
    have hzl : (Builtin.zeroCells v.cells m).toList.length = m * sz := by
      rw [Array.length_toList, size_zeroCells, hv]
    have hmul : k * sz + m * sz ≤ n * sz := by
      rw [← Nat.add_mul]
      exact Nat.mul_le_mul_right _ hm.2
    have hmul2 : n * sz ≤ cur.size := by
      rw [hsz]
      exact Nat.mul_le_mul_right _ hn
    have hone : ∀ u ∈ (Builtin.zeroCells v.cells m).toList, u.oneCell' = true := fun u hu => by
      obtain ⟨j, hj, rfl⟩ := List.getElem_of_mem hu
      rw [hzl] at hj
      have hpos : 0 < sz := by
        rcases Nat.eq_zero_or_pos sz with h0 | h0
        · rw [h0, Nat.mul_zero] at hj
          omega
        · exact h0
      have hlt : j % v.cells.size < v.cells.size := Nat.mod_lt _ (by rw [hv]; exact hpos)
      refine h1 _ ?_
      simp only [Builtin.zeroCells, Array.getElem_toList, Array.getElem_map, Array.getElem_range]
      rw [getElem!_pos v.cells (j % v.cells.size) hlt]
      exact Array.mem_toList_iff.2 (Array.getElem_mem hlt)
    have hst := run_storeCells_at P g (k * sz) e (Builtin.zeroCells v.cells m).toList 0 cur w hb (by rw [hzl, Nat.add_zero]; omega) hone
    simp only [Nat.add_zero] at hst
    have hzv : (zeroValue e).run P w = .ok v w := by
      obtain ⟨ie, hie, hz⟩ := Option.bind_eq_some_iff.1 hz
      simp [zeroValue, typeInfo, hie, hz]
    refine ⟨(), w.setRow g (setR cur.toList (k * sz) (Builtin.zeroCells v.cells m).toList).toArray, trivial, ?_, .inl ?_⟩
    · refine hs.turn hi rfl ⟨rfl, rfl, rfl, by simp, fun j hj hn => setRow_other w g j _ (fun e => hn (by rw [e]; rfl))⟩ ?_ (fun j hj => .inl hj)
      have hb2 := setRow_heap w g cur (setR cur.toList (k * sz) (Builtin.zeroCells v.cells m).toList).toArray e (0, 0) hb
      have hlen : (setR cur.toList (k * sz) (Builtin.zeroCells v.cells m).toList).toArray.size = c * sz := by
        rw [List.size_toArray, ← hsz]
        unfold setR
        simp only [List.length_append, List.length_take, List.length_drop, Array.length_toList]
        rw [Array.length_toList] at hzl
        omega
      have := Own.of_blk (base := 0) (n := n) hb2 (Nat.zero_le _) hn hc hlen
      rw [setR_take (by rw [hzl]; exact hmul) (by rw [Array.length_toList]; exact hmul2), hxs] at this
      exact this
    · obtain ⟨m', rfl⟩ : ∃ m', m = m' + 1 := ⟨m - 1, by omega⟩
      rw [hmm] at hx
      simp [execOp, ho, resolve, invoke, hρ x _ hx, builtin, Builtin.clear_, run_underlying ht, hzv, hst, setR]
end
end Go.Proofs.YtacbkganjkipdaaGreatDoor
/- a table taken out of a list of one's own -/
namespace Go.Proofs.YtacbkganjkipdaaGreatDoor
open Go.RowKit
theorem tbs_drop : ∀ (l : List TbP) (k : Nat), (tbs l).drop (k * 4) = tbs (l.drop k)
  | [], k => by simp [tbs]
  | t :: l, 0 => by simp
  | t :: l, k + 1 => by
    have : tbs (t :: l) = t.enc ++ tbs l := List.flatMap_cons
    rw [this, Nat.succ_mul, Nat.add_comm, ← List.drop_drop, List.drop_left' (tb_len t), tbs_drop l k, List.drop_succ_cons]
theorem tbs_take : ∀ (l : List TbP) (k : Nat), (tbs l).take (k * 4) = tbs (l.take k)
  | [], k => by simp [tbs]
  | t :: l, 0 => by simp [tbs]
  | t :: l, k + 1 => by
    have h1 : tbs (t :: l) = t.enc ++ tbs l := List.flatMap_cons
    have h2 : tbs (t :: l.take k) = t.enc ++ tbs (l.take k) := List.flatMap_cons
    rw [h1, List.take_succ_cons, h2, List.take_append, tb_len, List.take_of_length_le (by rw [tb_len]; omega), show (k + 1) * 4 - 4 = k * 4 by omega, tbs_take l k]
theorem tbs_length (l : List TbP) : (tbs l).length = l.length * 4 := by
  unfold tbs
  rw [List.length_flatMap]
  simp only [tb_len]
  rw [List.map_const', List.sum_replicate_nat]
theorem tbs_append (a b : List TbP) : tbs (a ++ b) = tbs a ++ tbs b := List.flatMap_append
theorem cut_reads {Γ : Ctx} {H : List Chunk} {A : Option Addr} {n c : Nat} {l : List TbP} (i k : Nat) (hi : H[i]? = some (rowTb A n c l)) (hn : l.length = n) (hk : k ≤ n) (hc : n ≤ c) : ReadsIn Γ H 4 (cutA A c k 4) (n - k) (tbs (l.drop k)) := fun w hs => by
  have hs1 := hs.see (C' := rd A n 4 (tbs l)) hi rfl row_rd.1 row_rd.2
  have hlt := (List.getElem?_eq_some_iff.1 hi).1
  have hs2 := Sat.cut (A := A) (n := n) (sz := 4) (xs := tbs l) i k n c (by rw [List.getElem?_set]; simp [hlt]) hk (Nat.le_refl _) hc hs1
  have h3 : Reads w w.heap.size 4 (cutA A c k 4) (n - k) (((tbs l).drop (k * 4)).take ((n - k) * 4)) := hs2.mem (i := 0) rfl
  rw [tbs_drop, List.take_of_length_le (by rw [tbs_length, List.length_drop]; omega)] at h3
  exact h3
theorem del_sl (A : Option Addr) (n c i : Nat) (l : List TbP) (hn : l.length = n) (hi : i < n) (hm : n ≤ 1000000000) : Fn Tryz.prog 38 #[.slice A n c, .int .i64 i, .int .i64 (i + 1 : Nat)] [rowTb A n c l] Unit (fun _ => .slice A (n - 1) c) (fun _ => [rowTb A (n - 1) c (l.eraseIdx i)]) (fun _ => True) := by
  refine Fn.enter Tryz.func38 rfl Tryz.ntmps38 (by rfl) ?_
  intro w0
  refine Ent.fact 0 (by rfl) (p := n ≤ c ∧ c ≤ maxLen) (fun w hw => ⟨Own.le hw, Own.capLe hw⟩) (fun hc => ?_)
  have hcm := hc.2
  unfold maxLen at hcm
  refine Ent.rowSome 0 (by rfl) (by omega) (fun ad had => ?_)
  obtain rfl : A = some ad := had
  skip
  refine Cd.seq ?_
  refine Cd.region ?_
  refine Ls.qA 6 ?_
  refine Ls.nil ?_
  refine Cd.seq ?_
  refine Cd.region ?_
  refine Ls.qM 8 ?_
  refine Ls.qM 9 ?_
  refine Ls.qM 10 ?_
  refine Ls.qM 11 ?_
  refine Ls.qE 12 (Ev.len rfl (by rfl) Tryz.underlying22) ?_
  refine Ls.qE 13 (Ev.sliceLHMs (sz := 4) rfl (by rfl) (by rfl) (by rfl) (by rfl) Tryz.underlying22 (by kernel_rfl) (by omega)) ?_
  refine Ls.nil ?_
  refine Cd.seq ?_
  refine Cd.seq ?_
  refine Cd.region ?_
  refine Ls.qM 14 ?_
  refine Ls.qM 15 ?_
  refine Ls.qE 16 (Ev.eql rfl (by rfl) (by rfl)) ?_
  refine Ls.nil ?_
  refine Cd.cond_false (by rfl) (decide_eq_false (show ¬ ((i : Int) = ((i + 1 : Nat) : Int)) by omega)) ?_
  obtain ⟨bd, hbd⟩ : ∃ bd, cutA (some ad) c (i + 1) 4 = some bd := by
    unfold cutA
    split
    · exact ⟨_, rfl⟩
    · exact ⟨_, rfl⟩
  have hrd := cut_reads (Γ := ⟨w0, [rowTb (some ad) n c l]⟩) (H := [rowTb (some ad) n c l]) (A := some ad) (n := n) (c := c) (l := l) 0 (i + 1) rfl hn (by omega) hc.1
  rw [hbd] at hrd
  refine Cd.skip ?_
  refine Cd.seq ?_
  refine Cd.region ?_
  refine Ls.qM 18 ?_
  refine Ls.qE 19 (Ev.len rfl (by rfl) Tryz.underlying22) ?_
  refine Ls.qA 7 ?_
  refine Ls.nil ?_
  refine Cd.seq ?_
  refine Cd.draw [6] (by kernel_rfl) ?_
  refine Rg.qE 0 20 (by rfl) (Ev.move rfl (by rfl)) ?_
  refine Rg.qE 1 21 (by rfl) (Ev.move rfl (by rfl)) ?_
  refine Rg.qE 2 22 (by rfl) (Ev.sliceHn (sz := 4) rfl (by rfl) (by rfl) Tryz.underlying22 (by kernel_rfl) (by omega)) ?_
  refine Rg.qE 3 23 (by rfl) (Ev.move rfl (by rfl)) ?_
  refine Rg.qE 4 24 (by rfl) (Ev.move rfl (by rfl)) ?_
  refine Rg.qE 5 25 (by rfl) (Ev.sliceLn (sz := 4) rfl (by rfl) (by rfl) Tryz.underlying22 (by kernel_rfl) (by omega)) ?_
  rw [hbd]
  refine Rg.tail 6 [] (by rfl) (by kernel_rfl) (Does.appIn (k := i) (m := n - (i + 1)) (news := tbs (l.drop (i + 1))) 0 rfl (by rfl) (by rfl) (by rfl) (by omega) hrd elem_tb (one_tb _) (by omega)) (by rfl) (some 26) (by rfl) (by kernel_rfl) (by kernel_rfl) ?_
  rintro _ -
  rw [show i + (n - (i + 1)) = n - 1 by omega]
  have hlen : (tbs (l.eraseIdx i)).length = (n - 1) * 4 := by
    rw [tbs_length, List.length_eraseIdx_of_lt (by omega), hn]
  have htk : (setR (tbs l) (i * 4) (tbs (l.drop (i + 1)))).take ((n - 1) * 4) = tbs (l.eraseIdx i) := by
    unfold setR
    rw [tbs_take, ← tbs_append, ← List.eraseIdx_eq_take_drop_succ, ← hlen, List.take_left]
  have hfin : ∀ z, (setR (setR (tbs l) (i * 4) (tbs (l.drop (i + 1)))) ((n - 1) * 4) z).take ((n - 1) * 4) = tbs (l.eraseIdx i) := fun z => by
    generalize setR (tbs l) (i * 4) (tbs (l.drop (i + 1))) = X at htk
    unfold setR
    rw [htk, List.append_assoc, ← hlen, List.take_left]
  generalize setR (tbs l) (i * 4) (tbs (l.drop (i + 1))) = X at hfin ⊢
  have hcut : cutA (some ad) c (n - 1) 4 = some (ad.add ((n - 1) * 4)) := by
    unfold cutA
    rw [if_neg (by omega)]
    rfl
  refine Rg.qE 7 0 (by rfl) (Ev.assign rfl (by rfl)) ?_
  refine Rg.done (by kernel_rfl) ?_ _
  refine Cd.seq ?_
  refine Cd.region ?_
  refine Ls.qM 27 ?_
  refine Ls.qM 28 ?_
  refine Ls.qE 29 (Ev.len rfl (by rfl) Tryz.underlying22) ?_
  refine Ls.qM 30 ?_
  refine Ls.qE 31 (Ev.sliceLHn (l := n - 1) (h := n) (sz := 4) rfl (by rfl) (by rfl) (by rfl) Tryz.underlying22 (by kernel_rfl) (by omega)) ?_
  rw [hcut, show n - (n - 1) = 1 by omega]
  refine Ls.qD (Does.clearK (k := n - 1) (m := 1) (v := .agg #[.int .i64 0, .int .i64 0, .string ⟨#[]⟩, .string ⟨#[]⟩]) 0 rfl (by rfl) (by rfl) rfl Tryz.underlying22 (by kernel_rfl) (by rfl) (List.all_eq_true.1 (by rfl)) (by omega)) ?_
  rintro _ -
  refine Ls.nil ?_
  refine Cd.seq ?_
  refine Cd.region ?_
  refine Ls.qM 32 ?_
  refine Ls.qA 6 ?_
  refine Ls.nil ?_
  refine Ent.trunc 0 (n - 1) (by rfl) (by omega) ?_
  refine Cd.ret ?_
  refine Ent.ret (()) (trivial) (Res.tmp (by rfl) (by rfl)) ?_ [0] (by rfl) ?_
  · rfl
  · show [row _ _ _ _ _ _] = [row _ _ _ _ _ _]
    rw [hfin]
end Go.Proofs.YtacbkganjkipdaaGreatDoor
