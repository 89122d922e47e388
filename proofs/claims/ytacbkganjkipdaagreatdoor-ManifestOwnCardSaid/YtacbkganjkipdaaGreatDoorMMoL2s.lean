/-
  Texts joined: MoM, WlLd.
-/
import Derived.Test.YtacbkganjkipdaaGreatDoorMMoL2a
import Derived.Test.YtacbkganjkipdaaGreatDoorMMoL2m
import Derived.Test.YtacbkganjkipdaaGreatDoorMMoL2n
import Derived.Test.YtacbkganjkipdaaGreatDoorMMoL2r
import Derived.Deep.DeepHandedRow
import Derived.Stop.LaidErr
import Derived.Shelf.Vars
import Derived.MakeChecks
/- the law ManifestOwn, walked -/
namespace Go.Proofs.YtacbkganjkipdaaGreatDoor
open Go.RowKit
abbrev t77 : TbP := ⟨77, 0, [], []⟩
theorem own_no {P : DrP} {m : MfP} {e : EdP} (h : ¬ FitOk m.v e) : chgP P m e = (P, m, 80) := by
  unfold chgP
  rw [if_pos h]
theorem own_yes {P : DrP} {m : MfP} {e : EdP} (h : FitOk m.v e) (hg : goodP m.v) : goodP (chgP P m e).2.1.v ∧ ((chgP P m e).2.2 = 0 → (chgP P m e).2.1.v = outP m.v e) := by
  unfold chgP
  rw [if_neg (fun k => k h)]
  split
  · exact ⟨hg, fun h => absurd (show (3 : Int) = 0 from h) (by decide)⟩
  · split
    · exact ⟨hg, fun h => absurd (show (5 : Int) = 0 from h) (by decide)⟩
    · split
      · exact ⟨hg, fun h => absurd (show (6 : Int) = 0 from h) (by decide)⟩
      · dsimp only
        generalize (if m.made = true then runP [fun P => P.append (nameK kMan m.num) (sealL (edB e)), fun P => P.sync (nameK kMan m.num)] P else runP (swapL P (nameK kMan m.num) (snapB (outP m.v e))) P) = r
        split
        · exact ⟨hg, fun h => absurd (show (6 : Int) = 0 from h) (by decide)⟩
        · exact ⟨h.out, fun _ => rfl⟩
theorem front_row {Γ : Ctx} {H : List Chunk} {A : Option Addr} {c : Nat} {l : List TbP} {t : TbP} (i : Nat) (hi : H[i]? = some (rowTb A (l.length + 1) c (l ++ [t]))) : ReadsIn Γ H 4 A l.length (tbs l) := by
  have h := reads_frontR (Γ := Γ) (k := l.length) i hi (Nat.le_succ _)
  rw [tbs_take, List.take_left] at h
  exact h
/-- Change over a beginning of what is one's own. -/
theorem lend_front {D : DrS} {P : DrP} (h : Drv D P) (g : Nat) (A : Option Addr) (c : Nat) (m : MfP) (hg : goodP m.v) (hn : m.num ≤ 1000000) (e : EdP) (he : EdIn e) (B E : Option Addr) (b d : Nat) (t : TbP) : Fn Tryz.prog 14 #[ptrV g, .agg (e.val B b E d).toArray] ([mfB g D.d A c m, rowTb A m.v.tbs.length c m.v.tbs, rd E e.drop.length 1 (ints e.drop), laidC, D.B, D.M, D.F] ++ [rowTb B (e.add.length + 1) b (e.add ++ [t])]) (DrS × (Option Addr × Nat)) (fun _ => .int .i64 (chgP P m e).2.2) (fun r => chgC g D.d (chgP P m e).2.1 r ++ [rowTb B (e.add.length + 1) b (e.add ++ [t])]) (fun r => Drv r.1 (chgP P m e).1 ∧ r.1.d = D.d ∧ r.1.m = D.m) :=
  Fn.lend (r := rdT B e.add) ((mchange_sl h g A c m hg hn e he B E b d).via (H2 := [mfB g D.d A c m, rowTb A m.v.tbs.length c m.v.tbs, rd E e.drop.length 1 (ints e.drop), laidC, D.B, D.M, D.F] ++ [rdT B e.add]) fun w hs => (Sat.start hs).pick [0, 1, 7, 2, 3, 4, 5, 6] (by rfl)) (fun r _ C hC => by
    unfold chgC at hC
    simp only [List.mem_cons, List.not_mem_nil, or_false] at hC
    rcases hC with rfl | rfl | rfl | rfl | rfl <;> rfl) rfl rfl (fun w hw => by
      have h1 : Reads w w.heap.size 4 B (e.add.length + 1) (tbs (e.add ++ [t])) := Own.reads hw
      have h2 := h1.take (Nat.le_succ e.add.length)
      have h3 : (tbs (e.add ++ [t])).take (e.add.length * 4) = tbs e.add := by rw [tbs_take, List.take_left]
      rw [h3] at h2
      exact h2) (fun _ hk => hk.2)
set_option maxHeartbeats 4000000 in
theorem own_sl (W : World) (e : EdP) (B : Option Addr) (b : Nat) (E : Option Addr) (d : Nat) (he : EdAt W e B b E d) : Fn Tryz.prog 4 #[.agg (e.val B b E d).toArray] [rdT B e.add, rd E e.drop.length 1 (ints e.drop), laidC] Unit (fun _ => .bool true) (fun _ => []) (fun _ => True) := by
  have hin := cut_in he
  refine Fn.enter Tryz.func4 rfl Tryz.ntmps4 (by rfl) ?_
  intro w0
  refine Cd.seq ?_
  refine Cd.region ?_
  refine Ls.does (some 1) (Does.box rfl (by rfl)) (by rfl) (by rfl) ?_
  intro g1 _
  refine Ls.qA 2 ?_
  refine Ls.nil ?_
  refine Cd.seq ?_
  refine Cd.region ?_
  refine Ls.does (some 14) (Does.call [0, 1, 2, 3] rfl Tryz.func12 (by kernel_rfl) (by kernel_rfl) (new_sl) (by rfl) (by rfl) (by rfl)) (by rfl) (by rfl) ?_
  rintro D hD
  refine Ls.qA 3 ?_
  refine Ls.nil ?_
  refine Cd.seq ?_
  refine Cd.seq ?_
  refine Cd.region ?_
  refine Ls.does (some 15) (Does.read rfl Tryz.func7 (by kernel_rfl) (by kernel_rfl) (awake_sl) (by rfl) (by rfl) ⟨laidIn 6 (by rfl), trivial⟩) (by rfl) (by rfl) ?_
  rintro _ -
  refine Ls.qE 16 (Ev.not rfl (by rfl)) ?_
  refine Ls.qM 17 ?_
  refine Ent.known 17 false (by rfl) (by exact (rfl)) ?_
  refine Ls.qM 18 ?_
  refine Ls.qE 19 (Ev.ptrNil rfl (by rfl) (by rfl) Tryz.underlying37) ?_
  refine Ls.qN 20 ?_
  refine Ls.nil ?_
  skip
  refine Cd.cond_false (by rfl) (rfl) ?_
  refine Cd.skip ?_
  refine Cd.seq ?_
  refine Cd.region ?_
  refine Ls.qM 21 ?_
  have hop := mopen_sl hD
  rw [open_new] at hop
  refine Ls.does (some 22) (Does.readN rfl Tryz.func13 (by kernel_rfl) (by kernel_rfl) (hop) (by rfl) (by rfl) ⟨blkIn 0 (by rfl), mapIn 1 (by rfl), filIn 2 (by rfl), laidIn 6 (by rfl), trivial⟩ (fun _ => by rfl)) (by rfl) (by rfl) ?_
  rintro ⟨g, ⟨A, c⟩⟩ -
  dsimp only
  refine Ls.qA 4 ?_
  refine Ls.nil ?_
  refine Cd.seq ?_
  refine Cd.seq ?_
  refine Cd.region ?_
  refine Ls.qM 23 ?_
  refine Ls.qE 24 (Ev.ptrNil rfl (by rfl) (by rfl) Tryz.underlying39) ?_
  refine Ls.nil ?_
  refine Cd.cond_false (by rfl) (rfl) ?_
  refine Cd.skip ?_
  refine Cd.seq ?_
  refine Cd.region ?_
  refine Ls.qE 25 (Ev.loads 5 rfl (by rfl) (by rfl) (n := 5) (by kernel_rfl) (by rfl) (by rfl)) ?_
  refine Ls.does (some 26) (Does.readN rfl Tryz.func8 (by kernel_rfl) (by kernel_rfl) (cutlaw_sl e B E b d he.al he.dl) (by rfl) (by rfl) ⟨ReadsIn.rd 6 (by rfl), ReadsIn.rd 7 (by rfl), trivial⟩ (fun _ => by rfl)) (by rfl) (by rfl) ?_
  rintro ⟨⟨cA, cc⟩, ⟨dA, dc⟩⟩ -
  dsimp only
  refine Ent.fact 0 (by rfl) (p := (cutE e).add.length ≤ cc ∧ cc ≤ maxLen) (fun w hw => ⟨Own.le hw, Own.capLe hw⟩) (fun hca => ?_)
  refine Ent.fact 1 (by rfl) (p := (cutE e).drop.length ≤ dc ∧ dc ≤ maxLen) (fun w hw => ⟨Own.le hw, Own.capLe hw⟩) (fun hda => ?_)
  have hl60 : (cutE e).add.length ≤ 60 := by
    show (e.add.take 60).length ≤ _
    rw [List.length_take]
    omega
  generalize cutE e = x at hin hca hda hl60 ⊢
  refine Ls.qD (Does.store 7 rfl (by rfl) (by rfl) (by rfl) (by kernel_rfl) (by rfl) (by kernel_rfl) (by rfl)) ?_
  intro _ _
  refine Ls.nil ?_
  refine Cd.seq ?_
  refine Ent.pick [7, 0, 1, 2, 3, 4, 5, 6, 10] (by rfl) ?_
  refine Ent.restate ([blk g1 27 (x.val cA cc dA dc), rowTb cA x.add.length cc x.add, rowI dA x.drop.length dc x.drop, mfB g D.d A c ⟨firstV, 1, false, false⟩, rowTb A firstV.tbs.length c firstV.tbs, D.B, D.M, D.F, laidC]) rfl ?_
  refine Cd.region ?_
  refine Ls.does (some 27) (Does.lit0 (sz := 4) rfl Tryz.underlying22 (by kernel_rfl)) (by rfl) (by rfl) ?_
  intro g2 _
  refine Ls.qF 28 0 ?_
  refine Ls.qL 29 1 ?_
  refine Ls.does (some 30) (Does.app (xs := []) (news := tbs x.add) 0 rfl (by rfl) (by rfl) (by rfl) (ReadsIn.row 2 (by rfl)) elem_tb (one_tb _) (show (0 + x.add.length) * 48 ≤ 140737488355328 by omega)) (by rfl) (by rfl) ?_
  rintro ⟨qA, qc⟩ -
  have hq : row qA (0 + x.add.length) qc 42 4 ([] ++ tbs x.add) = rowTb qA x.add.length qc x.add := by rw [List.nil_append, Nat.zero_add]
  refine Ls.qE 31 (Ev.buildP (pl := [(0, 1), (1, 1), (2, 1), (3, 1)]) (zs := [.int .i64 0, .int .i64 0, .string ⟨#[]⟩, .string ⟨#[]⟩]) rfl (by rfl) (by kernel_rfl) (by rfl)) ?_
  refine Ls.does (some 32) (Does.lit (sz := 4) rfl (by rfl) Tryz.underlying22 (by kernel_rfl) (by rfl) (by kernel_rfl)) (by rfl) (by rfl) ?_
  intro g3 _
  refine Ls.does (some 33) (Does.app (xs := [] ++ tbs x.add) (news := tbs [t77]) 1 rfl (by rfl) (by rfl) (by rfl) (ReadsIn.row 0 (by rfl)) elem_tb (one_tb _) (show (0 + x.add.length + 1) * 48 ≤ 140737488355328 by omega)) (by rfl) (by rfl) ?_
  rintro ⟨rA, rc⟩ -
  refine Ls.qA 5 ?_
  refine Ls.nil ?_
  refine Cd.seq ?_
  rw [Nat.zero_add x.add.length]
  refine Ent.pick [1, 2, 3, 4, 5, 6, 7, 8, 9, 10] (by rfl) ?_
  have hr : row rA (x.add.length + 1) rc 42 4 ([] ++ tbs x.add ++ tbs [t77]) = rowTb rA (x.add.length + 1) rc (x.add ++ [t77]) := by rw [List.nil_append, ← tbs_append]
  refine Ent.restate ([rowTb rA (x.add.length + 1) rc (x.add ++ [t77]), blk g1 27 (x.val cA cc dA dc), rowTb cA x.add.length cc x.add, rowI dA x.drop.length dc x.drop, mfB g D.d A c ⟨firstV, 1, false, false⟩, rowTb A firstV.tbs.length c firstV.tbs, D.B, D.M, D.F, laidC]) (by rw [← hr]; rfl) ?_
  refine Ent.fact 0 (by rfl) (p := x.add.length + 1 ≤ rc ∧ rc ≤ maxLen) (fun w hw => ⟨Own.le hw, Own.capLe hw⟩) (fun hra => ?_)
  refine Cd.region ?_
  refine Ls.qE 34 (Ev.loads 1 rfl (by rfl) (by rfl) (n := 5) (by kernel_rfl) (by rfl) (by rfl)) ?_
  refine Ls.does (some 6) (Does.alloc (cs := [.slice none 0 0, .slice none 0 0, .int .i64 0, .int .i64 0, .int .i64 0]) rfl (ZeroIs.mk (.agg #[.slice none 0 0, .slice none 0 0, .int .i64 0, .int .i64 0, .int .i64 0]) (by kernel_rfl) (by rfl))) (by rfl) (by rfl) ?_
  intro g4 _
  refine Ls.qD (Does.store 0 rfl (by rfl) (by rfl) (by rfl) (by kernel_rfl) (by rfl) (by kernel_rfl) (by rfl)) ?_
  intro _ _
  refine Ls.nil ?_
  refine Cd.seq ?_
  refine Cd.region ?_
  refine Ls.qM 35 ?_
  refine Ls.qF 36 0 ?_
  refine Ls.qL 37 2 ?_
  refine Ls.qE 38 (Ev.len rfl (by rfl) Tryz.underlying22) ?_
  refine Ls.qE 39 (Ev.sliceHn (sz := 4) rfl (by rfl) (by rfl) Tryz.underlying22 (by kernel_rfl) (by omega)) ?_
  refine Ls.qF 40 0 ?_
  refine Ls.qD (Does.store 0 rfl (by rfl) (by rfl) (by rfl) (by kernel_rfl) (by rfl) (by kernel_rfl) (by rfl)) ?_
  intro _ _
  refine Ls.nil ?_
  refine Cd.seq ?_
  refine Cd.region ?_
  refine Ls.qM 41 ?_
  refine Ls.qE 42 (Ev.loads 0 rfl (by rfl) (by rfl) (n := 5) (by kernel_rfl) (by rfl) (by rfl)) ?_
  have c1 := lend_front hD g A c ⟨firstV, 1, false, false⟩ firstV_good (show 1 ≤ 1000000 by decide) x hin rA dA rc dc t77
  have hno := own_no (P := DrP.new) (m := ⟨firstV, 1, false, false⟩) (e := x)
  have hyes := own_yes (P := DrP.new) (m := ⟨firstV, 1, false, false⟩) (e := x)
  dsimp only at hno hyes
  generalize chgP DrP.new ⟨firstV, 1, false, false⟩ x = z at c1 hno hyes
  refine Ent.see 4 (by rfl) ?_
  dsimp only [chgC] at c1
  refine Ls.does (some 43) (Does.call [5, 6, 4, 10, 7, 8, 9, 1, 0, 2, 3, 4, 10] rfl Tryz.func14 (by kernel_rfl) (by kernel_rfl) (c1) (by rfl) (by rfl) (by rfl)) (by rfl) (by rfl) ?_
  rintro ⟨D1, ⟨A1, a1⟩⟩ ⟨hD1, hd1, hm1⟩
  dsimp only at hD1 hd1 hm1 ⊢
  refine Ls.qA 7 ?_
  refine Ls.nil ?_
  refine Cd.seq ?_
  refine Cd.seq ?_
  refine Ent.pick [5, 7, 6, 8, 9, 0, 1, 2, 3, 4, 10] (by rfl) ?_
  refine Ent.restate ([rowTb rA (x.add.length + 1) rc (x.add ++ [t77]), blk g1 27 (x.val cA cc dA dc), blk g4 27 (x.val rA rc dA dc), rowTb cA x.add.length cc x.add, rd dA x.drop.length 1 (ints x.drop), mfB g D.d A1 a1 z.2.1, rowTb A1 z.2.1.v.tbs.length a1 z.2.1.v.tbs, D1.B, D1.M, D1.F, laidC]) rfl ?_
  refine Ent.rowSome 0 (by rfl) (by omega) (fun ra hra => ?_)
  subst hra
  skip
  refine Cd.region ?_
  refine Ls.qE 44 (Ev.loads 2 rfl (by rfl) (by rfl) (n := 5) (by kernel_rfl) (by rfl) (by rfl)) ?_
  refine Ls.qE 45 (Ev.loads 1 rfl (by rfl) (by rfl) (n := 5) (by kernel_rfl) (by rfl) (by rfl)) ?_
  refine Ls.does (some 46) (Does.read rfl Tryz.func15 (by kernel_rfl) (by kernel_rfl) (sameE_sl x (some ra) dA cA dA rc dc cc dc (by omega) hin.drl) (by rfl) (by rfl) ⟨(front_row 0 (by rfl)), ReadsIn.rd 4 (by rfl), ReadsIn.row 3 (by rfl), ReadsIn.rd 4 (by rfl), trivial⟩) (by rfl) (by rfl) ?_
  rintro _ -
  refine Ls.qE 47 (Ev.not rfl (by rfl)) ?_
  refine Ls.qM 48 ?_
  refine Ent.known 48 false (by rfl) (by exact (rfl)) ?_
  refine Ls.qM 49 ?_
  refine Ls.qF 50 0 ?_
  refine Ls.qL 51 1 ?_
  refine Ls.qE 52 (Ev.len rfl (by rfl) Tryz.underlying22) ?_
  refine Ls.qE 53 (Ev.indexAt (k := x.add.length) (sz := 4) rfl (by rfl) (by rfl) Tryz.underlying22 (by kernel_rfl) (by omega)) ?_
  refine Ls.qE 54 (Ev.fieldAddrE0 (k := 0) (b := x.add.length) (sz := 4) rfl (by rfl) (by kernel_rfl)) ?_
  refine Ls.qE 55 (Ev.loadElF (l := x.add ++ [t77]) (enc := TbP.enc) (a := t77) (k := x.add.length) (sz := 4) (j := 0) rfl (by rfl) (ReadsIn.row 0 (by rfl)) (by kernel_rfl) (fun _ => rfl) (by simp) (by rfl)) ?_
  refine Ls.qE 56 (Ev.neq rfl (by rfl) (by rfl)) ?_
  refine Ls.qN 57 ?_
  refine Ls.nil ?_
  refine Cd.cond_false (by rfl) (rfl) ?_
  refine Cd.skip ?_
  refine Cd.seq ?_
  refine Ent.pick [0, 1, 3, 4, 5, 6, 7, 8, 9, 10] (by rfl) ?_
  refine Ent.map (fun w hs => hs.rdNilT) ?_
  refine Cd.draw [7] (by kernel_rfl) ?_
  refine Rg.qE 1 60 (by rfl) (Ev.loads 2 rfl (by rfl) (by rfl) (n := 5) (by kernel_rfl) (by rfl) (by rfl)) ?_
  skip
  refine Rg.float1 6 (ι := Nat) (some 8) (fun g => .pointer (some ⟨g, 0, none⟩)) (fun g => blk g 24 [.slice none 0 0, .int .i64 0, .int .i64 0, .int .i64 0]) ?_
  skip
  skip
  refine RgF.does 0 (by rfl) (by rfl) (.inr (by kernel_rfl)) (by kernel_rfl) (Does.alloc (cs := [.slice none 0 0, .int .i64 0, .int .i64 0, .int .i64 0]) rfl (ZeroIs.mk (.agg #[.slice none 0 0, .int .i64 0, .int .i64 0, .int .i64 0]) (by kernel_rfl) (by rfl))) (by rfl) (some 8) (by rfl) (fun _ => by repeat (first | exact trivial | refine ⟨by rfl, ?_⟩ | refine ⟨by simp only [List.length_append, List.length_cons, List.length_nil]; rfl, ?_⟩ | refine ⟨by push_cast; rfl, ?_⟩)) (by exact fun _ _ h => h.last) (by exact fun _ _ h => h.pick [0, 1, 2, 3, 4, 5, 6, 7, 8, 9, 10] (by rfl)) (Does.read rfl Tryz.func16 (by kernel_rfl) (by kernel_rfl) (first_sl) (by rfl) (by rfl) trivial) (by rfl) (some 59) (by rfl) (by exact fun _ _ h => h.pick [0, 1, 2, 3, 4, 5, 6, 7, 8, 9, 10] (by rfl)) (fun _ => Does.read rfl Tryz.func16 (by kernel_rfl) (by kernel_rfl) (first_sl) (by rfl) (by rfl) trivial) (fun _ => by rfl) (by exact fun _ _ _ h => h.pick [0, 1, 2, 3, 4, 5, 6, 7, 8, 9, 10] (by rfl)) ?_
  rintro _ -
  skip
  by_cases hfit : FitOk firstV x
  · skip
    skip
    refine RgF.does 2 (by rfl) (by rfl) (.inr (by kernel_rfl)) (by kernel_rfl) (Does.alloc (cs := [.slice none 0 0, .int .i64 0, .int .i64 0, .int .i64 0]) rfl (ZeroIs.mk (.agg #[.slice none 0 0, .int .i64 0, .int .i64 0, .int .i64 0]) (by kernel_rfl) (by rfl))) (by rfl) (some 8) (by rfl) (fun _ => by repeat (first | exact trivial | refine ⟨by rfl, ?_⟩ | refine ⟨by simp only [List.length_append, List.length_cons, List.length_nil]; rfl, ?_⟩ | refine ⟨by push_cast; rfl, ?_⟩)) (by exact fun _ _ h => h.last) (by exact fun _ _ h => h.pick [0, 1, 2, 3, 4, 5, 6, 7, 8, 9, 10] (by rfl)) (Does.readN rfl Tryz.func10 (by kernel_rfl) (by kernel_rfl) (rfit_yes hfit none cA dA 0 cc dc hin.add hin.drl hin.fine hin.ints) (by rfl) (by rfl) ⟨ReadsIn.rd 0 (by rfl), ReadsIn.row 3 (by rfl), ReadsIn.rd 4 (by rfl), trivial⟩ (fun _ => by rfl)) (by rfl) (some 61) (by rfl) (by exact fun _ _ h => h.pick [1, 2, 3, 4, 5, 6, 7, 8, 9, 10, 11] (by rfl)) (fun _ => Does.readN rfl Tryz.func10 (by kernel_rfl) (by kernel_rfl) (rfit_yes hfit none cA dA 0 cc dc hin.add hin.drl hin.fine hin.ints) (by rfl) (by rfl) ⟨ReadsIn.rd 0 (by rfl), ReadsIn.row 3 (by rfl), ReadsIn.rd 4 (by rfl), trivial⟩ (fun _ => by rfl)) (fun _ => by rfl) (by exact fun _ _ _ h => h.pick [1, 2, 3, 4, 5, 6, 7, 8, 9, 10, 11] (by rfl)) ?_
    rintro ⟨wA, wc⟩ -
    refine RgF.ev 3 (by rfl) (by exact fun _ h => h.pick [1, 2, 3, 4, 5, 6, 7, 8, 9, 10, 11] (by rfl)) (by exact fun _ _ h => h.pick [1, 2, 3, 4, 5, 6, 7, 8, 9, 10, 11] (by rfl)) (Ev.move rfl (by rfl)) (fun _ => Ev.move rfl (by rfl)) (by rfl) (fun _ => by rfl) (some 58) (by rfl) (by kernel_rfl) (by kernel_rfl) (by kernel_rfl) (by kernel_rfl) ?_
    refine RgF.ev 4 (by rfl) (by exact fun _ h => h.pick [1, 2, 3, 4, 5, 6, 7, 8, 9, 10, 11] (by rfl)) (by exact fun _ _ h => h.pick [1, 2, 3, 4, 5, 6, 7, 8, 9, 10, 11] (by rfl)) (Ev.extract rfl (by rfl) (by rfl)) (fun _ => Ev.extract rfl (by rfl) (by rfl)) (by rfl) (fun _ => by rfl) (some 62) (by rfl) (by kernel_rfl) (by kernel_rfl) (by kernel_rfl) (by kernel_rfl) ?_
    refine RgF.pv 5 (by rfl) (by exact fun _ h => h.pick [1, 2, 3, 4, 5, 6, 7, 8, 9, 10, 11] (by rfl)) (by exact fun _ _ h => h.pick [1, 2, 3, 4, 5, 6, 7, 8, 9, 10, 11] (by rfl)) (fun _ => Ev.extract rfl (by rfl) (by rfl)) (fun _ _ => Ev.extract rfl (by rfl) (by rfl)) (by rfl) (fun _ => by rfl) (some 63) (by rfl) (by kernel_rfl) (by kernel_rfl) (by kernel_rfl) (by kernel_rfl) ?_
    refine RgF.land (by rfl) (by kernel_rfl) (Does.alloc (cs := [.slice none 0 0, .int .i64 0, .int .i64 0, .int .i64 0]) rfl (ZeroIs.mk (.agg #[.slice none 0 0, .int .i64 0, .int .i64 0, .int .i64 0]) (by kernel_rfl) (by rfl))) (by rfl) (some 8) (by rfl) (fun _ => by repeat (first | exact trivial | refine ⟨by rfl, ?_⟩ | refine ⟨by simp only [List.length_append, List.length_cons, List.length_nil]; rfl, ?_⟩ | refine ⟨by push_cast; rfl, ?_⟩)) (by exact fun _ _ h => h.last) (by exact fun _ _ h => h.pick [1, 2, 3, 4, 5, 6, 7, 8, 9, 10, 11] (by rfl)) ?_
    intro g5
    skip
    refine Rg.one 7 (by kernel_rfl) ?_; refine RgO.tail 7 (by rfl) (Does.store 12 rfl (by rfl) (by rfl) (by rfl) (by kernel_rfl) (by rfl) (by kernel_rfl) (by rfl)) (by rfl) none (by rfl) (by kernel_rfl) (by kernel_rfl) ?_
    intro _ _
    skip
    refine Rg.ev 8 (by rfl) (fun _ h => h.pick [] (by rfl)) (Ev.assign rfl (by rfl)) (by rfl) (some 9) (by rfl) (by kernel_rfl) (by kernel_rfl) (by kernel_rfl) (by kernel_rfl) ?_
    refine Rg.done (by kernel_rfl) ?_ _
    refine Cd.seq ?_
    refine Cd.seq ?_
    refine Ent.pick [2, 6, 7, 0, 12] (by rfl) ?_
    refine Cd.region ?_
    refine Ls.qM 64 ?_
    refine Ls.qE 65 (Ev.len rfl (by rfl) Tryz.underlying22) ?_
    refine Ls.qM 66 ?_
    refine Ls.nil ?_
    refine Cd.block ?_
    refine Cd.loop (ι := Nat × List TbP) (fun q => [(4, ptrV g), (5, .slice (some ra) (x.add.length + 1) rc), (7, .int .i64 z.2.2), (8, .pointer (some ⟨g5, 0, none⟩)), (9, .bool true), (65, .int .i64 (x.add.length + 1 : Nat)), (66, .int .i64 q.1)]) (fun q => [rowTb (some ra) (x.add.length + 1) rc q.2, mfB g D.d A1 a1 z.2.1, rowTb A1 z.2.1.v.tbs.length a1 z.2.1.v.tbs, rowTb wA (outP firstV x).tbs.length wc (outP firstV x).tbs, blk g5 24 ((outP firstV x).val wA wc)]) (fun q => q.1 ≤ x.add.length + 1 ∧ q.2.length = x.add.length + 1) (fun q => x.add.length + 1 - q.1) ((0, x.add ++ [t77])) (⟨Nat.zero_le _, by rw [List.length_append]; rfl⟩) ?_ rfl ?_
    · (repeat (first | exact trivial | refine ⟨by rfl, ?_⟩))
    rintro ⟨k, l⟩ ⟨hk, hll⟩
    dsimp only at hk hll ⊢
    refine Cd.seq ?_
    refine Cd.region ?_
    refine Ls.qE 67 (Ev.lss rfl (by rfl) (by rfl)) ?_
    refine Ls.nil ?_
    refine Cd.seq ?_
    refine Cd.cond _ (by rfl) (fun h2 => ?_) (fun h2 => ?_)
    · skip
      have hlt : k < x.add.length + 1 := by have := of_decide_eq_true h2; omega
      refine Cd.skip ?_
      refine Cd.seq ?_
      refine Cd.block ?_
      refine Cd.seq ?_
      refine Cd.region ?_
      refine Ls.qM 68 ?_
      refine Ls.qA 10 ?_
      refine Ls.nil ?_
      refine Cd.region ?_
      refine Ls.qM 69 ?_
      refine Ls.qM 70 ?_
      refine Ls.qE 71 (Ev.buildP (pl := [(0, 1), (1, 1), (2, 1), (3, 1)]) (zs := [.int .i64 0, .int .i64 0, .string ⟨#[]⟩, .string ⟨#[]⟩]) (show Oper.op _ = Op.build 42 #[(0, Operand.const (Value.int IntKind.i64 (-1)))] from rfl) (by rfl) (by kernel_rfl) (by rfl)) ?_
      refine Ls.qE 72 (Ev.indexAt (sz := 4) rfl (by rfl) (by rfl) Tryz.underlying22 (by kernel_rfl) (by omega)) ?_
      refine Ls.qD (Does.storeTb (k := k) (v := ⟨-1, 0, [], []⟩) 0 rfl (by rfl) (by rfl) (by rfl) rfl (by kernel_rfl) (by omega) hll) ?_
      rintro _ -
      refine Ls.nil ?_
      refine Cd.region ?_
      refine Ls.qE 73 (Ev.addN (b := 1) rfl (by rfl) (by rfl) (by omega)) ?_
      refine Ls.qM 66 ?_
      refine Ls.nil ?_
      refine Ent.inv ((k + 1, l.set k ⟨-1, 0, [], []⟩)) ?_ ?_ ?_
      · (try dsimp only); exact ⟨⟨hlt, by rw [List.length_set]; exact hll⟩, by omega⟩
      · (repeat (first | exact trivial | refine ⟨by rfl, ?_⟩ | refine ⟨by simp only [List.length_append, List.length_cons, List.length_nil]; rfl, ?_⟩ | refine ⟨by push_cast; rfl, ?_⟩))
      · rfl
    · skip
      refine Cd.exit ?_
      refine Cd.seq ?_
      refine Cd.seq ?_
      refine Cd.region ?_
      refine Ls.qM 74 ?_
      refine Ls.qE 75 (Ev.not rfl (by rfl)) ?_
      refine Ls.nil ?_
      refine Cd.cond_false (by rfl) (rfl) ?_
      refine Cd.skip ?_
      refine Cd.seq ?_
      refine Cd.region ?_
      refine Ls.qM 78 ?_
      have hok := hyes hfit firstV_good
      have hfew := good_few hok.1
      refine Ls.does (some 79) (Does.readN rfl Tryz.func17 (by kernel_rfl) (by kernel_rfl) (mversion_sl g D.d A1 a1 z.2.1 (by omega)) (by rfl) (by rfl) ⟨blkIn 1 (by rfl), ReadsIn.row 2 (by rfl), trivial⟩ (fun _ => by rfl)) (by rfl) (by rfl) ?_
      rintro ⟨vA, vc⟩ -
      refine Ls.does (some 11) (Does.alloc (cs := [.slice none 0 0, .int .i64 0, .int .i64 0, .int .i64 0]) rfl (ZeroIs.mk (.agg #[.slice none 0 0, .int .i64 0, .int .i64 0, .int .i64 0]) (by kernel_rfl) (by rfl))) (by rfl) (by rfl) ?_
      intro g6 _
      refine Ls.qD (Does.store 0 rfl (by rfl) (by rfl) (by rfl) (by kernel_rfl) (by rfl) (by kernel_rfl) (by rfl)) ?_
      intro _ _
      refine Ls.nil ?_
      refine Cd.seq ?_
      refine Cd.seq ?_
      refine Ent.pick [0, 1, 3, 4, 5, 6] (by rfl) ?_
      refine Cd.region ?_
      refine Ls.qF 80 0 ?_
      refine Ls.qL 81 0 ?_
      refine Ls.qE 82 (Ev.len rfl (by rfl) Tryz.underlying22) ?_
      refine Ls.qM 83 ?_
      refine Ls.nil ?_
      refine Cd.block ?_
      refine Cd.loop (ι := Nat × List TbP) (fun q => [(4, ptrV g), (7, .int .i64 z.2.2), (8, .pointer (some ⟨g5, 0, none⟩)), (11, .pointer (some ⟨g6, 0, none⟩)), (82, .int .i64 z.2.1.v.tbs.length), (83, .int .i64 q.1)]) (fun q => [blk g6 24 (z.2.1.v.val vA vc), rowTb vA z.2.1.v.tbs.length vc q.2, mfB g D.d A1 a1 z.2.1, rowTb A1 z.2.1.v.tbs.length a1 z.2.1.v.tbs, rowTb wA (outP firstV x).tbs.length wc (outP firstV x).tbs, blk g5 24 ((outP firstV x).val wA wc)]) (fun q => q.1 ≤ z.2.1.v.tbs.length ∧ q.2.length = z.2.1.v.tbs.length) (fun q => z.2.1.v.tbs.length - q.1) ((0, z.2.1.v.tbs)) (⟨Nat.zero_le _, rfl⟩) ?_ rfl ?_
      · (repeat (first | exact trivial | refine ⟨by rfl, ?_⟩))
      rintro ⟨k, l⟩ ⟨hk, hll⟩
      dsimp only at hk hll ⊢
      refine Cd.seq ?_
      refine Cd.region ?_
      refine Ls.qE 84 (Ev.lss rfl (by rfl) (by rfl)) ?_
      refine Ls.nil ?_
      refine Cd.seq ?_
      refine Cd.cond _ (by rfl) (fun h3 => ?_) (fun h3 => ?_)
      · skip
        have hlt : k < z.2.1.v.tbs.length := by have := of_decide_eq_true h3; omega
        refine Ent.rowSome 1 (by rfl) (by omega) (fun va hva => ?_)
        subst hva
        refine Cd.skip ?_
        refine Cd.seq ?_
        refine Cd.block ?_
        refine Cd.seq ?_
        refine Cd.region ?_
        refine Ls.qM 85 ?_
        refine Ls.qA 12 ?_
        refine Ls.nil ?_
        refine Cd.region ?_
        refine Ls.qF 86 0 ?_
        refine Ls.qL 87 0 ?_
        refine Ls.qM 88 ?_
        refine Ls.qE 89 (Ev.buildP (pl := [(0, 1), (1, 1), (2, 1), (3, 1)]) (zs := [.int .i64 0, .int .i64 0, .string ⟨#[]⟩, .string ⟨#[]⟩]) rfl (by rfl) (by kernel_rfl) (by rfl)) ?_
        refine Ls.qE 90 (Ev.indexAt (sz := 4) rfl (by rfl) (by rfl) Tryz.underlying22 (by kernel_rfl) (by omega)) ?_
        refine Ls.qD (Does.storeTb (k := k) (v := ⟨0, 0, [], []⟩) 1 rfl (by rfl) (by rfl) (by rfl) rfl (by kernel_rfl) (by omega) hll) ?_
        rintro _ -
        refine Ls.nil ?_
        refine Cd.region ?_
        refine Ls.qE 91 (Ev.addN (b := 1) rfl (by rfl) (by rfl) (by omega)) ?_
        refine Ls.qM 83 ?_
        refine Ls.nil ?_
        refine Ent.inv ((k + 1, l.set k ⟨0, 0, [], []⟩)) ?_ ?_ ?_
        · (try dsimp only); exact ⟨⟨hlt, by rw [List.length_set]; exact hll⟩, by omega⟩
        · (repeat (first | exact trivial | refine ⟨by rfl, ?_⟩ | refine ⟨by simp only [List.length_append, List.length_cons, List.length_nil]; rfl, ?_⟩ | refine ⟨by push_cast; rfl, ?_⟩))
        · rfl
      · skip
        refine Cd.exit ?_
        refine Cd.seq ?_
        refine Cd.seq ?_
        refine Cd.region ?_
        refine Ls.qA 13 ?_
        refine Ls.nil ?_
        refine Cd.block ?_
        refine Ent.fact 1 (by rfl) (p := z.2.1.v.tbs.length ≤ vc) (fun w hw => Own.le hw) (fun hvc => ?_)
        refine Cd.loop (ι := Nat × (List TbP × (Option Addr × Nat))) (fun q => [(4, ptrV g), (7, .int .i64 z.2.2), (8, .pointer (some ⟨g5, 0, none⟩)), (11, .pointer (some ⟨g6, 0, none⟩)), (13, .int .i64 q.1)]) (fun q => [blk g6 24 [.slice q.2.2.1 (z.2.1.v.tbs.length + q.1) q.2.2.2, .int .i64 z.2.1.v.nx, .int .i64 z.2.1.v.lg, .int .i64 z.2.1.v.sq], rowTb q.2.2.1 (z.2.1.v.tbs.length + q.1) q.2.2.2 q.2.1, mfB g D.d A1 a1 z.2.1, rowTb A1 z.2.1.v.tbs.length a1 z.2.1.v.tbs, rowTb wA (outP firstV x).tbs.length wc (outP firstV x).tbs, blk g5 24 ((outP firstV x).val wA wc)]) (fun q => q.1 ≤ 20) (fun q => 20 - q.1) ((0, (l, (vA, vc)))) (Nat.zero_le _) ?_ rfl ?_
        · (repeat (first | exact trivial | refine ⟨by rfl, ?_⟩))
        rintro ⟨i, l2, uA, uc⟩ hi
        dsimp only at hi ⊢
        refine Cd.seq ?_
        refine Cd.seq ?_
        refine Cd.region ?_
        refine Ls.qM 92 ?_
        refine Ls.qE 93 (Ev.lss rfl (by rfl) (by rfl)) ?_
        refine Ls.nil ?_
        refine Cd.cond _ (by rfl) (fun h4 => ?_) (fun h4 => ?_)
        · skip
          have hlt : i < 20 := by have := of_decide_eq_true h4; omega
          refine Cd.skip ?_
          refine Cd.seq ?_
          refine Cd.block ?_
          refine Cd.region ?_
          refine Ls.qF 96 0 ?_
          refine Ls.qL 97 0 ?_
          refine Ls.qE 98 (Ev.buildP (pl := [(0, 1), (1, 1), (2, 1), (3, 1)]) (zs := [.int .i64 0, .int .i64 0, .string ⟨#[]⟩, .string ⟨#[]⟩]) rfl (by rfl) (by kernel_rfl) (by rfl)) ?_
          refine Ls.does (some 99) (Does.lit (sz := 4) rfl (by rfl) Tryz.underlying22 (by kernel_rfl) (by rfl) (by kernel_rfl)) (by rfl) (by rfl) ?_
          intro g7 _
          refine Ls.does (some 100) (Does.app (xs := tbs l2) (news := tbs [⟨5, 0, [], []⟩]) 2 rfl (by rfl) (by rfl) (by rfl) (ReadsIn.row 0 (by rfl)) elem_tb (one_tb _) (show (z.2.1.v.tbs.length + i + 1) * 48 ≤ 140737488355328 by omega)) (by rfl) (by rfl) ?_
          rintro ⟨nA, nc⟩ -
          have hr5 : row nA (z.2.1.v.tbs.length + i + 1) nc 42 4 (tbs l2 ++ tbs [⟨5, 0, [], []⟩]) = rowTb nA (z.2.1.v.tbs.length + (i + 1)) nc (l2 ++ [⟨5, 0, [], []⟩]) := by rw [← tbs_append]; rfl
          refine Ls.qF 101 0 ?_
          refine Ls.qD (Does.store 1 rfl (by rfl) (by rfl) (by rfl) (by kernel_rfl) (by rfl) (by kernel_rfl) (by rfl)) ?_
          intro _ _
          refine Ls.nil ?_
          refine Ent.pick [1, 2, 3, 4, 5, 6] (by rfl) ?_
          refine Ent.restate ([blk g6 24 [.slice nA (z.2.1.v.tbs.length + (i + 1)) nc, .int .i64 z.2.1.v.nx, .int .i64 z.2.1.v.lg, .int .i64 z.2.1.v.sq], rowTb nA (z.2.1.v.tbs.length + (i + 1)) nc (l2 ++ [⟨5, 0, [], []⟩]), mfB g D.d A1 a1 z.2.1, rowTb A1 z.2.1.v.tbs.length a1 z.2.1.v.tbs, rowTb wA (outP firstV x).tbs.length wc (outP firstV x).tbs, blk g5 24 ((outP firstV x).val wA wc)]) (by rw [← hr5]; rfl) ?_
          refine Cd.region ?_
          refine Ls.qM 94 ?_
          refine Ls.qE 95 (Ev.addN (b := 1) rfl (by rfl) (by rfl) (by omega)) ?_
          refine Ls.qA 13 ?_
          refine Ls.nil ?_
          refine Ent.inv ((i + 1, (l2 ++ [⟨5, 0, [], []⟩], (nA, nc)))) ?_ ?_ ?_
          · (try dsimp only); exact ⟨hlt, by omega⟩
          · (repeat (first | exact trivial | refine ⟨by rfl, ?_⟩ | refine ⟨by simp only [List.length_append, List.length_cons, List.length_nil]; rfl, ?_⟩ | refine ⟨by push_cast; rfl, ?_⟩))
          · rfl
        · skip
          refine Cd.exit ?_
          refine Cd.seq ?_
          refine Cd.draw [] (by kernel_rfl) ?_
          refine Rg.qE 0 102 (by rfl) (Ev.move rfl (by rfl)) ?_
          refine Rg.qE 1 103 (by rfl) (Ev.neq rfl (by rfl) (by rfl)) ?_
          refine Rg.qE 2 104 (by rfl) (Ev.move rfl (by rfl)) ?_
          by_cases hk0 : z.2.2 = 0
          · skip
            have hv := hok.2 hk0
            rw [← hv]
            refine Ent.known 104 false (by rfl) (by exact (decide_eq_false (fun h => h hk0))) ?_
            refine Rg.qE 3 105 (by rfl) (Ev.move rfl (by rfl)) ?_
            refine Rg.qE 5 107 (by rfl) (Ev.loads 5 rfl (by rfl) (by rfl) (n := 4) (by kernel_rfl) (by rfl) (by rfl)) ?_
            skip
            refine Rg.does 4 (by rfl) (by kernel_rfl) (Does.readN rfl Tryz.func17 (by kernel_rfl) (by kernel_rfl) (mversion_sl g D.d A1 a1 z.2.1 (by omega)) (by rfl) (by rfl) ⟨blkIn 2 (by rfl), ReadsIn.row 3 (by rfl), trivial⟩ (fun _ => by rfl)) (by rfl) (some 106) (by rfl) (fun _ _ h => h.tail_) ?_
            rintro ⟨sA, sc⟩ -
            skip
            refine Rg.does 6 (by rfl) (by kernel_rfl) (Does.read rfl Tryz.func11 (by kernel_rfl) (by kernel_rfl) (same_sl z.2.1.v sA wA sc wc (by omega)) (by rfl) (by rfl) ⟨ReadsIn.row 0 (by rfl), ReadsIn.row 5 (by rfl), trivial⟩) (by rfl) (some 108) (by rfl) (by exact fun _ _ h => h) ?_
            rintro _ -
            refine Rg.qE 7 109 (by rfl) (Ev.pickF rfl (by rfl) (by rfl)) ?_
            refine Rg.qE 8 2 (by rfl) (Ev.assign rfl (by rfl)) ?_
            refine Rg.done (by kernel_rfl) ?_ _
            refine Cd.ret ?_
            refine Ent.ret (()) (trivial) (Res.tmp (by rfl) (by rfl)) ?_ [] (by rfl) ?_
            · rfl
            · rfl
          · skip
            refine Ent.known 104 true (by rfl) (by exact (decide_eq_true hk0)) ?_
            refine Rg.qP 3 105 ?_
            refine Rg.qP 5 107 ?_
            refine Rg.qP 4 106 ?_
            refine Rg.qP 6 108 ?_
            refine Rg.qE 7 109 (by rfl) (Ev.pickT rfl (by rfl) (by rfl)) ?_
            refine Rg.qE 8 2 (by rfl) (Ev.assign rfl (by rfl)) ?_
            refine Rg.done (by kernel_rfl) ?_ _
            refine Cd.ret ?_
            refine Ent.ret (()) (trivial) (Res.tmp (by rfl) (by rfl)) ?_ [] (by rfl) ?_
            · rfl
            · rfl
  · skip
    skip
    refine RgF.does 2 (by rfl) (by rfl) (.inr (by kernel_rfl)) (by kernel_rfl) (Does.alloc (cs := [.slice none 0 0, .int .i64 0, .int .i64 0, .int .i64 0]) rfl (ZeroIs.mk (.agg #[.slice none 0 0, .int .i64 0, .int .i64 0, .int .i64 0]) (by kernel_rfl) (by rfl))) (by rfl) (some 8) (by rfl) (fun _ => by repeat (first | exact trivial | refine ⟨by rfl, ?_⟩ | refine ⟨by simp only [List.length_append, List.length_cons, List.length_nil]; rfl, ?_⟩ | refine ⟨by push_cast; rfl, ?_⟩)) (by exact fun _ _ h => h.last) (by exact fun _ _ h => h.pick [0, 1, 2, 3, 4, 5, 6, 7, 8, 9, 10] (by rfl)) (Does.readN rfl Tryz.func10 (by kernel_rfl) (by kernel_rfl) (rfit_no hfit (by decide) (fun t ht => absurd ht List.not_mem_nil) none cA dA 0 cc dc hin.add hin.drl hin.fine hin.ints) (by rfl) (by rfl) ⟨ReadsIn.rd 0 (by rfl), ReadsIn.row 3 (by rfl), ReadsIn.rd 4 (by rfl), trivial⟩ (fun _ => by rfl)) (by rfl) (some 61) (by rfl) (by exact fun _ _ h => h.pick [0, 1, 2, 3, 4, 5, 6, 7, 8, 9, 10] (by rfl)) (fun _ => Does.readN rfl Tryz.func10 (by kernel_rfl) (by kernel_rfl) (rfit_no hfit (by decide) (fun t ht => absurd ht List.not_mem_nil) none cA dA 0 cc dc hin.add hin.drl hin.fine hin.ints) (by rfl) (by rfl) ⟨ReadsIn.rd 0 (by rfl), ReadsIn.row 3 (by rfl), ReadsIn.rd 4 (by rfl), trivial⟩ (fun _ => by rfl)) (fun _ => by rfl) (by exact fun _ _ _ h => h.pick [0, 1, 2, 3, 4, 5, 6, 7, 8, 9, 10] (by rfl)) ?_
    rintro _ -
    refine RgF.ev 3 (by rfl) (by exact fun _ h => h.pick [0, 1, 2, 3, 4, 5, 6, 7, 8, 9, 10] (by rfl)) (by exact fun _ _ h => h.pick [0, 1, 2, 3, 4, 5, 6, 7, 8, 9, 10] (by rfl)) (Ev.move rfl (by rfl)) (fun _ => Ev.move rfl (by rfl)) (by rfl) (fun _ => by rfl) (some 58) (by rfl) (by kernel_rfl) (by kernel_rfl) (by kernel_rfl) (by kernel_rfl) ?_
    refine RgF.ev 4 (by rfl) (by exact fun _ h => h.pick [0, 1, 2, 3, 4, 5, 6, 7, 8, 9, 10] (by rfl)) (by exact fun _ _ h => h.pick [0, 1, 2, 3, 4, 5, 6, 7, 8, 9, 10] (by rfl)) (Ev.extract rfl (by rfl) (by rfl)) (fun _ => Ev.extract rfl (by rfl) (by rfl)) (by rfl) (fun _ => by rfl) (some 62) (by rfl) (by kernel_rfl) (by kernel_rfl) (by kernel_rfl) (by kernel_rfl) ?_
    refine RgF.pv 5 (by rfl) (by exact fun _ h => h.pick [0, 1, 2, 3, 4, 5, 6, 7, 8, 9, 10] (by rfl)) (by exact fun _ _ h => h.pick [0, 1, 2, 3, 4, 5, 6, 7, 8, 9, 10] (by rfl)) (fun _ => Ev.extract rfl (by rfl) (by rfl)) (fun _ _ => Ev.extract rfl (by rfl) (by rfl)) (by rfl) (fun _ => by rfl) (some 63) (by rfl) (by kernel_rfl) (by kernel_rfl) (by kernel_rfl) (by kernel_rfl) ?_
    refine RgF.land (by rfl) (by kernel_rfl) (Does.alloc (cs := [.slice none 0 0, .int .i64 0, .int .i64 0, .int .i64 0]) rfl (ZeroIs.mk (.agg #[.slice none 0 0, .int .i64 0, .int .i64 0, .int .i64 0]) (by kernel_rfl) (by rfl))) (by rfl) (some 8) (by rfl) (fun _ => by repeat (first | exact trivial | refine ⟨by rfl, ?_⟩ | refine ⟨by simp only [List.length_append, List.length_cons, List.length_nil]; rfl, ?_⟩ | refine ⟨by push_cast; rfl, ?_⟩)) (by exact fun _ _ h => h.last) (by exact fun _ _ h => h.pick [0, 1, 2, 3, 4, 5, 6, 7, 8, 9, 10] (by rfl)) ?_
    intro g5
    skip
    refine Rg.one 7 (by kernel_rfl) ?_; refine RgO.tail 7 (by rfl) (Does.store 11 rfl (by rfl) (by rfl) (by rfl) (by kernel_rfl) (by rfl) (by kernel_rfl) (by rfl)) (by rfl) none (by rfl) (by kernel_rfl) (by kernel_rfl) ?_
    intro _ _
    skip
    refine Rg.ev 8 (by rfl) (fun _ h => h.pick [] (by rfl)) (Ev.assign rfl (by rfl)) (by rfl) (some 9) (by rfl) (by kernel_rfl) (by kernel_rfl) (by kernel_rfl) (by kernel_rfl) ?_
    refine Rg.done (by kernel_rfl) ?_ _
    refine Cd.seq ?_
    refine Cd.seq ?_
    refine Ent.pick [1] (by rfl) ?_
    refine Cd.region ?_
    refine Ls.qM 64 ?_
    refine Ls.qE 65 (Ev.len rfl (by rfl) Tryz.underlying22) ?_
    refine Ls.qM 66 ?_
    refine Ls.nil ?_
    refine Cd.block ?_
    refine Cd.loop (ι := Nat × List TbP) (fun q => [(5, .slice (some ra) (x.add.length + 1) rc), (7, .int .i64 z.2.2), (9, .bool false), (65, .int .i64 (x.add.length + 1 : Nat)), (66, .int .i64 q.1)]) (fun q => [rowTb (some ra) (x.add.length + 1) rc q.2]) (fun q => q.1 ≤ x.add.length + 1 ∧ q.2.length = x.add.length + 1) (fun q => x.add.length + 1 - q.1) ((0, x.add ++ [t77])) (⟨Nat.zero_le _, by rw [List.length_append]; rfl⟩) ?_ rfl ?_
    · (repeat (first | exact trivial | refine ⟨by rfl, ?_⟩))
    rintro ⟨k, l⟩ ⟨hk, hll⟩
    dsimp only at hk hll ⊢
    refine Cd.seq ?_
    refine Cd.region ?_
    refine Ls.qE 67 (Ev.lss rfl (by rfl) (by rfl)) ?_
    refine Ls.nil ?_
    refine Cd.seq ?_
    refine Cd.cond _ (by rfl) (fun h2 => ?_) (fun h2 => ?_)
    · skip
      have hlt : k < x.add.length + 1 := by have := of_decide_eq_true h2; omega
      refine Cd.skip ?_
      refine Cd.seq ?_
      refine Cd.block ?_
      refine Cd.seq ?_
      refine Cd.region ?_
      refine Ls.qM 68 ?_
      refine Ls.qA 10 ?_
      refine Ls.nil ?_
      refine Cd.region ?_
      refine Ls.qM 69 ?_
      refine Ls.qM 70 ?_
      refine Ls.qE 71 (Ev.buildP (pl := [(0, 1), (1, 1), (2, 1), (3, 1)]) (zs := [.int .i64 0, .int .i64 0, .string ⟨#[]⟩, .string ⟨#[]⟩]) (show Oper.op _ = Op.build 42 #[(0, Operand.const (Value.int IntKind.i64 (-1)))] from rfl) (by rfl) (by kernel_rfl) (by rfl)) ?_
      refine Ls.qE 72 (Ev.indexAt (sz := 4) rfl (by rfl) (by rfl) Tryz.underlying22 (by kernel_rfl) (by omega)) ?_
      refine Ls.qD (Does.storeTb (k := k) (v := ⟨-1, 0, [], []⟩) 0 rfl (by rfl) (by rfl) (by rfl) rfl (by kernel_rfl) (by omega) hll) ?_
      rintro _ -
      refine Ls.nil ?_
      refine Cd.region ?_
      refine Ls.qE 73 (Ev.addN (b := 1) rfl (by rfl) (by rfl) (by omega)) ?_
      refine Ls.qM 66 ?_
      refine Ls.nil ?_
      refine Ent.inv ((k + 1, l.set k ⟨-1, 0, [], []⟩)) ?_ ?_ ?_
      · (try dsimp only); exact ⟨⟨hlt, by rw [List.length_set]; exact hll⟩, by omega⟩
      · (repeat (first | exact trivial | refine ⟨by rfl, ?_⟩ | refine ⟨by simp only [List.length_append, List.length_cons, List.length_nil]; rfl, ?_⟩ | refine ⟨by push_cast; rfl, ?_⟩))
      · rfl
    · skip
      refine Cd.exit ?_
      refine Cd.seq ?_
      refine Cd.seq ?_
      refine Cd.region ?_
      refine Ls.qM 74 ?_
      refine Ls.qE 75 (Ev.not rfl (by rfl)) ?_
      refine Ls.nil ?_
      refine Cd.cond_true (by rfl) (rfl) ?_
      refine Cd.seq ?_
      refine Cd.region ?_
      refine Ls.qM 76 ?_
      refine Ls.qE 77 (Ev.eql rfl (by rfl) (by rfl)) ?_
      refine Ls.qA 2 ?_
      refine Ls.nil ?_
      refine Cd.ret ?_
      refine Ent.ret (()) (trivial) (Res.tmp (by rfl) (by rfl)) ?_ [] (by rfl) ?_
      · exact congrArg Value.bool (decide_eq_true (hno hfit ▸ rfl))
      · rfl
end Go.Proofs.YtacbkganjkipdaaGreatDoor
/- A law over laid variables: the row's step, once for all. -/
namespace Go.Proofs.YtacbkganjkipdaaGreatDoor
open Go.ChangeShapes Go.WideShapes Go.ChangeAt Go.RowKit

/-- A law that answers true and writes nothing that was there, over laid variables: its row's step, in either form. -/
theorem lift_laid {C : Checked} {os : Os} {f : FuncId} {fn : Func} {s : ChangeSpec} {sp : OpenSpec} {H : Type} {enc : TypeId × Value → H} {conds : List PathCond} {tb : TypeId} {F : Stop.Interp} {laid : List (String × DataW Unit)} (ts : Array TypeId)
    (hbare : sp.bare.plain.varTypes C.prog = []) (hat : (sp.at F) = s)
    (own : ownKnob C.prog.godebug = none) (lo : laidOutB C.prog = true) (started : os.Started) (noInit : C.prog.inits.idxOf? f = none) (hfn : C.prog.funcs[f]? = some fn)
    (witness : ∃ (w : World) (tape : Tape) (i : Input), w.os = os ∧ (w.forCall tape i).Shaped C.prog ∧ i.vars = [] ∧ Input.okWide C.prog (w.forCall tape i) .any w.heap.size f i ∧
      sp.preRow enc C.prog fn conds false laid (w.forCall tape i).memory i.args ∧ ({} : Assume).holds C.prog (lone (Frame.enter C.prog f i.args .normal) [] (w.forCall tape i)))
    (hts : fn.params = ts) (hrow : rowed C.prog ts.toList = true) (hvars : s.vars = []) (hvars2 : sp.vars = []) (hres : fn.resultTypes = #[tb]) (hb : C.prog.underlying tb = some .bool)
    (hs : ∀ ds : List (DataW H), ds.length = ts.toList.length → s.fn H ds = { results := [.lit (.bool true)], args := ds })
    (walk : ∀ (W : World) (args : Array Value) (ds : List (DataW H)) (p : List MemPlace), laidMetH C.prog laid W → W.ShapedOpen C.prog → Vals C.prog W ts.toList args.toList →
      DataW.TrodAll enc C.prog W 0 (fun _ => true) true ts.toList args.toList ds p → (∀ k, sp.cond = some k → k H ds = true) →
      Calls C.prog f args W fun e W' => e = .returned (.bool true) ∧ Below W.heap.size W W') :
    ReturnsInHanded {} C os f .any (sp.preRow enc C.prog fn conds false laid) ((sp.at F).post enc C.prog fn false true false false) := by
  refine returnsInHanded_of_row own started noInit hfn witness ?_
  intro W base args ds gs before hval hW _ hk hsz hL hsh _
  subst hts
  rw [hvars2] at hW
  have hW' : DataW.Whole enc C.prog fn.params.toList s.vars false W args.toList ds gs before := by rw [hvars]; exact hW
  have hW2 := hW'
  obtain ⟨p, q, hA, hV, rfl, _, _⟩ := hW2
  rw [hvars] at hV
  obtain ⟨rfl, rfl⟩ := trodVars_none hV
  rw [hbare, List.append_nil, List.append_nil] at hsz
  have hv := vals_of_trodAll (fun j t v hj hj' => hval j t v (by simpa using hj) (by simpa using hj')) hA (fun n hn => by simpa using List.all_eq_true.1 hsz n hn)
  refine (walk W args ds p hL hsh hv hA (fun k h => by simpa using hk k h)).mono fun e W' ⟨he, bel⟩ => ?_
  subst he
  have hfn' : s.fn H (ds ++ []) = { results := [.lit (.bool true)], args := ds } := by
    rw [List.append_nil]
    exact hs ds (trodAll_length hA).1
  have key : s.post enc C.prog fn false true false false W args (.bool true) W' := by
    refine ⟨ds, [], p ++ [], [], p, [], hW', ?_, ?_, ?_, bel.frame _, fun h => by cases h⟩
    · rw [hfn', hres]
      exact trodAll_mk1 (shut_bool hb true)
    · rw [hfn']
      exact trodAll_below lo bel hrow hA
    · rw [hfn', hvars]
      rfl
  rw [hat]
  exact ⟨_, rfl, key⟩

/-- Pieces that are all read alone. -/
theorem sat0_ro {H : List Chunk} {w : World} (hx : ∀ D ∈ H, D.excl = false) (hh : ∀ D ∈ H, D.holds w) : Sat0 H w :=
  ⟨hh, List.pairwise_iff_getElem.2 fun i j hi hj _ he => by
    rw [hx _ (List.getElem_mem hi), hx _ (List.getElem_mem hj)] at he
    rcases he with he | he <;> cases he⟩
theorem Fn.lawR {P : Program} {f : FuncId} {args : Array Value} {W : World} {H : List Chunk} (hx : ∀ D ∈ H, D.excl = false) (hh : ∀ D ∈ H, D.holds W)
    (h : Fn P f args H Unit (fun _ => .bool true) (fun _ => []) (fun _ => True)) : Calls P f args W fun e w' => e = .returned (.bool true) ∧ Below W.heap.size W w' :=
  (h W (sat0_ro hx hh)).mono fun e w' ⟨_, _, he, hs⟩ => ⟨he, hs.upd.to_below (Nat.le_refl _) fun k _ ⟨D, hD, hd, _⟩ => by rw [hx D hD] at hd; cases hd⟩

/-- A variable that the row lists as an error holds some error. -/
theorem iface_of_head {P : Program} {W : World} {n nm : String} {d : DataW Unit} {r : List (String × DataW Unit)} {g : Nat} {ti : TypeId} {ms : Array (String × TypeId)} (h : laidMet P ((n, .iface nm d) :: r) W)
    (hg : P.globalNamed n = some g) (ht : (P.globals[g]?).map (·.type) = some ti) (hi : P.underlying ti = some (.interface ms)) : ∃ tp p, W.var? P n = some #[.iface tp p] := by
  obtain ⟨ps, ⟨g0, t0, cs0, f0, p0, q0, hg0, ht0, hv0, hd0, _, _⟩, _, _⟩ := h
  obtain rfl := Option.some.inj (hg.symm.trans hg0)
  obtain rfl := Option.some.inj (ht.symm.trans ht0)
  obtain ⟨_, u, v, e, _, _⟩ := iface_of_trod hi hd0
  obtain ⟨l0⟩ := cs0
  subst e
  exact ⟨u, v, hv0⟩

def lawsLaid : List (String × DataW Unit) := [("math/bits.deBruijn32tab", Rows.laid_math_bits_deBruijn32tab), ("math/bits.deBruijn64tab", Rows.laid_math_bits_deBruijn64tab), ("internal/strconv.uint64pow10", Rows.laid_internal_strconv_uint64pow10), ("strconv.ErrRange", Rows.laid_strconv_ErrRange), ("strconv.ErrSyntax", Rows.laid_strconv_ErrSyntax)]
theorem pow10_data : (Rows.laid_internal_strconv_uint64pow10 : DataW Unit) = Lib.tabData .u64 Lib.pow10Tab := by kernel_rfl
theorem laidH_of_row {W : World} (h : laidMetH Tryz.prog lawsLaid W) (_ : W.ShapedOpen Tryz.prog) : laidH W := by
  rw [MakeChecks.laidMetH_plain _ _ _ (by kernel_rfl)] at h
  have h2 : laidMet Tryz.prog (("internal/strconv.uint64pow10", Lib.tabData .u64 Lib.pow10Tab) :: lawsLaid.drop 3) W := by
    rw [← pow10_data]
    exact h.tail.tail
  refine ⟨?_, ?_, ?_⟩
  · exact Lib.tabIs_of_head gT (by kernel_rfl) Tryz.underlying234 Tryz.underlying150 (by kernel_rfl) (by kernel_rfl) h2
  · exact iface_of_head h.tail.tail.tail.tail gS (by kernel_rfl) Tryz.underlying138
  · exact iface_of_head h.tail.tail.tail gR (by kernel_rfl) Tryz.underlying138

/-! ### one start that fits -/
/-- The cells of a table, as the row lists it. -/
def flatD : Nat → DataW Unit → List Value
  | 0, _ => []
  | _ + 1, .lit (.int k m) => [.int k m]
  | n + 1, .agg ps => ps.flatMap (flatD n)
  | _ + 1, _ => []
noncomputable def low : Nat := (World.holding Tryz.prog default ⟨#[], #[], []⟩).heap.size
def putG_ (cs : List Value) : Obj → Obj
  | .cells _ t frozen => .cells cs.toArray t frozen
  | o => o
noncomputable def laidWorld (os : Os) : World :=
  let w0 := World.holding Tryz.prog os ⟨#[.cells #[.string (txt [118, 97, 108, 117, 101, 32, 111, 117, 116, 32, 111, 102, 32, 114, 97, 110, 103, 101])] 231, .cells #[.string (txt [105, 110, 118, 97, 108, 105, 100, 32, 115, 121, 110, 116, 97, 120])] 231], #[], []⟩
  { w0 with heap := ((((w0.heap.modify 4 (putG_ (flatD 3 Rows.laid_math_bits_deBruijn32tab))).modify 5 (putG_ (flatD 3 Rows.laid_math_bits_deBruijn64tab))).modify 2 (putG_ (flatD 3 Rows.laid_internal_strconv_uint64pow10))).modify 1 (putG_ [.iface 229 (.pointer (some ⟨low, 0, none⟩))])).modify 0 (putG_ [.iface 229 (.pointer (some ⟨low + 1, 0, none⟩))]) }
theorem laid_met (os : Os) (args : Array Value) : laidMet Tryz.prog lawsLaid ((laidWorld os).forCall (fun _ _ => 0) ⟨#[], args, []⟩).memory :=
  laidMet_of_run' 8 (by kernel_rfl) (by kernel_rfl)
theorem laid_metH (os : Os) (args : Array Value) : laidMetH Tryz.prog lawsLaid ((laidWorld os).forCall (fun _ _ => 0) ⟨#[], args, []⟩).memory := by
  rw [MakeChecks.laidMetH_plain _ _ _ (by kernel_rfl)]
  exact laid_met os args
theorem own_none : ownKnob Tryz.prog.godebug = none := by kernel_rfl
theorem laid_outB : laidOutB Tryz.prog = true := by kernel_rfl
end Go.Proofs.YtacbkganjkipdaaGreatDoor
