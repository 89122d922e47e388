/-
  Texts joined: RfH, RfK, RfL, MoI, MoJ, RfM, RfN, DvE, RfO, MpA, MpB, MnX, SlV, MoV, MoK.
-/
import Derived.Test.YtacbkganjkipdaaGreatDoorMMpL4a
import Derived.Test.YtacbkganjkipdaaGreatDoorMMpL4m
import Derived.Test.YtacbkganjkipdaaGreatDoorMMpL4n
import Derived.Test.YtacbkganjkipdaaGreatDoorMMpL4o
import Derived.Test.YtacbkganjkipdaaGreatDoorMMpL4p
namespace Go.Proofs.YtacbkganjkipdaaGreatDoor
open Go.RowKit
theorem at_hit {l : List FiP} {q : List UInt8} {r : Int} {f : FiP} (h : AtR l q r) (hf : findG FiP.nm q l = some f) : ∃ k : Nat, r = k ∧ l[k]? = some f := by
 rcases h with ⟨_, h⟩ | ⟨k, g, h1, h2, _, h4⟩
 · rw [h] at hf
   cases hf
 · rw [h4] at hf
   obtain rfl := Option.some.inj hf
   exact ⟨k, h1, h2⟩
theorem at_miss {l : List FiP} {q : List UInt8} {r : Int} (h : AtR l q r) (hf : findG FiP.nm q l = none) : r = -1 := by
 rcases h with ⟨h, _⟩ | ⟨k, g, _, _, _, h4⟩
 · exact h
 · rw [h4] at hf
   cases hf
set_option maxHeartbeats 1000000 in
theorem dappend_sl (P : DrP) (hok : P.Ok) (A : Option Addr) (c : Nat) (q l : List UInt8) (hq : q.length ≤ 1048576) (hl : l.length ≤ 1099511627776) : Fn Tryz.prog 71 #[.agg (P.val A c).toArray, .string (txt q), .string (txt l)] [rdF A P.fs] (Option Addr × Nat) (fun p => .tuple #[.agg ((P.append q l).1.val p.1 p.2).toArray, .int .i64 (P.append q l).2]) (fun p => [rdF p.1 (P.append q l).1.fs]) (fun _ => True) := by
 have hpl := hok.len
 obtain ⟨R, hR⟩ : ∃ R, R = P.append q l := ⟨_, rfl⟩
 rw [← hR]
 have hVe : P.val A c = [.slice A P.fs.length c, .int .i64 P.steps, .bool P.left.isSome, .int .i64 ((P.left.getD 0 : Nat) : Int)] := rfl
 rw [hVe]
 have hls : (txt l).size = l.length := rfl
 have hz0 : ({ data := #[] } : ByteArray).size = 0 := rfl
 refine Fn.enter Tryz.func71 rfl Tryz.ntmps71 (by rfl) ?_
 intro w0
 refine go [3,4] ?_
 refine Ls.does (some 3) (Does.box rfl (by rfl)) (by rfl) (by rfl) ?_
 intro g1 _
 refine Ls.does (some 6) (Does.alloc (cs := [.slice none 0 0, .int .i64 0, .bool false, .int .i64 0]) rfl (ZeroIs.mk (.agg #[.slice none 0 0, .int .i64 0, .bool false, .int .i64 0]) (by kernel_rfl) (by rfl))) (by rfl) (by rfl) ?_
 intro g2 _
 refine go [5,2,3,3,4,0] ?_
 refine Ls.does (some 11) (Does.read rfl Tryz.func62 (by kernel_rfl) (by kernel_rfl) (dname_sl q hq) (by rfl) (by rfl) trivial) (by rfl) (by rfl) ?_
 rintro _ -
 refine go [20,2] ?_
 by_cases hg : Good q
 rotate_left
 · have hR2 : R = (P, 20) := by rw [hR, DrP.append, if_pos hg]
   subst hR2
   rw [decide_eq_false hg]
   refine go [23,3,4,12,1,4,15,0,5,2,22] ?_
   exact Ent.rA ((A, c)) [2] trivial (Res.cell_tmp 0 (by rfl) (by rfl) (by rfl) (n := 4) (by kernel_rfl) (by rfl) (by rfl) (by rfl))
 · rw [decide_eq_true hg]
   refine go [24,6,3,4,0] ?_
   refine Ls.qE 15 (Ev.buildP (pl := [(0, 1), (1, 1), (2, 1)]) (zs := [.string ⟨#[]⟩, .string ⟨#[]⟩, .int .i64 0]) rfl (by rfl) (by kernel_rfl) (by rfl)) ?_
   refine Ls.does (some 8) (Does.alloc (cs := [.string ⟨#[]⟩, .string ⟨#[]⟩, .int .i64 0]) rfl (ZeroIs.mk (.agg #[.string ⟨#[]⟩, .string ⟨#[]⟩, .int .i64 0]) (by kernel_rfl) (by rfl))) (by rfl) (by rfl) ?_
   intro g3 _
   refine go [15,0,25,12,2,4,0] ?_
   refine Ls.does (some 18) (Does.read rfl Tryz.func63 (by kernel_rfl) (by kernel_rfl) (dat_sl P A c q (by omega)) (by rfl) (by rfl) ⟨ReadsIn.rd 3 (by rfl), trivial⟩) (by rfl) (by rfl) ?_
   rintro r hr
   refine go [5,2,3,3,4,0] ?_
   refine Ls.qE 20 (Ev.geq rfl (by rfl) (by rfl)) ?_
   refine Ls.nil ?_
   cases hfd : P.find q with
   | none =>
    obtain rfl := at_miss hr hfd
    have hbn : P.bytes q = [] := by unfold DrP.bytes; rw [hfd]
    refine Cd.cond_false (by rfl) (decide_eq_false (show ¬ ((0 : Int) ≤ -1) by decide)) ?_
    refine go [6,3,3,4,0,16,0] ?_
    refine Ent.known 28 true (by rfl) (by exact (decide_eq_true (show (-1 : Int) < 0 by decide))) ?_
    refine go [7,0,8,2] ?_
    refine Ls.qE 31 (Ev.len rfl (by rfl) Tryz.underlying53) ?_
    refine Ls.qE 32 (Ev.geq rfl (by rfl) (by rfl)) ?_
    refine go [9,0] ?_
    by_cases h1 : 256 ≤ P.fs.length
    · have hR2 : R = (P, 5) := by rw [hR, DrP.append, if_neg (fun h => h hg), if_pos (.inl ⟨hfd, h1⟩)]
      subst hR2
      refine Ent.known 34 true (by rfl) (by exact (decide_eq_true (show (256 : Int) ≤ (P.fs.length : Int) by omega))) ?_
      refine go [1,1,1,1,1,1,1,9,2,23,3,4,12,2,4,15,1,5,2,22] ?_
      exact Ent.rA ((A, c)) [3] trivial (Res.cell_tmp 1 (by rfl) (by rfl) (by rfl) (n := 4) (by kernel_rfl) (by rfl) (by rfl) (by rfl))
    · refine Ent.known 34 false (by rfl) (by exact (decide_eq_false (show ¬ ((256 : Int) ≤ (P.fs.length : Int)) by omega))) ?_
      refine go [7,1,8,0] ?_
      refine Ls.qE 37 (Ev.lenS rfl (by rfl) Tryz.underlying9) ?_
      refine Ls.qM 38 ?_
      refine Ls.qE 39 (Ev.lenS rfl (by rfl) Tryz.underlying9) ?_
      refine Ls.qE 40 (Ev.addI rfl (by rfl) (by rfl) (by omega)) ?_
      refine go [18,10,2] ?_
      by_cases h2 : 262144 < l.length
      · have hR2 : R = (P, 5) := by rw [hR, DrP.append, if_neg (fun h => h hg), if_pos (.inr (by rw [hbn]; simp; omega))]
        subst hR2
        refine Cd.cond_true (by rfl) (decide_eq_true (show (262144 : Int) < ((0 : Nat) : Int) + (l.length : Int) by omega)) ?_
        refine go [3,4,12,2,4,15,1,5,2,22] ?_
        exact Ent.rA ((A, c)) [3] trivial (Res.cell_tmp 1 (by rfl) (by rfl) (by rfl) (n := 4) (by kernel_rfl) (by rfl) (by rfl) (by rfl))
      · have hfull : ¬ ((P.find q = none ∧ 256 ≤ P.fs.length) ∨ 262144 < (P.bytes q).length + l.length) := by
         rw [hbn]
         rintro (⟨_, h⟩ | h)
         · omega
         · simp at h; omega
        refine Cd.cond_false (by rfl) (decide_eq_false (show ¬ ((262144 : Int) < ((0 : Nat) : Int) + (l.length : Int)) by omega)) ?_
        refine go [6,3,3,4,12,2,4] ?_
        refine Ls.does (some 45) (Does.read rfl Tryz.func76 (by kernel_rfl) (by kernel_rfl) (ddead_sl P A c) (by rfl) (by rfl) trivial) (by rfl) (by rfl) ?_
        rintro _ -
        refine Ls.nil ?_
        by_cases hd : P.dead
        · have hR2 : R = (P, 6) := by rw [hR, DrP.append, if_neg (fun h => h hg), if_neg hfull, if_pos hd]
          subst hR2
          rw [hd]
          refine go [23,3,4,12,2,4,15,1,5,2,22] ?_
          exact Ent.rA ((A, c)) [3] trivial (Res.cell_tmp 1 (by rfl) (by rfl) (by rfl) (n := 4) (by kernel_rfl) (by rfl) (by rfl) (by rfl))
        · have hd : P.dead = false := by simpa using hd
          have hR2 : R = (P.step.put ⟨q, ([] : List UInt8) ++ l, 0⟩, 0) := by
           rw [hR, DrP.append, if_neg (fun h => h hg), if_neg hfull, if_neg (by rw [hd]; decide), hfd]
           try rfl
          subst hR2
          rw [hd]
          refine go [24,6,3,4,7,1,8,0,0] ?_
          refine Ls.qE 50 (Ev.to (Ev.addS rfl (by rfl) (by rfl) (by rw [txt_size, txt_size]; first | omega | (simp only [List.length_nil]; omega))) (congrArg Value.string (txt_app ([] : List UInt8) l))) ?_
          refine go [7,1,15,0,2,3] ?_
          refine Cd.draw [4] (by kernel_rfl) ?_
          refine Rg.qE 0 52 (by rfl) (Ev.loads 2 rfl (by rfl) (by rfl) (n := 4) (by kernel_rfl) (by rfl) (by rfl)) ?_
          refine Rg.qE 2 54 (by rfl) (Ev.loads 0 rfl (by rfl) (by rfl) (n := 3) (by kernel_rfl) (by rfl) (by rfl)) ?_
          refine Rg.does 1 (by rfl) (by kernel_rfl) (Does.read rfl Tryz.func114 (by kernel_rfl) (by kernel_rfl) (dstep_sl P hok hd A c) (by rfl) (by rfl) trivial) (by rfl) (some 53) (by rfl) (by exact fun _ _ h => h) ?_
          rintro _ -
          refine Rg.does 3 (by rfl) (by kernel_rfl) (Does.readN rfl Tryz.func64 (by kernel_rfl) (by kernel_rfl) (dwith_sl P.step hok.rise (show P.fs.length ≤ 1000000 by omega) A c ⟨q, ([] : List UInt8) ++ l, 0⟩) (by rfl) (by rfl) ⟨ReadsIn.rd 3 (by rfl), trivial⟩ (fun _ => by rfl)) (by rfl) (some 55) (by rfl) (fun _ _ h => h.tail_) ?_
          rintro ⟨wA, wc⟩ -
          dsimp only
          refine Rg.tail 4 [] (by rfl) (by kernel_rfl) (Does.store 2 rfl (by rfl) (by rfl) (by rfl) (by kernel_rfl) (by rfl) (by kernel_rfl) (by rfl)) (by rfl) none (by rfl) (by kernel_rfl) (by kernel_rfl) ?_
          intro _ _
          refine Rg.qE 5 7 (by rfl) (Ev.assign rfl (by rfl)) ?_
          refine Rg.done (by kernel_rfl) ?_ _
          refine Ent.see 0 (by rfl) ?_
          refine Cd.ret ?_
          exact Ent.rA ((wA, wc)) [0] trivial (Res.cell_tmp 2 (by rfl) (by rfl) (by rfl) (n := 4) (by kernel_rfl) (by rfl) (by rfl) (by rfl))
   | some f =>
    obtain ⟨m, rfl, hm⟩ := at_hit hr hfd
    have hml := (List.getElem?_eq_some_iff.1 hm).1
    have hbn : P.bytes q = f.b := by unfold DrP.bytes; rw [hfd]
    have hfb := hok.size f (findG_some hfd).1
    have hfs : (txt f.b).size = f.b.length := rfl
    refine Cd.cond_true (by rfl) (decide_eq_true (show (0 : Int) ≤ (m : Int) by omega)) ?_
    refine Ent.rdSome 3 (by rfl) (by omega) (fun fd hfd2 => ?_)
    subst hfd2
    refine go [4,7,0,8,2,0] ?_
    refine Ls.qE 24 (Ev.indexAt (sz := 3) rfl (by rfl) (by rfl) Tryz.underlying53 (by kernel_rfl) (by omega)) ?_
    refine Ls.qE 25 (Ev.loadEl (enc := FiP.enc) (sz := 3) rfl (by rfl) (ReadsIn.rd 3 (by rfl)) (by kernel_rfl) (fun _ => rfl) hm) ?_
    refine go [15,0,2,3,3,4,0,16,0] ?_
    refine Ent.known 28 false (by rfl) (by exact (decide_eq_false (show ¬ ((m : Int) < 0) by omega))) ?_
    refine go [1,1,1,1,10,0] ?_
    refine Ent.known 34 false (by rfl) (by exact (rfl)) ?_
    refine go [7,1,8,0] ?_
    refine Ls.qE 37 (Ev.lenS rfl (by rfl) Tryz.underlying9) ?_
    refine Ls.qM 38 ?_
    refine Ls.qE 39 (Ev.lenS rfl (by rfl) Tryz.underlying9) ?_
    refine Ls.qE 40 (Ev.addI rfl (by rfl) (by rfl) (by omega)) ?_
    refine go [18,10,2] ?_
    by_cases h2 : 262144 < f.b.length + l.length
    · have hR2 : R = (P, 5) := by rw [hR, DrP.append, if_neg (fun h => h hg), if_pos (.inr (by rw [hbn]; omega))]
      subst hR2
      refine Cd.cond_true (by rfl) (decide_eq_true (show (262144 : Int) < (f.b.length : Int) + (l.length : Int) by omega)) ?_
      refine go [3,4,12,2,4,15,1,5,2,22] ?_
      exact Ent.rA ((some fd, c)) [3] trivial (Res.cell_tmp 1 (by rfl) (by rfl) (by rfl) (n := 4) (by kernel_rfl) (by rfl) (by rfl) (by rfl))
    · have hfull : ¬ ((P.find q = none ∧ 256 ≤ P.fs.length) ∨ 262144 < (P.bytes q).length + l.length) := by
       rw [hbn, hfd]
       rintro (⟨h, _⟩ | h)
       · cases h
       · omega
      refine Cd.cond_false (by rfl) (decide_eq_false (show ¬ ((262144 : Int) < (f.b.length : Int) + (l.length : Int)) by omega)) ?_
      refine go [6,3,3,4,12,2,4] ?_
      refine Ls.does (some 45) (Does.read rfl Tryz.func76 (by kernel_rfl) (by kernel_rfl) (ddead_sl P (some fd) c) (by rfl) (by rfl) trivial) (by rfl) (by rfl) ?_
      rintro _ -
      refine Ls.nil ?_
      by_cases hd : P.dead
      · have hR2 : R = (P, 6) := by rw [hR, DrP.append, if_neg (fun h => h hg), if_neg hfull, if_pos hd]
        subst hR2
        rw [hd]
        refine go [23,3,4,12,2,4,15,1,5,2,22] ?_
        exact Ent.rA (((some fd), c)) [3] trivial (Res.cell_tmp 1 (by rfl) (by rfl) (by rfl) (n := 4) (by kernel_rfl) (by rfl) (by rfl) (by rfl))
      · have hd : P.dead = false := by simpa using hd
        have hR2 : R = (P.step.put ⟨f.nm, f.b ++ l, f.sy⟩, 0) := by
         rw [hR, DrP.append, if_neg (fun h => h hg), if_neg hfull, if_neg (by rw [hd]; decide), hfd]
         try rfl
        subst hR2
        rw [hd]
        refine go [24,6,3,4,7,1,8,0,0] ?_
        refine Ls.qE 50 (Ev.to (Ev.addS rfl (by rfl) (by rfl) (by rw [txt_size, txt_size]; first | omega | (simp only [List.length_nil]; omega))) (congrArg Value.string (txt_app f.b l))) ?_
        refine go [7,1,15,0,2,3] ?_
        refine Cd.draw [4] (by kernel_rfl) ?_
        refine Rg.qE 0 52 (by rfl) (Ev.loads 2 rfl (by rfl) (by rfl) (n := 4) (by kernel_rfl) (by rfl) (by rfl)) ?_
        refine Rg.qE 2 54 (by rfl) (Ev.loads 0 rfl (by rfl) (by rfl) (n := 3) (by kernel_rfl) (by rfl) (by rfl)) ?_
        refine Rg.does 1 (by rfl) (by kernel_rfl) (Does.read rfl Tryz.func114 (by kernel_rfl) (by kernel_rfl) (dstep_sl P hok hd (some fd) c) (by rfl) (by rfl) trivial) (by rfl) (some 53) (by rfl) (by exact fun _ _ h => h) ?_
        rintro _ -
        refine Rg.does 3 (by rfl) (by kernel_rfl) (Does.readN rfl Tryz.func64 (by kernel_rfl) (by kernel_rfl) (dwith_sl P.step hok.rise (show P.fs.length ≤ 1000000 by omega) (some fd) c ⟨f.nm, f.b ++ l, f.sy⟩) (by rfl) (by rfl) ⟨ReadsIn.rd 3 (by rfl), trivial⟩ (fun _ => by rfl)) (by rfl) (some 55) (by rfl) (fun _ _ h => h.tail_) ?_
        rintro ⟨wA, wc⟩ -
        dsimp only
        refine Rg.tail 4 [] (by rfl) (by kernel_rfl) (Does.store 2 rfl (by rfl) (by rfl) (by rfl) (by kernel_rfl) (by rfl) (by kernel_rfl) (by rfl)) (by rfl) none (by rfl) (by kernel_rfl) (by kernel_rfl) ?_
        intro _ _
        refine Rg.qE 5 7 (by rfl) (Ev.assign rfl (by rfl)) ?_
        refine Rg.done (by kernel_rfl) ?_ _
        refine Ent.see 0 (by rfl) ?_
        refine Cd.ret ?_
        exact Ent.rA ((wA, wc)) [0] trivial (Res.cell_tmp 2 (by rfl) (by rfl) (by rfl) (n := 4) (by kernel_rfl) (by rfl) (by rfl) (by rfl))
theorem pig : ∀ (l m : List (List UInt8)), l.Nodup → (∀ x ∈ l, x ∈ m) → l.length ≤ m.length
 | [], _, _, _ => Nat.zero_le _
 | x :: l, m, hn, h => by
  obtain ⟨h1, h2⟩ := List.nodup_cons.1 hn
  have hx := h x List.mem_cons_self
  have := pig l (m.erase x) h2 (fun y hy => (List.mem_erase_of_ne (fun e : y = x => h1 (by rw [← e]; exact hy))).2 (h y (List.mem_cons_of_mem _ hy)))
  rw [List.length_erase_of_mem hx] at this
  have : 0 < m.length := List.length_pos_of_mem hx
  rw [List.length_cons]
  omega
def qnm (n : Nat) : List UInt8 := 113 :: Lib.itoa (n : Int)
theorem itoa_inj6 {n m : Nat} (h1 : n < 1000000) (h2 : m < 1000000) (h : Lib.itoa (n : Int) = Lib.itoa (m : Int)) : n = m := by
 refine dgs_inj 6 n m (by omega) (by omega) ?_
 rw [← (pad6 h1).1, ← (pad6 h2).1, h]
theorem qnm_good {n : Nat} (h : n < 1000000) : Good (qnm n) := ⟨by simp [qnm], by
 have := (pad6 h).2
 simp only [qnm, List.length_cons]
 omega, fun x hx => by
 rcases List.mem_cons.1 hx with rfl | hx
 · decide
 · have := dgs_digit 6 n x (by rw [← (pad6 h).1]; exact List.mem_append_right _ hx)
   unfold okB
   omega⟩
theorem qnm_few {P : DrP} {i : Nat} (hi : i < 1000000) (h : ∀ j, j < i → P.find (qnm j) ≠ none) : i ≤ P.fs.length := by
 have := pig ((List.range i).map qnm) (P.fs.map FiP.nm) (by
  show List.Pairwise _ _
  rw [List.pairwise_map]
  refine List.Pairwise.imp_of_mem ?_ List.nodup_range
  intro a b ha hb hab e
  have ha := List.mem_range.1 ha
  have hb := List.mem_range.1 hb
  exact hab (itoa_inj6 (by omega) (by omega) (by simpa [qnm] using e))) (fun x hx => by
  obtain ⟨j, hj, rfl⟩ := List.mem_map.1 hx
  have hj := List.mem_range.1 hj
  cases hf : P.find (qnm j) with
  | none => exact absurd hf (h j hj)
  | some f =>
   obtain ⟨h1, h2⟩ := findG_some hf
   rw [← h2]
   exact List.mem_map_of_mem h1)
 simpa using this
theorem missing_sl (P : DrP) (hpl : P.fs.length ≤ 256) (A : Option Addr) (c : Nat) : Fn Tryz.prog 78 #[.agg (P.val A c).toArray] [rdF A P.fs] (List UInt8) (fun q => .string (txt q)) (fun _ => []) (fun q => P.find q = none ∧ Good q) := by
 have hat : ∀ q, _ := fun q => dat_sl P A c q (by omega)
 have hVe : P.val A c = [.slice A P.fs.length c, .int .i64 P.steps, .bool P.left.isSome, .int .i64 ((P.left.getD 0 : Nat) : Int)] := rfl
 rw [hVe] at hat ⊢
 refine Fn.enter Tryz.func78 rfl Tryz.ntmps78 (by rfl) ?_
 intro w0
 refine go [3,4] ?_
 refine Ls.does (some 1) (Does.box rfl (by rfl)) (by rfl) (by rfl) ?_
 intro g1 _
 refine go [5,25,5,2,21] ?_
 refine Cd.loop (ι := Nat) (fun i => [(1, ptrW g1), (3, .int .i64 i)]) (fun _ => [blk g1 55 [.slice A P.fs.length c, .int .i64 P.steps, .bool P.left.isSome, .int .i64 ((P.left.getD 0 : Nat) : Int)], rdF A P.fs]) (fun i => i < 1000 ∧ ∀ j, j < i → P.find (qnm j) ≠ none) (fun i => 1000 - i) (0) (⟨by decide, fun j h => absurd h (Nat.not_lt_zero _)⟩) ?_ rfl ?_
 · (repeat (first | exact trivial | refine ⟨by rfl, ?_⟩))
 rintro i ⟨hi, hall⟩
 have hfew := qnm_few (by omega) hall
 have hgd := qnm_good (n := i) (by omega)
 have hqs := hgd.len
 refine go [3,21,3,4,0] ?_
 refine Ls.does (some 8) (Does.read rfl Tryz.func108 (by kernel_rfl) (by kernel_rfl) (digits_sl i (by unfold in64; omega)) (by rfl) (by rfl) trivial) (by rfl) (by rfl) ?_
 rintro _ -
 have hil : (Lib.itoa (i : Int)).length ≤ 32 := by
  simp only [qnm, List.length_cons] at hqs
  omega
 refine Ls.qE 9 (Ev.to (Ev.addS rfl (by rfl) (by rfl) (by rw [txt_size, txt_size]; simp only [List.length_cons, List.length_nil]; omega)) (congrArg Value.string (txt_app [113] _))) ?_
 refine go [5,25,12,0,4,0] ?_
 refine Ls.does (some 12) (Does.read rfl Tryz.func63 (by kernel_rfl) (by kernel_rfl) (hat (qnm i)) (by rfl) (by rfl) ⟨ReadsIn.rd 1 (by rfl), trivial⟩) (by rfl) (by rfl) ?_
 rintro r hr
 refine go [16,2] ?_
 cases hfd : P.find (qnm i) with
 | none =>
  obtain rfl := at_miss hr hfd
  refine Cd.cond_true (by rfl) (decide_eq_true (show (-1 : Int) < 0 by decide)) ?_
  refine go [3,4,0,5,2,22] ?_
  exact Ent.rA (qnm i) [] (⟨hfd, hgd⟩) rT_
 | some f =>
  obtain ⟨m, rfl, hm⟩ := at_hit hr hfd
  refine Cd.cond_false (by rfl) (decide_eq_false (show ¬ ((m : Int) < 0) by omega)) ?_
  refine go [6,4,0] ?_
  refine Ls.qE 6 (Ev.addN (b := 1) rfl (by rfl) (by rfl) (by omega)) ?_
  refine go [5,2] ?_
  refine Ent.iA (i + 1) ?_
  (try dsimp only); exact ⟨⟨by omega, fun j hj => by
   rcases Nat.lt_succ_iff_lt_or_eq.1 hj with h | rfl
   · exact hall j h
   · rw [hfd]; simp⟩, by omega⟩
theorem bool_f {p : Prop} [Decidable p] (h : ¬ p) : Value.bool (decide p) = Value.bool false := congrArg Value.bool (decide_eq_false h)
theorem bool_t {p : Prop} [Decidable p] (h : p) : Value.bool (decide p) = Value.bool true := congrArg Value.bool (decide_eq_true h)
set_option maxHeartbeats 2000000 in
theorem tells_sl {D : DrS} {P : DrP} (h : Drv D P) (A : Option Addr) (c : Nat) : Fn Tryz.prog 28 #[D.ptr, .agg (P.val A c).toArray] [D.rB, D.rM, D.rF, rdF A P.fs] Unit (fun _ => .bool true) (fun _ => []) (fun _ => True) := by
 have hpl := h.ok.len
 obtain ⟨ns, hns⟩ : ∃ ns, ns = P.fs.map FiP.nm := ⟨_, rfl⟩
 have hnl : P.fs.length = ns.length := by rw [hns, List.length_map]
 have hnm := names_sl h
 rw [hnl, ← hns] at hnm
 have hde := ddead_sl P A c
 have hms := missing_sl P hpl A c
 have hVe : P.val A c = [.slice A P.fs.length c, .int .i64 P.steps, .bool P.left.isSome, .int .i64 ((P.left.getD 0 : Nat) : Int)] := rfl
 rw [hVe] at hde hms ⊢
 rw [hnl] at hpl
 refine Fn.enter Tryz.func28 rfl Tryz.ntmps28 (by rfl) ?_
 intro w0
 refine go [3,4] ?_
 refine Ls.does (some 3) (Does.box rfl (by rfl)) (by rfl) (by rfl) ?_
 intro g1 _
 refine go [5,25,0] ?_
 refine Ls.does (some 16) (Does.readN rfl Tryz.func42 (by kernel_rfl) (by kernel_rfl) (hnm) (by rfl) (by rfl) ⟨rblkIn 1 (by rfl), rmapIn_ 2 (by rfl), trivial⟩ (fun _ => by rfl)) (by rfl) (by rfl) ?_
 rintro ⟨nA, nc⟩ -
 refine Ent.see 0 (by rfl) ?_
 refine go [5,2,3,3] ?_
 refine Cd.draw [] (by kernel_rfl) ?_
 refine Rg.qE 0 17 (by rfl) (Ev.move rfl (by rfl)) ?_
 refine Rg.qE 1 18 (by rfl) (Ev.len rfl (by rfl) Tryz.underlying49) ?_
 refine Rg.qE 2 19 (by rfl) (Ev.fieldAddr (k := 0) rfl (by rfl) (by kernel_rfl) (by rfl)) ?_
 refine Rg.qE 3 20 (by rfl) (Ev.load 1 rfl (by rfl) (by rfl) (by kernel_rfl) (by rfl)) ?_
 refine Rg.qE 4 21 (by rfl) (Ev.len rfl (by rfl) Tryz.underlying53) ?_
 refine Rg.qE 5 22 (by rfl) (Ev.to (Ev.neq rfl (by rfl) (by rfl)) (bool_f (show ¬ ((ns.length : Int) ≠ (P.fs.length : Int)) by omega))) ?_
 refine Rg.qE 6 23 (by rfl) (Ev.move rfl (by rfl)) ?_
 refine Rg.qE 7 24 (by rfl) (Ev.move rfl (by rfl)) ?_
 refine Rg.qE 9 26 (by rfl) (Ev.fieldAddr (k := 1) rfl (by rfl) (by kernel_rfl) (by rfl)) ?_
 refine Rg.qE 10 27 (by rfl) (Ev.load 1 rfl (by rfl) (by rfl) (by kernel_rfl) (by rfl)) ?_
 refine Rg.does 8 (by rfl) (by kernel_rfl) (Does.read rfl Tryz.func26 (by kernel_rfl) (by kernel_rfl) (steps_sl h) (by rfl) (by rfl) ⟨rblkIn 2 (by rfl), trivial⟩) (by rfl) (some 25) (by rfl) (by exact fun _ _ h => h) ?_
 rintro _ -
 refine Rg.qE 11 28 (by rfl) (Ev.to (Ev.neq rfl (by rfl) (by rfl)) (bool_f (fun h => h rfl))) ?_
 refine Rg.qE 12 29 (by rfl) (Ev.pickF rfl (by rfl) (by rfl)) ?_
 refine Rg.qE 13 30 (by rfl) (Ev.move rfl (by rfl)) ?_
 refine Rg.qE 14 31 (by rfl) (Ev.move rfl (by rfl)) ?_
 refine Rg.qE 16 33 (by rfl) (Ev.loads 1 rfl (by rfl) (by rfl) (n := 4) (by kernel_rfl) (by rfl) (by rfl)) ?_
 refine Rg.does 15 (by rfl) (by kernel_rfl) (Does.read rfl Tryz.func75 (by kernel_rfl) (by kernel_rfl) (dead_sl h) (by rfl) (by rfl) ⟨rblkIn 2 (by rfl), trivial⟩) (by rfl) (some 32) (by rfl) (by exact fun _ _ h => h) ?_
 rintro _ -
 refine Rg.does 17 (by rfl) (by kernel_rfl) (Does.read rfl Tryz.func76 (by kernel_rfl) (by kernel_rfl) (hde) (by rfl) (by rfl) trivial) (by rfl) (some 34) (by rfl) (by exact fun _ _ h => h) ?_
 rintro _ -
 refine Rg.qE 18 35 (by rfl) (Ev.to (Ev.neqB rfl (by rfl) (by rfl) Tryz.underlying4) (show Value.bool (!(P.dead == P.dead)) = Value.bool false by cases P.dead <;> rfl)) ?_
 refine Rg.qE 19 36 (by rfl) (Ev.pickF rfl (by rfl) (by rfl)) ?_
 refine Rg.done (by kernel_rfl) ?_ _
 refine go [24,6,3,3,4,7,0,8,1] ?_
 refine Ls.qE 39 (Ev.len rfl (by rfl) Tryz.underlying53) ?_
 refine go [0,2,21] ?_
 refine Cd.loop (ι := Nat) (fun k => [(0, D.ptr), (3, ptrW g1), (5, .slice nA ns.length nc), (38, .slice A P.fs.length c), (39, .int .i64 P.fs.length), (40, .int .i64 k)]) (fun _ => [rd nA ns.length 1 (txts ns), blk g1 55 [.slice A P.fs.length c, .int .i64 P.steps, .bool P.left.isSome, .int .i64 ((P.left.getD 0 : Nat) : Int)], D.rB, D.rM, D.rF, rdF A P.fs]) (fun k => k ≤ ns.length) (fun k => ns.length - k) (0) (Nat.zero_le _) ?_ rfl ?_
 · (repeat (first | exact trivial | refine ⟨by rfl, ?_⟩))
 rintro k hk
 refine go [3,4,16,2,3] ?_
 refine Cd.cond _ (by rfl) (fun h2 => ?_) (fun h2 => ?_)
 · have hlt : k < ns.length := by have := of_decide_eq_true h2; omega
   obtain ⟨f, hf⟩ := get_of_lt (show k < P.fs.length by omega)
   have hfm := List.mem_of_getElem? hf
   have hq : ns[k]? = some f.nm := by rw [hns, List.getElem?_map, hf]; rfl
   have hqt : (ns.map txt)[k]? = some (txt f.nm) := by rw [List.getElem?_map, hq]; rfl
   have hgd := h.ok.good f hfm
   have hgl := hgd.len
   have hfd : P.find f.nm = some f := findG_mem h.ok.rise hfm
   have hsy := h.ok.sync f hfm
   have hsz := h.ok.size f hfm
   have hbs : (txt f.b).size = f.b.length := rfl
   have hS := size_sl h f.nm hgl
   have hL := loose_sl h f.nm hgl
   rw [show P.bytes f.nm = f.b by unfold DrP.bytes; rw [hfd]] at hS
   rw [show P.loose f.nm = f.b.length - f.sy by unfold DrP.loose; rw [hfd]] at hL
   refine Ent.rdSome 0 (by rfl) (by omega) (fun nd hnd => ?_)
   subst hnd
   refine Ent.rdSome 5 (by rfl) (by omega) (fun fd hfd2 => ?_)
   subst hfd2
   refine go [6,3,21,3,4,0] ?_
   refine Ls.qE 43 (Ev.indexAt (sz := 3) rfl (by rfl) (by rfl) Tryz.underlying53 (by kernel_rfl) (by omega)) ?_
   refine Ls.qE 44 (Ev.loadEl (enc := FiP.enc) (sz := 3) rfl (by rfl) (ReadsIn.rd 5 (by rfl)) (by kernel_rfl) (fun _ => rfl) hf) ?_
   refine Ls.does (some 7) (Does.alloc (cs := [.string ⟨#[]⟩, .string ⟨#[]⟩, .int .i64 0]) rfl (ZeroIs.mk (.agg #[.string ⟨#[]⟩, .string ⟨#[]⟩, .int .i64 0]) (by kernel_rfl) (by rfl))) (by rfl) (by rfl) ?_
   intro g2 _
   refine go [5,15,0,25,0,7,0,8,0] ?_
   refine Ls.does (some 49) (Does.readN rfl Tryz.func44 (by kernel_rfl) (by kernel_rfl) (read_sl h f.nm hgd hfd) (by rfl) (by rfl) ⟨rblkIn 3 (by rfl), rmapIn_ 4 (by rfl), filRin 5 (by rfl), trivial⟩ (fun _ => by rfl)) (by rfl) (by rfl) ?_
   rintro ⟨bA, bc⟩ -
   refine go [0,11,11,5,5,2,3] ?_
   refine Cd.draw [] (by kernel_rfl) ?_
   refine Rg.qE 0 52 (by rfl) (Ev.move rfl (by rfl)) ?_
   refine Rg.qE 1 53 (by rfl) (Ev.move rfl (by rfl)) ?_
   refine Rg.qE 2 54 (by rfl) (Ev.indexAt (sz := 1) rfl (by rfl) (by rfl) Tryz.underlying49 (by kernel_rfl) (by omega)) ?_
   refine Rg.qE 3 55 (by rfl) (Ev.loadStr rfl (by rfl) (ReadsIn.rd 2 (by rfl)) (by kernel_rfl) (by assumption)) ?_
   refine Rg.qE 4 56 (by rfl) (Ev.fieldAddr (k := 0) rfl (by rfl) (by kernel_rfl) (by rfl)) ?_
   refine Rg.qE 5 57 (by rfl) (Ev.load 1 rfl (by rfl) (by rfl) (by kernel_rfl) (by rfl)) ?_
   refine Rg.qE 6 58 (by rfl) (Ev.to (Ev.neqS rfl (by rfl) (by rfl)) (bool_f (fun h => h rfl))) ?_
   refine Rg.qE 7 59 (by rfl) (Ev.move rfl (by rfl)) ?_
   refine Rg.qE 8 60 (by rfl) (Ev.move rfl (by rfl)) ?_
   refine Rg.qE 9 61 (by rfl) (Ev.to (Ev.neq rfl (by rfl) (by rfl)) (bool_f (fun h => h rfl))) ?_
   refine Rg.qE 10 62 (by rfl) (Ev.pickF rfl (by rfl) (by rfl)) ?_
   refine Rg.qE 11 63 (by rfl) (Ev.move rfl (by rfl)) ?_
   refine Rg.qE 12 64 (by rfl) (Ev.move rfl (by rfl)) ?_
   refine Rg.qE 13 65 (by rfl) (Ev.textOf (l := f.b) rfl (by rfl) (ReadsIn.row 0 (by rfl)) Tryz.underlying47 Tryz.underlying5 Tryz.underlying9) ?_
   refine Rg.qE 14 66 (by rfl) (Ev.fieldAddr (k := 1) rfl (by rfl) (by kernel_rfl) (by rfl)) ?_
   refine Rg.qE 15 67 (by rfl) (Ev.load 1 rfl (by rfl) (by rfl) (by kernel_rfl) (by rfl)) ?_
   refine Rg.qE 16 68 (by rfl) (Ev.to (Ev.neqS rfl (by rfl) (by rfl)) (bool_f (fun h => h rfl))) ?_
   refine Rg.qE 17 69 (by rfl) (Ev.pickF rfl (by rfl) (by rfl)) ?_
   refine Rg.qE 18 70 (by rfl) (Ev.move rfl (by rfl)) ?_
   refine Rg.qE 19 71 (by rfl) (Ev.move rfl (by rfl)) ?_
   refine Rg.qE 20 72 (by rfl) (Ev.fieldAddr (k := 0) rfl (by rfl) (by kernel_rfl) (by rfl)) ?_
   refine Rg.qE 21 73 (by rfl) (Ev.load 1 rfl (by rfl) (by rfl) (by kernel_rfl) (by rfl)) ?_
   refine Rg.qE 23 75 (by rfl) (Ev.fieldAddr (k := 1) rfl (by rfl) (by kernel_rfl) (by rfl)) ?_
   refine Rg.qE 24 76 (by rfl) (Ev.load 1 rfl (by rfl) (by rfl) (by kernel_rfl) (by rfl)) ?_
   refine Rg.qE 25 77 (by rfl) (Ev.lenS rfl (by rfl) Tryz.underlying9) ?_
   refine Rg.does 22 (by rfl) (by kernel_rfl) (Does.read rfl Tryz.func33 (by kernel_rfl) (by kernel_rfl) (hS) (by rfl) (by rfl) ⟨rblkIn 4 (by rfl), rmapIn_ 5 (by rfl), filRin 6 (by rfl), trivial⟩) (by rfl) (some 74) (by rfl) (by exact fun _ _ h => h) ?_
   rintro _ -
   refine Rg.qE 26 78 (by rfl) (Ev.to (Ev.neq rfl (by rfl) (by rfl)) (bool_f (fun h => h rfl))) ?_
   refine Rg.qE 27 79 (by rfl) (Ev.pickF rfl (by rfl) (by rfl)) ?_
   refine Rg.qE 28 80 (by rfl) (Ev.move rfl (by rfl)) ?_
   refine Rg.qE 29 81 (by rfl) (Ev.move rfl (by rfl)) ?_
   refine Rg.qE 30 82 (by rfl) (Ev.fieldAddr (k := 0) rfl (by rfl) (by kernel_rfl) (by rfl)) ?_
   refine Rg.qE 31 83 (by rfl) (Ev.load 1 rfl (by rfl) (by rfl) (by kernel_rfl) (by rfl)) ?_
   refine Rg.qE 33 85 (by rfl) (Ev.fieldAddr (k := 1) rfl (by rfl) (by kernel_rfl) (by rfl)) ?_
   refine Rg.qE 34 86 (by rfl) (Ev.load 1 rfl (by rfl) (by rfl) (by kernel_rfl) (by rfl)) ?_
   refine Rg.qE 35 87 (by rfl) (Ev.lenS rfl (by rfl) Tryz.underlying9) ?_
   refine Rg.qE 36 88 (by rfl) (Ev.fieldAddr (k := 2) rfl (by rfl) (by kernel_rfl) (by rfl)) ?_
   refine Rg.qE 37 89 (by rfl) (Ev.load 1 rfl (by rfl) (by rfl) (by kernel_rfl) (by rfl)) ?_
   refine Rg.qE 38 90 (by rfl) (Ev.subN (a := f.b.length) (b := f.sy) rfl (by rfl) (by rfl) (by omega)) ?_
   refine Rg.does 32 (by rfl) (by kernel_rfl) (Does.read rfl Tryz.func77 (by kernel_rfl) (by kernel_rfl) (hL) (by rfl) (by rfl) ⟨rblkIn 4 (by rfl), rmapIn_ 5 (by rfl), filRin 6 (by rfl), trivial⟩) (by rfl) (some 84) (by rfl) (by exact fun _ _ h => h) ?_
   rintro _ -
   refine Rg.qE 39 91 (by rfl) (Ev.to (Ev.neq rfl (by rfl) (by rfl)) (bool_f (fun h => h rfl))) ?_
   refine Rg.qE 40 92 (by rfl) (Ev.pickF rfl (by rfl) (by rfl)) ?_
   refine Rg.done (by kernel_rfl) ?_ _
   refine go [24,6,4] ?_
   refine Ls.qE 93 (Ev.addN (b := 1) rfl (by rfl) (by rfl) (by omega)) ?_
   refine go [0,2] ?_
   refine Ent.pick [2, 3, 4, 5, 6, 7] (by rfl) ?_
   refine Ent.iA (k + 1) ?_
   (try dsimp only); exact ⟨hlt, by omega⟩
 · have hge : ns.length ≤ k := by have := of_decide_eq_false h2; omega
   have hbad : ¬ Good [66, 97, 100] := fun hg => by
    have := hg.all 66 (by simp)
    revert this
    decide
   have hbn : P.find [66, 97, 100] = none := findG_none_of fun f hf e => hbad (e ▸ h.ok.good f hf)
   have hB := read_miss h [66, 97, 100] hbn
   rw [if_neg hbad] at hB
   have hBs := size_sl h [66, 97, 100] (by decide)
   rw [show P.bytes [66, 97, 100] = [] by unfold DrP.bytes; rw [hbn]] at hBs
   refine Cd.exit ?_
   refine go [3,4,12,1,4] ?_
   refine Ls.does (some 95) (Does.read rfl Tryz.func78 (by kernel_rfl) (by kernel_rfl) (hms) (by rfl) (by rfl) ⟨ReadsIn.rd 5 (by rfl), trivial⟩) (by rfl) (by rfl) ?_
   rintro q ⟨hq1, hq2⟩
   have hql := hq2.len
   have hM := read_miss h q hq1
   rw [if_pos hq2] at hM
   have hMl := loose_sl h q hql
   rw [show P.loose q = 0 by unfold DrP.loose; rw [hq1]] at hMl
   refine go [5,25,0,0] ?_
   refine Ls.does (some 99) (Does.read rfl Tryz.func44 (by kernel_rfl) (by kernel_rfl) (hM) (by rfl) (by rfl) ⟨rblkIn 2 (by rfl), rmapIn_ 3 (by rfl), trivial⟩) (by rfl) (by rfl) ?_
   rintro _ -
   refine go [0,11,11,5,5,25,0] ?_
   refine Ls.does (some 104) (Does.read rfl Tryz.func44 (by kernel_rfl) (by kernel_rfl) (hB) (by rfl) (by rfl) ⟨rblkIn 2 (by rfl), rmapIn_ 3 (by rfl), trivial⟩) (by rfl) (by rfl) ?_
   rintro _ -
   refine go [0,11,11,5,5,25,0] ?_
   refine Ls.qE 108 (Ev.to (Ev.eql rfl (by rfl) (by rfl)) (bool_t rfl)) ?_
   refine go [0,0] ?_
   refine Ls.qE 111 (Ev.to (Ev.eql rfl (by rfl) (by rfl)) (bool_t rfl)) ?_
   refine go [9,0,0] ?_
   refine Ls.qE 115 (Ev.len rfl (by rfl) Tryz.underlying47) ?_
   refine Ls.qM 116 ?_
   refine Ls.qE 117 (Ev.len rfl (by rfl) Tryz.underlying47) ?_
   refine Ls.qE 118 (Ev.addN (a := 0) (b := 0) rfl (by rfl) (by rfl) (by decide)) ?_
   refine Ls.qE 119 (Ev.to (Ev.eql rfl (by rfl) (by rfl)) (bool_t rfl)) ?_
   refine go [9,0,0] ?_
   refine Ls.does (some 123) (Does.read rfl Tryz.func33 (by kernel_rfl) (by kernel_rfl) (hBs) (by rfl) (by rfl) ⟨rblkIn 2 (by rfl), rmapIn_ 3 (by rfl), filRin 4 (by rfl), trivial⟩) (by rfl) (by rfl) ?_
   rintro _ -
   refine go [0,0] ?_
   refine Ls.does (some 126) (Does.read rfl Tryz.func77 (by kernel_rfl) (by kernel_rfl) (hMl) (by rfl) (by rfl) ⟨rblkIn 2 (by rfl), rmapIn_ 3 (by rfl), filRin 4 (by rfl), trivial⟩) (by rfl) (by rfl) ?_
   rintro _ -
   refine Ls.qE 127 (Ev.addN (a := 0) (b := 0) rfl (by rfl) (by rfl) (by decide)) ?_
   refine Ls.qE 128 (Ev.to (Ev.eql rfl (by rfl) (by rfl)) (bool_t rfl)) ?_
   refine go [9,5,2,22] ?_
   exact Ent.rA (()) [] trivial rT_
theorem stood_tb : Tryz.prog.stoodInHeld 42 = false := by kernel_rfl
theorem guard_tb : Tryz.prog.eqGuardType Tryz.prog.depth 42 = false := by kernel_rfl
theorem fields_tb : fieldRows Tryz.prog 42 = [(true, 3, 0), (true, 3, 1), (true, 9, 2), (true, 9, 3)] := by kernel_rfl
theorem tb_equal (a b : TbP) (w : World) : (Op.equalIn 10000 42 (.agg a.enc.toArray) (.agg b.enc.toArray)).run Tryz.prog w = .ok (decide (a = b)) w := by
 have hd : decide (a = b) = (a.num == b.num && (a.lev == b.lev && ((txt a.fst).toList == (txt b.fst).toList && (txt a.lst).toList == (txt b.lst).toList))) := by
  rw [Bool.eq_iff_iff, decide_eq_true_iff]
  simp only [toList_txt, Bool.and_eq_true, beq_iff_eq]
  constructor
  · rintro rfl
    exact ⟨rfl, rfl, rfl, rfl⟩
  · rintro ⟨h1, h2, h3, h4⟩
    cases a
    cases b
    simp_all
 rw [hd]
 unfold TbP.enc
 rw [run_equal_rows w 9999 42 _ _ (by kernel_rfl) stood_tb fields_tb]
 simp only [eqRows]
 cases h1 : (a.num == b.num) <;> cases h2 : (a.lev == b.lev) <;> cases h3 : ((txt a.fst).toList == (txt b.fst).toList) <;> cases h4 : ((txt a.lst).toList == (txt b.lst).toList) <;>
  simp [go_sem, *]
theorem Ev.neqTb {Γ : Ctx} {N : Frm} {E : Env} {H : List Chunk} {o : Oper} {x y : Operand} {t' : TypeId} (a : TbP) (ho : o.op = .binOp .neq 42 x y t') (hx : E.ev x = some (.agg a.enc.toArray)) (hy : E.ev y = some (.agg a.enc.toArray)) : Ev Γ N Tryz.prog E H o (.bool false) := by
 have : Ev Γ N Tryz.prog E H o (.bool (!decide (a = a))) := .neqG ho hx hy (fun w => run_eqGuard_agg w _ _ _ _ _ _ guard_tb) (fun w => run_neq_of (tb_equal a a w))
 rwa [decide_eq_true rfl] at this
theorem first_sl : Fn Tryz.prog 16 #[] [] Unit (fun _ => .agg #[.slice none 0 0, .int .i64 1, .int .i64 1, .int .i64 0]) (fun _ => []) (fun _ => True) := by
 refine Fn.enter Tryz.func16 rfl Tryz.ntmps16 (by rfl) ?_
 intro w0
 refine go [3,4] ?_
 refine Ls.does (some 0) (Does.alloc (cs := [.slice none 0 0, .int .i64 0, .int .i64 0, .int .i64 0]) rfl (ZeroIs.mk (.agg #[.slice none 0 0, .int .i64 0, .int .i64 0, .int .i64 0]) (by kernel_rfl) (by rfl))) (by rfl) (by rfl) ?_
 intro g1 _
 refine go [25] ?_
 refine Ls.qE 1 (Ev.buildP (pl := [(0, 1), (1, 1), (2, 1), (3, 1)]) (zs := [.slice none 0 0, .int .i64 0, .int .i64 0, .int .i64 0]) rfl (by rfl) (by kernel_rfl) (by rfl)) ?_
 refine go [15,0,2,22] ?_
 exact Ent.rA (()) [] trivial (Res.cell 0 (by rfl) (by rfl) (by rfl) (n := 4) (by kernel_rfl) (by rfl) (by rfl))
theorem same_sl (v : VsP) (A B : Option Addr) (c d : Nat) (hn : v.tbs.length ≤ 1000000000) : Fn Tryz.prog 11 #[.agg (v.val A c).toArray, .agg (v.val B d).toArray] [rdT A v.tbs, rdT B v.tbs] Unit (fun _ => .bool true) (fun _ => []) (fun _ => True) := by
 obtain ⟨l, nx, lg, sq⟩ := v
 dsimp only [VsP.val] at hn ⊢
 refine Fn.enter Tryz.func11 rfl Tryz.ntmps11 (by rfl) ?_
 intro w0
 refine go [3,4] ?_
 refine Ls.does (some 2) (Does.box rfl (by rfl)) (by rfl) (by rfl) ?_
 intro g1 _
 refine Ls.does (some 3) (Does.box rfl (by rfl)) (by rfl) (by rfl) ?_
 intro g2 _
 refine go [5,2,3,3,4,7,1,8,1,7,1,8,0] ?_
 refine Ls.qE 10 (Ev.to (Ev.neq rfl (by rfl) (by rfl)) (bool_f (fun h => h rfl))) ?_
 refine go [0,7,2,8,1,7,2,8,0] ?_
 refine Ls.qE 16 (Ev.to (Ev.neq rfl (by rfl) (by rfl)) (bool_f (fun h => h rfl))) ?_
 refine go [10,0,7,3,8,1,7,3,8,0] ?_
 refine Ls.qE 23 (Ev.to (Ev.neq rfl (by rfl) (by rfl)) (bool_f (fun h => h rfl))) ?_
 refine go [10,0,7,0,8,1] ?_
 refine Ls.qE 28 (Ev.len rfl (by rfl) Tryz.underlying22) ?_
 refine go [7,0,8,0] ?_
 refine Ls.qE 31 (Ev.len rfl (by rfl) Tryz.underlying22) ?_
 refine Ls.qE 32 (Ev.to (Ev.neq rfl (by rfl) (by rfl)) (bool_f (fun h => h rfl))) ?_
 refine go [10,2,24,6,3,3,4,7,0,8,1] ?_
 refine Ls.qE 36 (Ev.len rfl (by rfl) Tryz.underlying22) ?_
 refine go [0,2,21] ?_
 refine Ent.pick [1, 0, 2, 3] (by rfl) ?_
 refine Cd.loop (ι := Nat) (fun k => [(2, ptrW g1), (3, ptrW g2), (36, .int .i64 l.length), (37, .int .i64 k)]) (fun _ => [blk g1 24 [.slice A l.length c, .int .i64 nx, .int .i64 lg, .int .i64 sq], blk g2 24 [.slice B l.length d, .int .i64 nx, .int .i64 lg, .int .i64 sq], rdT A l, rdT B l]) (fun k => k ≤ l.length) (fun k => l.length - k) (0) (Nat.zero_le _) ?_ rfl ?_
 · (repeat (first | exact trivial | refine ⟨by rfl, ?_⟩))
 rintro k hk
 refine go [3,4,16,2,3] ?_
 refine Cd.cond _ (by rfl) (fun h2 => ?_) (fun h2 => ?_)
 · have hlt : k < l.length := by have := of_decide_eq_true h2; omega
   obtain ⟨t, ht⟩ := get_of_lt hlt
   refine Ent.rdSome 2 (by rfl) (by omega) (fun ad had => ?_)
   subst had
   refine Ent.rdSome 3 (by rfl) (by omega) (fun bd hbd => ?_)
   subst hbd
   refine go [6,3,21,3,4,0,5,2,3] ?_
   refine Cd.draw [] (by kernel_rfl) ?_
   refine Rg.qE 0 40 (by rfl) (Ev.fieldAddr (k := 0) rfl (by rfl) (by kernel_rfl) (by rfl)) ?_
   refine Rg.qE 1 41 (by rfl) (Ev.load 0 rfl (by rfl) (by rfl) (by kernel_rfl) (by rfl)) ?_
   refine Rg.qE 2 42 (by rfl) (Ev.move rfl (by rfl)) ?_
   refine Rg.qE 3 43 (by rfl) (Ev.indexAt (sz := 4) rfl (by rfl) (by rfl) Tryz.underlying22 (by kernel_rfl) (by omega)) ?_
   refine Rg.qE 4 44 (by rfl) (Ev.loadEl (enc := TbP.enc) (sz := 4) rfl (by rfl) (ReadsIn.rd 2 (by rfl)) (by kernel_rfl) (fun _ => rfl) ht) ?_
   refine Rg.qE 5 45 (by rfl) (Ev.fieldAddr (k := 0) rfl (by rfl) (by kernel_rfl) (by rfl)) ?_
   refine Rg.qE 6 46 (by rfl) (Ev.load 1 rfl (by rfl) (by rfl) (by kernel_rfl) (by rfl)) ?_
   refine Rg.qE 7 47 (by rfl) (Ev.move rfl (by rfl)) ?_
   refine Rg.qE 8 48 (by rfl) (Ev.indexAt (sz := 4) rfl (by rfl) (by rfl) Tryz.underlying22 (by kernel_rfl) (by omega)) ?_
   refine Rg.qE 9 49 (by rfl) (Ev.loadEl (enc := TbP.enc) (sz := 4) rfl (by rfl) (ReadsIn.rd 3 (by rfl)) (by kernel_rfl) (fun _ => rfl) ht) ?_
   refine Rg.qE 10 50 (by rfl) (Ev.neqTb t rfl (by rfl) (by rfl)) ?_
   refine Rg.done (by kernel_rfl) ?_ _
   refine go [24,6,4] ?_
   refine Ls.qE 51 (Ev.addN (b := 1) rfl (by rfl) (by rfl) (by omega)) ?_
   refine go [0,2] ?_
   refine Ent.iA (k + 1) ?_
   (try dsimp only); exact ⟨hlt, by omega⟩
 · refine Cd.exit ?_
   refine go [3,4,5,2,22] ?_
   exact Ent.rA (()) [] trivial rT_
theorem rtexts_sl (A B : Option Addr) (c d : Nat) (l : List (List UInt8)) (hn : l.length ≤ 1000000000) : Fn Tryz.prog 23 #[.slice A l.length c, .slice B l.length d] [rd A l.length 1 (txts l), rd B l.length 1 (txts l)] Unit (fun _ => .bool true) (fun _ => []) (fun _ => True) := by
 refine Fn.enter Tryz.func23 rfl Tryz.ntmps23 (by rfl) ?_
 intro w0
 refine go [3,4,5,2,3,3,4,0] ?_
 refine Ls.qE 7 (Ev.len rfl (by rfl) Tryz.underlying49) ?_
 refine Ls.qM 8 ?_
 refine Ls.qE 9 (Ev.len rfl (by rfl) Tryz.underlying49) ?_
 refine Ls.qE 10 (Ev.to (Ev.neq rfl (by rfl) (by rfl)) (bool_f (fun h => h rfl))) ?_
 refine go [2,24,6,3,3,4,0] ?_
 refine Ls.qE 12 (Ev.len rfl (by rfl) Tryz.underlying49) ?_
 refine go [0,2,21] ?_
 refine Cd.loop (ι := Nat) (fun k => [(0, .slice A l.length c), (1, .slice B l.length d), (12, .int .i64 l.length), (13, .int .i64 k)]) (fun _ => [rd A l.length 1 (txts l), rd B l.length 1 (txts l)]) (fun k => k ≤ l.length) (fun k => l.length - k) (0) (Nat.zero_le _) ?_ rfl ?_
 · (repeat (first | exact trivial | refine ⟨by rfl, ?_⟩))
 rintro k hk
 refine go [3,4,16,2,3] ?_
 refine Cd.cond _ (by rfl) (fun h2 => ?_) (fun h2 => ?_)
 · have hlt : k < l.length := by have := of_decide_eq_true h2; omega
   obtain ⟨t, ht⟩ := get_of_lt hlt
   have hqt : (l.map txt)[k]? = some (txt t) := by rw [List.getElem?_map, ht]; rfl
   refine Ent.rdSome 0 (by rfl) (by omega) (fun ad had => ?_)
   subst had
   refine Ent.rdSome 1 (by rfl) (by omega) (fun bd hbd => ?_)
   subst hbd
   refine go [6,3,21,3,4,0,5,2,3] ?_
   refine Cd.draw [] (by kernel_rfl) ?_
   refine Rg.qE 0 16 (by rfl) (Ev.move rfl (by rfl)) ?_
   refine Rg.qE 1 17 (by rfl) (Ev.move rfl (by rfl)) ?_
   refine Rg.qE 2 18 (by rfl) (Ev.indexAt (sz := 1) rfl (by rfl) (by rfl) Tryz.underlying49 (by kernel_rfl) (by omega)) ?_
   refine Rg.qE 3 19 (by rfl) (Ev.loadStr rfl (by rfl) (ReadsIn.rd 0 (by rfl)) (by kernel_rfl) (by assumption)) ?_
   refine Rg.qE 4 20 (by rfl) (Ev.move rfl (by rfl)) ?_
   refine Rg.qE 5 21 (by rfl) (Ev.move rfl (by rfl)) ?_
   refine Rg.qE 6 22 (by rfl) (Ev.indexAt (sz := 1) rfl (by rfl) (by rfl) Tryz.underlying49 (by kernel_rfl) (by omega)) ?_
   refine Rg.qE 7 23 (by rfl) (Ev.loadStr rfl (by rfl) (ReadsIn.rd 1 (by rfl)) (by kernel_rfl) (by assumption)) ?_
   refine Rg.qE 8 24 (by rfl) (Ev.to (Ev.neqS rfl (by rfl) (by rfl)) (bool_f (fun h => h rfl))) ?_
   refine Rg.done (by kernel_rfl) ?_ _
   refine go [24,6,4] ?_
   refine Ls.qE 25 (Ev.addN (b := 1) rfl (by rfl) (by rfl) (by omega)) ?_
   refine go [0,2] ?_
   refine Ent.iA (k + 1) ?_
   (try dsimp only); exact ⟨hlt, by omega⟩
 · refine Cd.exit ?_
   refine go [3,4,5,2,22] ?_
   exact Ent.rA (()) [] trivial rT_
theorem reads_front {Γ : Ctx} {H : List Chunk} {A : Option Addr} {n sz k : Nat} {xs : List Value} (i : Nat) (hi : H[i]? = some (rd A n sz xs)) (hk : k ≤ n) : ReadsIn Γ H sz A k (xs.take (k * sz)) := fun w hs => by
 have h : Reads w w.heap.size sz A n xs := hs.mem hi
 exact h.take hk
def cutE (e : EdP) : EdP := { e with add := e.add.take 60, drop := e.drop.take 200 }
theorem cutlaw_sl (e : EdP) (A B : Option Addr) (a b : Nat) (hn : e.add.length ≤ a ∧ a ≤ maxLen) (hd : e.drop.length ≤ b ∧ b ≤ maxLen) : Fn Tryz.prog 8 #[.agg (e.val A a B b).toArray] [rdT A e.add, rd B e.drop.length 1 (ints e.drop)] ((Option Addr × Nat) × (Option Addr × Nat)) (fun p => .agg ((cutE e).val p.1.1 p.1.2 p.2.1 p.2.2).toArray) (fun p => [rowTb p.1.1 (cutE e).add.length p.1.2 (cutE e).add, rowI p.2.1 (cutE e).drop.length p.2.2 (cutE e).drop]) (fun _ => True) := by
 have hmx1 : e.add.length ≤ 9223372036854775807 := by have := hn.1; have := hn.2; unfold maxLen at this; omega
 obtain ⟨l, dr, nx, lg, sq⟩ := e
 dsimp only [EdP.val, cutE] at hn hd hmx1 ⊢
 refine Fn.enter Tryz.func8 rfl Tryz.ntmps8 (by rfl) ?_
 intro w0
 refine go [3,4] ?_
 refine Ls.does (some 1) (Does.box rfl (by rfl)) (by rfl) (by rfl) ?_
 intro g1 _
 refine Ls.does (some 2) (Does.alloc (cs := [.slice none 0 0, .slice none 0 0, .int .i64 0, .int .i64 0, .int .i64 0]) rfl (ZeroIs.mk (.agg #[.slice none 0 0, .slice none 0 0, .int .i64 0, .int .i64 0, .int .i64 0]) (by kernel_rfl) (by rfl))) (by rfl) (by rfl) ?_
 intro g2 _
 refine go [25] ?_
 refine Ls.does (some 3) (Does.lit0 (sz := 4) rfl Tryz.underlying22 (by kernel_rfl)) (by rfl) (by rfl) ?_
 intro g3 _
 refine go [7,0,8,2,7,0,8,2] ?_
 refine Ls.qE 8 (Ev.len rfl (by rfl) Tryz.underlying22) ?_
 refine Ls.qE 9 (Ev.minN (m := min l.length 60) rfl (by rfl) (by rfl) rfl) ?_
 obtain ⟨m, hm⟩ : ∃ m, m = min l.length 60 := ⟨_, rfl⟩
 have hml : (l.take 60).length = m := by rw [List.length_take, hm]; omega
 have hmt : tbs (l.take 60) = (tbs l).take (m * 4) := by
  rw [tbs_take, hm]
  congr 1
  rcases Nat.le_total l.length 60 with h | h
  · rw [Nat.min_eq_left h, List.take_of_length_le h, List.take_length]
  · rw [Nat.min_eq_right h]
 rw [← hm]
 refine Ls.qE 10 (Ev.sliceHn (h := m) (sz := 4) rfl (by rfl) (by rfl) Tryz.underlying22 (by kernel_rfl) (by omega)) ?_
 refine Ls.does (some 11) (Does.app (xs := []) (news := (tbs l).take (m * 4)) 0 rfl (by rfl) (by rfl) (by rfl) (reads_front 3 (by rfl) (by omega)) elem_tb (by rw [← hmt]; exact one_tb _) (show (0 + m) * 48 ≤ 140737488355328 by omega)) (by rfl) (by rfl) ?_
 rintro ⟨qA, qc⟩ -
 have hr1 : row qA (0 + m) qc 42 4 ([] ++ (tbs l).take (m * 4)) = rowTb qA (l.take 60).length qc (l.take 60) := by
  rw [List.nil_append, ← hmt, Nat.zero_add, hml]
 refine go [7,0,15,2,25] ?_
 refine Ls.does (some 13) (Does.lit0 (sz := 1) rfl Tryz.underlying25 (by kernel_rfl)) (by rfl) (by rfl) ?_
 intro g4 _
 refine go [7,1,8,3,7,1,8,3] ?_
 refine Ls.qE 18 (Ev.len rfl (by rfl) Tryz.underlying25) ?_
 obtain ⟨m2, hm2⟩ : ∃ m2, min dr.length 200 = m2 := ⟨_, rfl⟩
 have hml2 : (dr.take 200).length = m2 := by rw [List.length_take, ← hm2]; omega
 have hmt2 : ints (dr.take 200) = (ints dr).take (m2 * 1) := by
  unfold ints
  rw [← List.map_take, ← hm2, Nat.mul_one]
  congr 1
  rcases Nat.le_total dr.length 200 with h | h
  · rw [Nat.min_eq_left h, List.take_of_length_le h, List.take_length]
  · rw [Nat.min_eq_right h]
 refine Ls.qE 19 (Ev.minN rfl (by rfl) (by rfl) hm2) ?_
 refine Ls.qE 20 (Ev.sliceHn (h := m2) (sz := 1) rfl (by rfl) (by rfl) Tryz.underlying25 (by kernel_rfl) (by omega)) ?_
 refine Ls.does (some 21) (Does.app (xs := []) (news := (ints dr).take (m2 * 1)) 0 rfl (by rfl) (by rfl) (by rfl) (reads_front 5 (by rfl) (by omega)) elem_int (by rw [← hmt2]; exact one_ints _) (show (0 + m2) * 8 ≤ 140737488355328 by omega)) (by rfl) (by rfl) ?_
 rintro ⟨rA, rc⟩ -
 have hr2 : row rA (0 + m2) rc 3 1 ([] ++ (ints dr).take (m2 * 1)) = rowI rA (dr.take 200).length rc (dr.take 200) := by
  dsimp only [rowI]
  rw [List.nil_append, ← hmt2, Nat.zero_add, hml2]
 refine go [7,1,15,3,25,12,3,5,15,2,2,22] ?_
 refine Ent.ret (((qA, qc), (rA, rc))) (trivial) (Res.cell 2 (by rfl) (by rfl) (by rfl) (n := 5) (by kernel_rfl) (by rfl) (by rfl)) ?_ [1, 0] (by rfl) ?_
 · dsimp only
   rw [hml, hml2]
   simp only [Nat.zero_add]
   rfl
 · dsimp only
   rw [← hr1, ← hr2]
   rfl
def awT : TbP := ⟨1, 0, [97], [99]⟩
def awE (n : Int) : EdP := ⟨[awT], [], n, 0, 0⟩
def awV : VsP := ⟨[awT], 2, 1, 0⟩
theorem open_new : openP DrP.new = ⟨firstV, 1, false, false⟩ := by
 have hb : ∀ q, DrP.new.bytes q = [] := fun q => rfl
 have hn : nowP DrP.new = [] := by
  unfold nowP
  rw [hb, numK_nil, if_pos (.inl rfl)]
 unfold openP
 rw [hn, hb, show (scanF []).1 = [] from rfl]
 rfl
theorem aw_out (n : Int) (hn : 0 ≤ n) : outP firstV (awE n) = ⟨[awT], max 1 n, 1, 0⟩ := by
 unfold outP
 have h1 : keptT firstV (awE n).drop = [] := rfl
 rw [h1]
 have h2 : sortT ([] ++ (awE n).add) = [awT] := by
  unfold sortT
  simp [awE]
 rw [h2]
 rfl
theorem awV_good : goodP awV := by
 refine ⟨⟨by decide, by decide, by decide, by decide⟩, fun i t h => ?_⟩
 match i, h with
 | 0, h =>
  obtain rfl : awT = t := Option.some.inj h
  exact ⟨⟨.inl rfl, by decide, by decide, by decide, by decide, by decide, by decide⟩, fun j u hj => absurd hj (Nat.not_lt_zero _), fun u h => absurd h (by decide)⟩
 | i + 1, h => simp [awV] at h
theorem aw_no : ¬ FitOk firstV (awE 0) := fun h => by
 have hg := h.out
 rw [aw_out 0 (by decide)] at hg
 have := (hg.tab awT List.mem_cons_self).next
 revert this
 decide
theorem aw_yes : FitOk firstV (awE 2) := by
 refine ⟨firstV_good, ⟨by decide, by decide, by decide⟩, DropOk.nil _, ?_⟩
 rw [aw_out 2 (by decide)]
 exact awV_good
theorem aw_in (n : Int) (hn : 0 ≤ n ∧ n ≤ 100) : EdIn (awE n) where
 add := show 1 ≤ 10000000 by decide
 drl := show 0 ≤ 1000000000 by decide
 fine := fun t ht => by
  rw [List.mem_singleton.1 ht]
  exact ⟨by decide, by decide, by decide, by decide⟩
 ints := fun x hx => absurd hx List.not_mem_nil
 nx := ⟨show (-9223372036854775808 : Int) ≤ n by omega, show n ≤ 9223372036854775807 by omega⟩
 lg := ⟨show (-9223372036854775808 : Int) ≤ 0 by decide, show (0 : Int) ≤ 9223372036854775807 by decide⟩
 sq := ⟨show (-9223372036854775808 : Int) ≤ 0 by decide, show (0 : Int) ≤ 9223372036854775807 by decide⟩
theorem aw_short : (edB (awE 2)).length ≤ 4096 := by
 have h1 := uintL_len64 (n := 0) (by decide)
 have h2 := uintL_len64 (n := 0 + 1) (by decide)
 have h4 := uintL_len64 (n := (2 : Int).toNat) (by decide)
 have h3 := tabB_le (t := awT) ⟨by decide, by decide, by decide, by decide⟩
 unfold edB awE
 simp only [List.length_append, List.flatMap_nil, List.flatMap_cons, List.length_nil, List.length_cons]
 have e0 : (0 : Int).toNat = 0 := rfl
 rw [e0]
 omega
abbrev awL : List UInt8 := nameK kMan 1
theorem run_new (b : List UInt8) (h0 : b ≠ []) (hb : b.length ≤ 262144) : (runP (swapL DrP.new awL b) DrP.new).2 = 0 ∧ 0 < ((runP (swapL DrP.new awL b) DrP.new).1.bytes awL).length := by
 have hg : Good awL := kMan_good 1
 have hs : swapL DrP.new awL b = [fun P => P.append awL b, fun P => P.sync awL, fun P => P.append qTmp awL, fun P => P.sync qTmp, fun P => P.rename qTmp qCur] := rfl
 rw [hs]
 have hbl : 0 < b.length := List.length_pos_iff.2 h0
 obtain ⟨s1, hs1⟩ : ∃ s1, s1 = DrP.new.step.steps := ⟨_, rfl⟩
 have e1 : DrP.new.append awL b = (⟨[⟨awL, b, 0⟩], s1, none⟩, 0) := by
  unfold DrP.append
  rw [if_neg (fun k => k hg), if_neg (fun k => k.elim (fun k => absurd k.2 (by decide)) fun k => (by
   have : (DrP.new.bytes awL).length = 0 := rfl
   omega)), if_neg (show ¬ DrP.new.dead = true by decide), hs1]
  rfl
 have e2 : (⟨[⟨awL, b, 0⟩], s1, none⟩ : DrP).sync awL = (⟨[⟨awL, b, b.length⟩], IntKind.i64.wrap (s1 + 1), none⟩, 0) := rfl
 generalize IntKind.i64.wrap (s1 + 1) = s2 at e2
 have e3 : (⟨[⟨awL, b, b.length⟩], s2, none⟩ : DrP).append qTmp awL = (⟨[⟨qTmp, awL, 0⟩, ⟨awL, b, b.length⟩], IntKind.i64.wrap (s2 + 1), none⟩, 0) := rfl
 generalize IntKind.i64.wrap (s2 + 1) = s3 at e3
 have e4 : (⟨[⟨qTmp, awL, 0⟩, ⟨awL, b, b.length⟩], s3, none⟩ : DrP).sync qTmp = (⟨[⟨qTmp, awL, 15⟩, ⟨awL, b, b.length⟩], IntKind.i64.wrap (s3 + 1), none⟩, 0) := rfl
 generalize IntKind.i64.wrap (s3 + 1) = s4 at e4
 have e5 : (⟨[⟨qTmp, awL, 15⟩, ⟨awL, b, b.length⟩], s4, none⟩ : DrP).rename qTmp qCur = (⟨[⟨qCur, awL, 15⟩, ⟨awL, b, b.length⟩], IntKind.i64.wrap (s4 + 1), none⟩, 0) := rfl
 simp only [runP, e1, e2, e3, e4, e5]
 exact ⟨rfl, hbl⟩
theorem snap_ne {v : VsP} : snapB v ≠ [] := by
 unfold snapB snapE
 rw [List.flatMap_cons]
 intro h
 have h1 := (List.append_eq_nil_iff.1 h).1
 have h2 := congrArg List.length h1
 rw [sealL_length] at h2
 simp at h2
theorem aw_snap : (snapB awV).length ≤ 262144 := by
 have h1 := flat_le (g := fun e => sealL (edB e)) (b := 4110) (l := snapE awV) (fun e he => sealL_le (snap_enc awV_good he).2.2)
 exact Nat.le_trans h1 (by decide)
theorem aw_chg : ∃ Q, chgP DrP.new ⟨firstV, 1, false, false⟩ (awE 2) = (Q, ⟨awV, 1, true, false⟩, 0) ∧ 0 < (Q.bytes awL).length := by
 obtain ⟨h1, h2⟩ := run_new (snapB awV) snap_ne aw_snap
 refine ⟨(runP (swapL DrP.new awL (snapB awV)) DrP.new).1, ?_, h2⟩
 have ho := aw_out 2 (by decide)
 have hv : (⟨[awT], max 1 2, 1, 0⟩ : VsP) = awV := rfl
 rw [hv] at ho
 have hs := aw_short
 unfold chgP
 rw [if_neg (fun k => k aw_yes), if_neg (by omega), if_neg (by decide), if_neg (by decide)]
 dsimp only
 rw [if_neg Bool.false_ne_true, ho, if_neg (fun k => k h1)]
theorem Sat.rdNilT {Γ : Ctx} {H : List Chunk} {w : World} (h : Sat Γ H w) : Sat Γ (rdT none [] :: H) w :=
 h.free rfl (fun k hk => absurd hk.1 (Nat.lt_irrefl 0)) ⟨rfl, fun hn => absurd hn (Nat.lt_irrefl 0)⟩
set_option maxHeartbeats 4000000 in
theorem awake_sl : Fn Tryz.prog 7 #[] [laidC] Unit (fun _ => .bool true) (fun _ => []) (fun _ => True) := by
 obtain ⟨Q, hQ, hQb⟩ := aw_chg
 refine Fn.enter Tryz.func7 rfl Tryz.ntmps7 (by rfl) ?_
 intro w0
 refine go [3,4,5,25] ?_
 refine Ls.does (some 4) (Does.call [0] rfl Tryz.func12 (by kernel_rfl) (by kernel_rfl) (new_sl) (by rfl) (by rfl) (by rfl)) (by rfl) (by rfl) ?_
 rintro D hD
 refine go [5,2,3,3,4,0] ?_
 refine Ls.qE 6 (Ev.ptrNil rfl (by rfl) (by rfl) Tryz.underlying37) ?_
 refine go [2,24,6,3,4,0] ?_
 have hop := mopen_sl hD
 rw [open_new] at hop
 refine Ls.does (some 8) (Does.readN rfl Tryz.func13 (by kernel_rfl) (by kernel_rfl) (hop) (by rfl) (by rfl) ⟨blkIn 0 (by rfl), mapIn 1 (by rfl), filIn 2 (by rfl), laidIn 3 (by rfl), trivial⟩ (fun _ => by rfl)) (by rfl) (by rfl) ?_
 rintro ⟨g, ⟨A, c⟩⟩ -
 dsimp only
 refine go [5,2,3,3,4,0] ?_
 refine Ls.qE 10 (Ev.ptrNil rfl (by rfl) (by rfl) Tryz.underlying39) ?_
 refine Ls.qM 11 ?_
 refine Ent.known 11 false (by rfl) (by exact (rfl)) ?_
 refine Ls.qM 12 ?_
 refine Ls.does (some 13) (Does.readN rfl Tryz.func17 (by kernel_rfl) (by kernel_rfl) (mversion_sl g D.d A c ⟨firstV, 1, false, false⟩ (by decide)) (by rfl) (by rfl) ⟨blkIn 0 (by rfl), ReadsIn.row 1 (by rfl), trivial⟩ (fun _ => by rfl)) (by rfl) (by rfl) ?_
 rintro ⟨qA, qc⟩ -
 refine Ls.does (some 14) (Does.read rfl Tryz.func16 (by kernel_rfl) (by kernel_rfl) (first_sl) (by rfl) (by rfl) trivial) (by rfl) (by rfl) ?_
 rintro _ -
 refine Ent.map (fun w hs => hs.rdNilT) ?_
 refine Ls.does (some 15) (Does.read rfl Tryz.func11 (by kernel_rfl) (by kernel_rfl) (same_sl firstV qA none qc 0 (by decide)) (by rfl) (by rfl) ⟨ReadsIn.row 1 (by rfl), ReadsIn.rd 0 (by rfl), trivial⟩) (by rfl) (by rfl) ?_
 rintro _ -
 refine go [20,10,0] ?_
 refine Ent.known 18 false (by rfl) (by exact (rfl)) ?_
 refine Ls.qM 19 ?_
 refine Ls.does (some 20) (Does.read rfl Tryz.func26 (by kernel_rfl) (by kernel_rfl) (steps_sl hD) (by rfl) (by rfl) ⟨blkIn 4 (by rfl), trivial⟩) (by rfl) (by rfl) ?_
 rintro _ -
 refine go [17,10,2] ?_
 refine Cd.cond_false (by rfl) (decide_eq_false (show ¬ (DrP.new.steps ≠ 0) from fun h => h rfl)) ?_
 refine go [6,3,4] ?_
 refine Ls.qE 23 (Ev.buildP (pl := [(0, 1), (1, 1), (2, 1), (3, 1)]) (zs := [.int .i64 0, .int .i64 0, .string ⟨#[]⟩, .string ⟨#[]⟩]) rfl (by rfl) (by kernel_rfl) (by rfl)) ?_
 refine Ls.does (some 3) (Does.alloc (cs := [.int .i64 0, .int .i64 0, .string ⟨#[]⟩, .string ⟨#[]⟩]) rfl (ZeroIs.mk (.agg #[.int .i64 0, .int .i64 0, .string ⟨#[]⟩, .string ⟨#[]⟩]) (by kernel_rfl) (by rfl))) (by rfl) (by rfl) ?_
 intro g1 _
 refine go [15,0,25,0,12,0,4] ?_
 refine Ls.does (some 26) (Does.lit (sz := 4) rfl (by rfl) Tryz.underlying22 (by kernel_rfl) (by rfl) (by kernel_rfl)) (by rfl) (by rfl) ?_
 intro g2 _
 refine Ls.qE 27 (Ev.buildP (pl := [(0, 1), (1, 1), (2, 1), (3, 1), (4, 1)]) (zs := [.slice none 0 0, .slice none 0 0, .int .i64 0, .int .i64 0, .int .i64 0]) rfl (by rfl) (by kernel_rfl) (by rfl)) ?_
 refine Ent.map (fun w hs => hs.rdNilI) ?_
 refine Ent.see 1 (by rfl) ?_
 have hno : chgP DrP.new ⟨firstV, 1, false, false⟩ (awE 0) = (DrP.new, ⟨firstV, 1, false, false⟩, 80) := by
  unfold chgP
  rw [if_pos aw_no]
 have c1 := mchange_sl hD g A c ⟨firstV, 1, false, false⟩ firstV_good (show 1 ≤ 1000000 by decide) (awE 0) (aw_in 0 (by decide)) (some ⟨g2, 0, none⟩) none 1 0
 rw [hno] at c1
 dsimp only [chgC] at c1
 refine Ls.does (some 28) (Does.call [5, 6, 1, 0, 10, 7, 8, 9, 2, 0, 10] rfl Tryz.func14 (by kernel_rfl) (by kernel_rfl) (c1) (by rfl) (by rfl) (by rfl)) (by rfl) (by rfl) ?_
 rintro ⟨D1, ⟨A1, a1⟩⟩ ⟨hD1, hd1, hm1⟩
 dsimp only at hD1 hd1 hm1 ⊢
 refine go [19,0] ?_
 refine Ent.known 30 true (by rfl) (by exact (decide_eq_true rfl)) ?_
 refine go [0,12,5,4] ?_
 refine Ls.does (some 33) (Does.lit (sz := 4) rfl (by rfl) Tryz.underlying22 (by kernel_rfl) (by rfl) (by kernel_rfl)) (by rfl) (by rfl) ?_; intro g3 _
 refine Ls.qE 34 (Ev.buildP (pl := [(0, 1), (1, 1), (2, 1), (3, 1), (4, 1)]) (zs := [.slice none 0 0, .slice none 0 0, .int .i64 0, .int .i64 0, .int .i64 0]) rfl (by rfl) (by kernel_rfl) (by rfl)) ?_
 refine Ent.see 0 (by rfl) ?_
 have c2 := mchange_sl hD1 g A1 a1 ⟨firstV, 1, false, false⟩ firstV_good (show 1 ≤ 1000000 by decide) (awE 2) (aw_in 2 (by decide)) (some ⟨g3, 0, none⟩) none 1 0
 rw [hQ, hd1] at c2
 dsimp only [chgC] at c2
 refine Ls.does (some 35) (Does.call [1, 2, 0, 7, 8, 3, 4, 5] rfl Tryz.func14 (by kernel_rfl) (by kernel_rfl) (c2) (by rfl) (by rfl) (by rfl)) (by rfl) (by rfl) ?_
 rintro ⟨D2, ⟨A2, a2⟩⟩ ⟨hD2, hd2, hm2⟩
 dsimp only at hD2 hd2 hm2 ⊢
 have hsz := size_sl hD2 awL (by decide)
 have hp2 : D2.ptr = D.ptr := by rw [DrS.ptr, hd2]
 rw [hp2] at hsz
 refine go [19,9,0] ?_
 refine Ent.known 38 true (by rfl) (by exact (decide_eq_true rfl)) ?_
 refine Ls.qM 39 ?_
 refine Ls.does (some 40) (Does.readN rfl Tryz.func17 (by kernel_rfl) (by kernel_rfl) (mversion_sl g D.d A2 a2 ⟨awV, 1, true, false⟩ (by decide)) (by rfl) (by rfl) ⟨blkIn 0 (by rfl), ReadsIn.row 1 (by rfl), trivial⟩ (fun _ => by rfl)) (by rfl) (by rfl) ?_
 rintro ⟨rA, rc⟩ -
 refine Ls.qE 41 (Ev.field (k := 0) rfl (by rfl) Tryz.underlying24 (by rfl) (by kernel_rfl) (by rfl) (by rfl)) ?_
 refine Ls.qE 42 (Ev.len rfl (by rfl) Tryz.underlying22) ?_
 refine go [19,9,0] ?_
 refine Ent.known 45 true (by rfl) (by exact (decide_eq_true rfl)) ?_
 refine Ls.qM 46 ?_
 refine Ls.does (some 47) (Does.read rfl Tryz.func33 (by kernel_rfl) (by kernel_rfl) (hsz) (by rfl) (by rfl) ⟨blkIn 3 (by rfl), mapIn 4 (by rfl), filIn 5 (by rfl), trivial⟩) (by rfl) (by rfl) ?_
 rintro _ -
 refine go [18,9,5,2,22] ?_
 refine Ent.ret (()) (trivial) (Res.tmp (by rfl) (by rfl)) ?_ [] (by rfl) ?_
 · exact congrArg Value.bool (decide_eq_true (show (0 : Int) < ((Q.bytes awL).length : Int) by omega))
 · rfl
def lookP (P : DrP) (q : List UInt8) : Int := if ¬ Good q then 20 else match P.find q with
 | none => 4
 | some _ => if P.dead then 6 else 0
theorem look_ok {P : DrP} {q : List UInt8} (h : lookP P q = 0) : Good q ∧ P.dead = false ∧ ∃ f, P.find q = some f := by
 unfold lookP at h
 split at h
 · cases h
 · rename_i hg
   have hg : Good q := Decidable.not_not.1 hg
   split at h
   · cases h
   · rename_i f hf
     split at h
     · cases h
     · rename_i hd
       exact ⟨hg, by simpa using hd, f, hf⟩
theorem sync_bad {P : DrP} (hok : P.Ok) {q : List UInt8} (h : lookP P q ≠ 0) : P.sync q = (P, lookP P q) := by
 unfold lookP at h ⊢
 unfold DrP.sync
 cases hf : P.find q with
 | none =>
  rw [hf] at h
  by_cases hg : Good q <;> simp [hg]
 | some f =>
  rw [hf] at h
  have hg : Good q := (findG_some hf).2 ▸ hok.good f (findG_some hf).1
  rw [if_neg (show ¬ ¬ Good q from fun e => e hg)] at h ⊢
  dsimp only at h ⊢
  split
  · rfl
  · rename_i hd
    rw [if_neg hd] at h
    exact absurd rfl h
theorem delete_bad {P : DrP} (hok : P.Ok) {q : List UInt8} (h : lookP P q ≠ 0) : P.delete q = (P, lookP P q) := by
 unfold lookP at h ⊢
 unfold DrP.delete
 cases hf : P.find q with
 | none =>
  rw [hf] at h
  by_cases hg : Good q <;> simp [hg]
 | some f =>
  rw [hf] at h
  have hg : Good q := (findG_some hf).2 ▸ hok.good f (findG_some hf).1
  rw [if_neg (show ¬ ¬ Good q from fun e => e hg)] at h ⊢
  dsimp only at h ⊢
  split
  · rfl
  · rename_i hd
    rw [if_neg hd] at h
    exact absurd rfl h
theorem rename_bad {P : DrP} (hok : P.Ok) {q p : List UInt8} (hp : Good p) (h : lookP P q ≠ 0) : P.rename q p = (P, lookP P q) := by
 unfold lookP at h ⊢
 unfold DrP.rename
 rw [if_neg (show ¬ ¬ Good p from fun e => e hp)]
 cases hf : P.find q with
 | none =>
  rw [hf] at h
  by_cases hg : Good q <;> simp [hg]
 | some f =>
  rw [hf] at h
  have hg : Good q := (findG_some hf).2 ▸ hok.good f (findG_some hf).1
  rw [if_neg (show ¬ ¬ Good q from fun e => e hg)] at h ⊢
  dsimp only at h ⊢
  split
  · rfl
  · rename_i hd
    rw [if_neg hd] at h
    exact absurd rfl h
theorem dlook_sl (P : DrP) (hpl : P.fs.length ≤ 256) (A : Option Addr) (c : Nat) (q : List UInt8) (hq : q.length ≤ 1048576) : Fn Tryz.prog 116 #[.agg (P.val A c).toArray, .string (txt q)] [rdF A P.fs] Unit (fun _ => .int .i64 (lookP P q)) (fun _ => []) (fun _ => True) := by
 have hat := dat_sl P A c q (by omega)
 have hde := ddead_sl P A c
 have hVe : P.val A c = [.slice A P.fs.length c, .int .i64 P.steps, .bool P.left.isSome, .int .i64 ((P.left.getD 0 : Nat) : Int)] := rfl
 rw [hVe] at hat hde ⊢
 unfold lookP
 refine Fn.enter Tryz.func116 rfl Tryz.ntmps116 (by rfl) ?_
 intro w0
 refine go [3,4] ?_
 refine Ls.does (some 2) (Does.box rfl (by rfl)) (by rfl) (by rfl) ?_
 intro g1 _
 refine go [5,2,3,3,4,0] ?_
 refine Ls.does (some 6) (Does.read rfl Tryz.func62 (by kernel_rfl) (by kernel_rfl) (dname_sl q hq) (by rfl) (by rfl) trivial) (by rfl) (by rfl) ?_
 rintro _ -
 refine go [20,2] ?_
 by_cases hg : Good q
 rotate_left
 · rw [decide_eq_false hg, if_pos hg]
   refine go [23,3,4,5,2,22] ?_
   exact Ent.rA (()) [] trivial rT_
 · rw [decide_eq_true hg, if_neg (fun h => h hg)]
   refine go [24,6,3,3,4,12,0,4,0] ?_
   refine Ls.does (some 10) (Does.read rfl Tryz.func63 (by kernel_rfl) (by kernel_rfl) (hat) (by rfl) (by rfl) ⟨ReadsIn.rd 1 (by rfl), trivial⟩) (by rfl) (by rfl) ?_
   rintro r hr
   refine go [16,2] ?_
   cases hfd : P.find q with
   | none =>
    obtain rfl := at_miss hr hfd
    refine Cd.cond_true (by rfl) (decide_eq_true (show (-1 : Int) < 0 by decide)) ?_
    refine go [3,4,5,2,22] ?_
    exact Ent.rA (()) [] trivial rT_
   | some f =>
    obtain ⟨m, rfl, hm⟩ := at_hit hr hfd
    refine Cd.cond_false (by rfl) (decide_eq_false (show ¬ ((m : Int) < 0) by omega)) ?_
    refine go [6,3,3,4,12,0,4] ?_
    refine Ls.does (some 13) (Does.read rfl Tryz.func76 (by kernel_rfl) (by kernel_rfl) (hde) (by rfl) (by rfl) trivial) (by rfl) (by rfl) ?_
    rintro _ -
    refine Ls.nil ?_
    cases hd : P.dead with
    | true =>
     refine go [23,3,4,5,2,22] ?_
     exact Ent.rA (()) [] trivial rT_
    | false =>
     refine go [24,6,3,4,5,2,22] ?_
     exact Ent.rA (()) [] trivial rT_
theorem dwithout_sl (P : DrP) (hn : P.fs.length ≤ 1000000) (A : Option Addr) (c : Nat) (q : List UInt8) : Fn Tryz.prog 141 #[.agg (P.val A c).toArray, .string (txt q)] [rdF A P.fs] (Option Addr × Nat) (fun p => .agg ((P.without q).val p.1 p.2).toArray) (fun p => [rowF p.1 p.2 (P.without q).fs]) (fun _ => True) := by
 obtain ⟨fs, steps, left⟩ := P
 dsimp only [DrP.val, DrP.without] at hn ⊢
 have hdel : delG FiP.nm q fs = fs.filter fun x => decide (x.nm ≠ q) := rfl
 rw [hdel]
 refine Fn.enter Tryz.func141 rfl Tryz.ntmps141 (by rfl) ?_
 intro w0
 refine go [3,4] ?_
 refine Ls.does (some 2) (Does.box rfl (by rfl)) (by rfl) (by rfl) ?_
 intro g1 _
 refine Ls.does (some 4) (Does.alloc (cs := [.slice none 0 0, .int .i64 0, .bool false, .int .i64 0]) rfl (ZeroIs.mk (.agg #[.slice none 0 0, .int .i64 0, .bool false, .int .i64 0]) (by kernel_rfl) (by rfl))) (by rfl) (by rfl) ?_
 intro g2 _
 refine go [25,5,2,3,3,4,5,2,21] ?_
 refine Ent.nil 116 3 ?_
 refine Ent.pick [0, 2, 1, 3] (by rfl) ?_
 refine Cd.loop (ι := Nat × (Option Addr × Nat) × List FiP) (fun p => [(1, .string (txt q)), (2, ptrW g1), (4, ptrW g2), (5, .slice p.2.1.1 p.2.2.length p.2.1.2), (6, .int .i64 p.1)]) (fun p => [rowF p.2.1.1 p.2.1.2 p.2.2, blk g1 55 [.slice A fs.length c, .int .i64 steps, .bool left.isSome, .int .i64 ((left.getD 0 : Nat) : Int)], blk g2 55 [.slice none 0 0, .int .i64 0, .bool false, .int .i64 0], rdF A fs]) (fun p => p.1 ≤ fs.length ∧ p.2.2 = (fs.take p.1).filter (fun x => decide (x.nm ≠ q))) (fun p => fs.length - p.1) ((0, (none, 0), [])) (⟨Nat.zero_le _, rfl⟩) ?_ rfl ?_
 · (repeat (first | exact trivial | refine ⟨by rfl, ?_⟩))
 rintro ⟨k, ⟨wA, wc⟩, l⟩ ⟨hk, hl⟩
 dsimp only at hk hl ⊢
 have hll : l.length ≤ fs.length := by
  rw [hl]
  exact Nat.le_trans (List.length_filter_le _ _) (by rw [List.length_take]; omega)
 refine go [3,3,4,0,7,0,8,1] ?_
 refine Ls.qE 10 (Ev.len rfl (by rfl) Tryz.underlying53) ?_
 refine go [16,2] ?_
 refine Cd.cond _ (by rfl) (fun h => ?_) (fun h => ?_)
 · have hlt : k < fs.length := by have := of_decide_eq_true h; omega
   obtain ⟨x, hx⟩ := get_of_lt hlt
   have htk : fs.take (k + 1) = fs.take k ++ [x] := by rw [List.take_add_one, hx]; rfl
   refine Ent.rdSome 3 (by rfl) (by omega) (fun ad had => ?_)
   subst had
   refine go [6,3,21,3,4,7,0,8,1,0] ?_
   refine Ls.qE 17 (Ev.indexAt (sz := 3) rfl (by rfl) (by rfl) Tryz.underlying53 (by kernel_rfl) (by omega)) ?_
   refine Ls.qE 18 (Ev.fieldAddrE0 (k := 0) rfl (by rfl) (by kernel_rfl)) ?_
   refine Ls.qE 19 (Ev.loadElF rfl (by rfl) (ReadsIn.rd 3 (by rfl)) (by kernel_rfl) (by intro _; rfl) (by assumption) (by rfl)) ?_
   refine Ls.qM 20 ?_
   refine Ls.qE 21 (Ev.neqS rfl (by rfl) (by rfl)) ?_
   refine Ls.nil ?_
   by_cases hxq : x.nm = q
   · refine Cd.cond_false (by rfl) (decide_eq_false (show ¬ (txt x.nm ≠ txt q) from fun h => h (txt_eq_iff.2 hxq))) ?_
     refine go [6,4,0] ?_
     refine Ls.qE 13 (Ev.addN (b := 1) rfl (by rfl) (by rfl) (by omega)) ?_
     refine go [5,2] ?_
     refine Ent.iA ((k + 1, (wA, wc), l)) ?_
     (try dsimp only); exact ⟨⟨hlt, by rw [htk, List.filter_append, hl, List.filter_cons_of_neg (by simp [hxq])]; simp⟩, by omega⟩
   · refine Cd.cond_true (by rfl) (decide_eq_true (show txt x.nm ≠ txt q from fun e => hxq (txt_eq_iff.1 e))) ?_
     refine go [4,0,7,0,8,1,0] ?_
     refine Ls.qE 26 (Ev.indexAt (sz := 3) rfl (by rfl) (by rfl) Tryz.underlying53 (by kernel_rfl) (by omega)) ?_
     refine Ls.qE 27 (Ev.loadEl (enc := FiP.enc) (sz := 3) rfl (by rfl) (ReadsIn.rd 3 (by rfl)) (by kernel_rfl) (fun _ => rfl) hx) ?_
     refine Ls.does (some 28) (Does.lit (sz := 3) rfl (by rfl) Tryz.underlying53 (by kernel_rfl) (by rfl) (by kernel_rfl)) (by rfl) (by rfl) ?_
     intro g3 _
     refine Ls.does (some 29) (Does.app (xs := l.flatMap FiP.enc) (news := x.enc) 1 rfl (by rfl) (by rfl) (by rfl) (ReadsIn.row 0 (by rfl)) elem_fi (by simpa using one_fi [x]) (show (l.length + 1) * 40 ≤ 140737488355328 by omega)) (by rfl) (by rfl) ?_
     rintro p -
     rw [rowF_snoc p.1 p.2 l x]
     refine go [5,2,4,0] ?_
     refine Ls.qE 13 (Ev.addN (b := 1) rfl (by rfl) (by rfl) (by omega)) ?_
     refine go [5,2] ?_
     refine Ent.pick [1, 2, 3, 4] (by rfl) ?_
     refine Ent.inv ((k + 1, p, l ++ [x])) ?_ ?_ ?_
     · (try dsimp only); exact ⟨⟨hlt, by rw [htk, List.filter_append, hl, List.filter_cons_of_pos (by simp [hxq])]; rfl⟩, by omega⟩
     · (repeat (first | exact trivial | refine ⟨by rfl, ?_⟩ | refine ⟨by simp only [lenS]; rfl, ?_⟩ | refine ⟨by push_cast; rfl, ?_⟩ | refine ⟨by (show some (Value.slice _ _ _) = some (Value.slice _ _ _); rw [List.length_append]; rfl), ?_⟩))
     · rfl
 · have hge : fs.length ≤ k := by have := of_decide_eq_false h; omega
   rw [List.take_of_length_le hge] at hl
   subst hl
   refine Cd.exit ?_
   refine go [3,4,0,7,0,15,1,25,12,1,4,15,2,2,22] ?_
   exact Ent.rA ((wA, wc)) [0] trivial (Res.cell 2 (by rfl) (by rfl) (by rfl) (n := 4) (by kernel_rfl) (by rfl) (by rfl))
set_option maxHeartbeats 1000000 in
theorem dsync_sl (P : DrP) (hok : P.Ok) (A : Option Addr) (c : Nat) (q : List UInt8) (hq : q.length ≤ 1048576) : Fn Tryz.prog 73 #[.agg (P.val A c).toArray, .string (txt q)] [rdF A P.fs] (Option Addr × Nat) (fun p => .tuple #[.agg ((P.sync q).1.val p.1 p.2).toArray, .int .i64 (P.sync q).2]) (fun p => [rdF p.1 (P.sync q).1.fs]) (fun _ => True) := by
 have hpl := hok.len
 obtain ⟨R, hR⟩ : ∃ R, R = P.sync q := ⟨_, rfl⟩
 rw [← hR]
 have hlk := dlook_sl P hpl A c q hq
 have hat := dat_sl P A c q (by omega)
 have hst := fun hd => dstep_sl P hok hd A c
 have hVe : P.val A c = [.slice A P.fs.length c, .int .i64 P.steps, .bool P.left.isSome, .int .i64 ((P.left.getD 0 : Nat) : Int)] := rfl
 rw [hVe] at hlk hat hst ⊢
 refine Fn.enter Tryz.func73 rfl Tryz.ntmps73 (by rfl) ?_
 intro w0
 refine go [3,4] ?_
 refine Ls.does (some 2) (Does.box rfl (by rfl)) (by rfl) (by rfl) ?_
 intro g1 _
 refine Ls.does (some 4) (Does.alloc (cs := [.slice none 0 0, .int .i64 0, .bool false, .int .i64 0]) rfl (ZeroIs.mk (.agg #[.slice none 0 0, .int .i64 0, .bool false, .int .i64 0]) (by kernel_rfl) (by rfl))) (by rfl) (by rfl) ?_
 intro g2 _
 refine go [5,25,12,1,4,0] ?_
 refine Ls.does (some 10) (Does.read rfl Tryz.func116 (by kernel_rfl) (by kernel_rfl) (hlk) (by rfl) (by rfl) ⟨ReadsIn.rd 2 (by rfl), trivial⟩) (by rfl) (by rfl) ?_
 rintro _ -
 refine go [5,2,3,3,4,0,17,2] ?_
 by_cases hz : lookP P q = 0
 rotate_left
 · rw [sync_bad hok hz] at hR
   subst hR
   refine Cd.cond_true (by rfl) (decide_eq_true hz) ?_
   refine go [3,4,12,1,4,0,15,0,5,2,22] ?_
   exact Ent.rA ((A, c)) [2] trivial (Res.cell_tmp 0 (by rfl) (by rfl) (by rfl) (n := 4) (by kernel_rfl) (by rfl) (by rfl) (by rfl))
 · obtain ⟨hg, hd, f, hfd⟩ := look_ok hz
   have hn0 : 0 < P.fs.length := List.length_pos_of_mem (findG_some hfd).1
   have hR2 : R = (P.step.put { f with sy := f.b.length }, 0) := by
    rw [hR, DrP.sync, hfd]
    dsimp only
    rw [if_neg (by rw [hd]; decide)]
   subst hR2
   have hfs : (txt f.b).size = f.b.length := rfl
   have hst := hst hd
   refine Cd.cond_false (by rfl) (decide_eq_false (show ¬ (lookP P q ≠ 0) from fun h => h hz)) ?_
   refine Ent.rdSome 2 (by rfl) hn0 (fun ad had => ?_)
   subst had
   refine go [6,3] ?_
   refine Cd.draw [8] (by kernel_rfl) ?_
   refine Rg.qE 0 15 (by rfl) (Ev.fieldAddr (k := 0) rfl (by rfl) (by kernel_rfl) (by rfl)) ?_
   refine Rg.qE 1 16 (by rfl) (Ev.load 1 rfl (by rfl) (by rfl) (by kernel_rfl) (by rfl)) ?_
   refine Rg.qE 2 17 (by rfl) (Ev.loads 1 rfl (by rfl) (by rfl) (n := 4) (by kernel_rfl) (by rfl) (by rfl)) ?_
   refine Rg.qE 3 18 (by rfl) (Ev.move rfl (by rfl)) ?_
   refine Rg.float1 7 (ι := Nat) (some 7) (fun g => ptrW g) (fun g => blk g 116 [.string ⟨#[]⟩, .string ⟨#[]⟩, .int .i64 0]) ?_
   refine RgF.does 4 (by rfl) (by rfl) (.inr (by kernel_rfl)) (by kernel_rfl) (Does.alloc (cs := [.string ⟨#[]⟩, .string ⟨#[]⟩, .int .i64 0]) rfl (ZeroIs.mk (.agg #[.string ⟨#[]⟩, .string ⟨#[]⟩, .int .i64 0]) (by kernel_rfl) (by rfl))) (by rfl) (some 7) (by rfl) (fun _ => by repeat (first | exact trivial | refine ⟨by rfl, ?_⟩ | refine ⟨by simp only [List.length_append, List.length_cons, List.length_nil]; rfl, ?_⟩ | refine ⟨by push_cast; rfl, ?_⟩)) (by exact fun _ _ h => h.last) (by exact fun _ _ h => h.pick [0, 1, 2] (by rfl)) (Does.read rfl Tryz.func63 (by kernel_rfl) (by kernel_rfl) (hat) (by rfl) (by rfl) ⟨ReadsIn.rd 2 (by rfl), trivial⟩) (by rfl) (some 19) (by rfl) (by exact fun _ _ h => h.pick [0, 1, 2] (by rfl)) (fun _ => Does.read rfl Tryz.func63 (by kernel_rfl) (by kernel_rfl) (hat) (by rfl) (by rfl) ⟨ReadsIn.rd 2 (by rfl), trivial⟩) (fun _ => by rfl) (by exact fun _ _ _ h => h.pick [0, 1, 2] (by rfl)) ?_
   rintro r hr
   obtain ⟨m, rfl, hm⟩ := at_hit hr hfd
   have hml := (List.getElem?_eq_some_iff.1 hm).1
   refine RgF.ev 5 (by rfl) (by exact fun _ h => h.pick [0, 1, 2] (by rfl)) (by exact fun _ _ h => h.pick [0, 1, 2] (by rfl)) (Ev.indexAt (sz := 3) rfl (by rfl) (by rfl) Tryz.underlying53 (by kernel_rfl) (by omega)) (fun _ => Ev.indexAt (sz := 3) rfl (by rfl) (by rfl) Tryz.underlying53 (by kernel_rfl) (by omega)) (by rfl) (fun _ => by rfl) (some 20) (by rfl) (by kernel_rfl) (by kernel_rfl) (by kernel_rfl) (by kernel_rfl) ?_
   refine RgF.ev 6 (by rfl) (by exact fun _ h => h.pick [0, 1, 2] (by rfl)) (by exact fun _ _ h => h.pick [0, 1, 2] (by rfl)) (Ev.loadEl (enc := FiP.enc) (sz := 3) rfl (by rfl) (ReadsIn.rd 2 (by rfl)) (by kernel_rfl) (fun _ => rfl) hm) (fun _ => Ev.loadEl (enc := FiP.enc) (sz := 3) rfl (by rfl) (ReadsIn.rd 2 (by rfl)) (by kernel_rfl) (fun _ => rfl) hm) (by rfl) (fun _ => by rfl) (some 21) (by rfl) (by kernel_rfl) (by kernel_rfl) (by kernel_rfl) (by kernel_rfl) ?_
   refine RgF.land (by rfl) (by kernel_rfl) (Does.alloc (cs := [.string ⟨#[]⟩, .string ⟨#[]⟩, .int .i64 0]) rfl (ZeroIs.mk (.agg #[.string ⟨#[]⟩, .string ⟨#[]⟩, .int .i64 0]) (by kernel_rfl) (by rfl))) (by rfl) (some 7) (by rfl) (fun _ => by repeat (first | exact trivial | refine ⟨by rfl, ?_⟩ | refine ⟨by simp only [List.length_append, List.length_cons, List.length_nil]; rfl, ?_⟩ | refine ⟨by push_cast; rfl, ?_⟩)) (by exact fun _ _ h => h.last) (by exact fun _ _ h => h.pick [0, 1, 2] (by rfl)) ?_
   intro g3
   refine Rg.one 8 (by kernel_rfl) ?_
   refine RgO.tail 8 (by rfl) (Does.store 3 rfl (by rfl) (by rfl) (by rfl) (by kernel_rfl) (by rfl) (by kernel_rfl) (by rfl)) (by rfl) none (by rfl) (by kernel_rfl) (by kernel_rfl) ?_
   intro _ _
   refine Rg.done (by kernel_rfl) ?_ _
   refine go [3,4,7,1,8,3] ?_
   refine Ls.qE 24 (Ev.lenS rfl (by rfl) Tryz.underlying9) ?_
   refine go [7,2,15,3,2,3] ?_
   refine Cd.draw [4] (by kernel_rfl) ?_
   refine Rg.qE 0 26 (by rfl) (Ev.loads 1 rfl (by rfl) (by rfl) (n := 4) (by kernel_rfl) (by rfl) (by rfl)) ?_
   refine Rg.qE 2 28 (by rfl) (Ev.loads 3 rfl (by rfl) (by rfl) (n := 3) (by kernel_rfl) (by rfl) (by rfl)) ?_
   refine Rg.does 1 (by rfl) (by kernel_rfl) (Does.read rfl Tryz.func114 (by kernel_rfl) (by kernel_rfl) (hst) (by rfl) (by rfl) trivial) (by rfl) (some 27) (by rfl) (by exact fun _ _ h => h) ?_
   rintro _ -
   refine Rg.does 3 (by rfl) (by kernel_rfl) (Does.readN rfl Tryz.func64 (by kernel_rfl) (by kernel_rfl) (dwith_sl P.step hok.rise (show P.fs.length ≤ 1000000 by omega) (some ad) c { f with sy := f.b.length }) (by rfl) (by rfl) ⟨ReadsIn.rd 2 (by rfl), trivial⟩ (fun _ => by rfl)) (by rfl) (some 29) (by rfl) (fun _ _ h => h.tail_) ?_
   rintro ⟨wA, wc⟩ -
   dsimp only
   refine Rg.tail 4 [] (by rfl) (by kernel_rfl) (Does.store 1 rfl (by rfl) (by rfl) (by rfl) (by kernel_rfl) (by rfl) (by kernel_rfl) (by rfl)) (by rfl) none (by rfl) (by kernel_rfl) (by kernel_rfl) ?_
   intro _ _
   refine Rg.qE 5 5 (by rfl) (Ev.assign rfl (by rfl)) ?_
   refine Rg.done (by kernel_rfl) ?_ _
   refine Ent.see 0 (by rfl) ?_
   refine Cd.ret ?_
   exact Ent.rA ((wA, wc)) [0] trivial (Res.cell_tmp 1 (by rfl) (by rfl) (by rfl) (n := 4) (by kernel_rfl) (by rfl) (by rfl) (by rfl))
set_option maxHeartbeats 1000000 in
theorem ddelete_sl (P : DrP) (hok : P.Ok) (A : Option Addr) (c : Nat) (q : List UInt8) (hq : q.length ≤ 1048576) : Fn Tryz.prog 117 #[.agg (P.val A c).toArray, .string (txt q)] [rdF A P.fs] (Option Addr × Nat) (fun p => .tuple #[.agg ((P.delete q).1.val p.1 p.2).toArray, .int .i64 (P.delete q).2]) (fun p => [rdF p.1 (P.delete q).1.fs]) (fun _ => True) := by
 have hpl := hok.len
 obtain ⟨R, hR⟩ : ∃ R, R = P.delete q := ⟨_, rfl⟩
 rw [← hR]
 have hlk := dlook_sl P hpl A c q hq
 have hst := fun hd => dstep_sl P hok hd A c
 have hVe : P.val A c = [.slice A P.fs.length c, .int .i64 P.steps, .bool P.left.isSome, .int .i64 ((P.left.getD 0 : Nat) : Int)] := rfl
 rw [hVe] at hlk hst ⊢
 refine Fn.enter Tryz.func117 rfl Tryz.ntmps117 (by rfl) ?_
 intro w0
 refine go [3,4] ?_
 refine Ls.does (some 2) (Does.box rfl (by rfl)) (by rfl) (by rfl) ?_
 intro g1 _
 refine Ls.does (some 4) (Does.alloc (cs := [.slice none 0 0, .int .i64 0, .bool false, .int .i64 0]) rfl (ZeroIs.mk (.agg #[.slice none 0 0, .int .i64 0, .bool false, .int .i64 0]) (by kernel_rfl) (by rfl))) (by rfl) (by rfl) ?_
 intro g2 _
 refine go [5,25,12,1,4,0] ?_
 refine Ls.does (some 9) (Does.read rfl Tryz.func116 (by kernel_rfl) (by kernel_rfl) (hlk) (by rfl) (by rfl) ⟨ReadsIn.rd 2 (by rfl), trivial⟩) (by rfl) (by rfl) ?_
 rintro _ -
 refine go [5,2,3,3,4,0,17,2] ?_
 by_cases hz : lookP P q = 0
 rotate_left
 · rw [delete_bad hok hz] at hR
   subst hR
   refine Cd.cond_true (by rfl) (decide_eq_true hz) ?_
   refine go [3,4,12,1,4,0,15,0,5,2,22] ?_
   exact Ent.rA ((A, c)) [2] trivial (Res.cell_tmp 0 (by rfl) (by rfl) (by rfl) (n := 4) (by kernel_rfl) (by rfl) (by rfl) (by rfl))
 · obtain ⟨hg, hd, f, hfd⟩ := look_ok hz
   have hR2 : R = (P.step.without q, 0) := by
    rw [hR, DrP.delete, hfd]
    dsimp only
    rw [if_neg (by rw [hd]; decide)]
   subst hR2
   have hst := hst hd
   refine Cd.cond_false (by rfl) (decide_eq_false (show ¬ (lookP P q ≠ 0) from fun h => h hz)) ?_
   refine go [6,3,4,12,1,4] ?_
   refine Ls.does (some 15) (Does.read rfl Tryz.func114 (by kernel_rfl) (by kernel_rfl) (hst) (by rfl) (by rfl) trivial) (by rfl) (by rfl) ?_
   rintro _ -
   refine Ls.qM 16 ?_
   refine Ls.does (some 17) (Does.readN rfl Tryz.func141 (by kernel_rfl) (by kernel_rfl) (dwithout_sl P.step (show P.fs.length ≤ 1000000 by omega) A c q) (by rfl) (by rfl) ⟨ReadsIn.rd 2 (by rfl), trivial⟩ (fun _ => by rfl)) (by rfl) (by rfl) ?_
   rintro ⟨wA, wc⟩ -
   dsimp only
   refine go [15,1,5,2] ?_
   refine Ent.see 0 (by rfl) ?_
   refine Cd.ret ?_
   exact Ent.rA ((wA, wc)) [0] trivial (Res.cell_tmp 1 (by rfl) (by rfl) (by rfl) (n := 4) (by kernel_rfl) (by rfl) (by rfl) (by rfl))
set_option maxHeartbeats 1000000 in
theorem drename_sl (P : DrP) (hok : P.Ok) (A : Option Addr) (c : Nat) (q p : List UInt8) (hq : q.length ≤ 1048576) (hp : p.length ≤ 1048576) : Fn Tryz.prog 118 #[.agg (P.val A c).toArray, .string (txt q), .string (txt p)] [rdF A P.fs] (Option Addr × Nat) (fun r => .tuple #[.agg ((P.rename q p).1.val r.1 r.2).toArray, .int .i64 (P.rename q p).2]) (fun r => [rdF r.1 (P.rename q p).1.fs]) (fun _ => True) := by
 have hpl := hok.len
 obtain ⟨R, hR⟩ : ∃ R, R = P.rename q p := ⟨_, rfl⟩
 rw [← hR]
 have hlk := dlook_sl P hpl A c q hq
 have hat := dat_sl P A c q (by omega)
 have hst := fun hd => dstep_sl P hok hd A c
 have hVe : P.val A c = [.slice A P.fs.length c, .int .i64 P.steps, .bool P.left.isSome, .int .i64 ((P.left.getD 0 : Nat) : Int)] := rfl
 rw [hVe] at hlk hat hst ⊢
 refine Fn.enter Tryz.func118 rfl Tryz.ntmps118 (by rfl) ?_
 intro w0
 refine go [3,4] ?_
 refine Ls.does (some 3) (Does.box rfl (by rfl)) (by rfl) (by rfl) ?_
 intro g1 _
 refine Ls.does (some 6) (Does.alloc (cs := [.slice none 0 0, .int .i64 0, .bool false, .int .i64 0]) rfl (ZeroIs.mk (.agg #[.slice none 0 0, .int .i64 0, .bool false, .int .i64 0]) (by kernel_rfl) (by rfl))) (by rfl) (by rfl) ?_
 intro g2 _
 refine go [5,2,3,3,4,0] ?_
 refine Ls.does (some 11) (Does.read rfl Tryz.func62 (by kernel_rfl) (by kernel_rfl) (dname_sl p hp) (by rfl) (by rfl) trivial) (by rfl) (by rfl) ?_
 rintro _ -
 refine go [20,2] ?_
 by_cases hgp : Good p
 rotate_left
 · have hR2 : R = (P, 20) := by rw [hR, DrP.rename, if_pos hgp]
   subst hR2
   rw [decide_eq_false hgp]
   refine go [23,3,4,12,1,4,15,0,5,2,22] ?_
   exact Ent.rA ((A, c)) [2] trivial (Res.cell_tmp 0 (by rfl) (by rfl) (by rfl) (n := 4) (by kernel_rfl) (by rfl) (by rfl) (by rfl))
 rw [decide_eq_true hgp]
 refine go [24,6,3,4,12,1,4,0] ?_
 refine Ls.does (some 16) (Does.read rfl Tryz.func116 (by kernel_rfl) (by kernel_rfl) (hlk) (by rfl) (by rfl) ⟨ReadsIn.rd 2 (by rfl), trivial⟩) (by rfl) (by rfl) ?_
 rintro _ -
 refine go [5,2,3,3,4,0,17,2] ?_
 by_cases hz : lookP P q = 0
 rotate_left
 · rw [rename_bad hok hgp hz] at hR
   subst hR
   refine Cd.cond_true (by rfl) (decide_eq_true hz) ?_
   refine go [3,4,12,1,4,0,15,0,5,2,22] ?_
   exact Ent.rA ((A, c)) [2] trivial (Res.cell_tmp 0 (by rfl) (by rfl) (by rfl) (n := 4) (by kernel_rfl) (by rfl) (by rfl) (by rfl))
 · obtain ⟨hg, hd, f, hfd⟩ := look_ok hz
   have hn0 : 0 < P.fs.length := List.length_pos_of_mem (findG_some hfd).1
   have hR2 : R = (((P.step.without q).put { f with nm := p }), 0) := by
    rw [hR, DrP.rename, if_neg (fun k => k hgp), hfd]
    dsimp only
    rw [if_neg (by rw [hd]; decide)]
   have hpp : ((P.step.without q).without p).put { f with nm := p } = (P.step.without q).put { f with nm := p } := by
    unfold DrP.put
    congr 1
    exact putG_del (nm := FiP.nm) (f := { f with nm := p }) (hok.step.without q).rise
   rw [← hpp] at hR2
   subst hR2
   have hst := hst hd
   have hl1 : (P.step.without q).fs.length ≤ 256 := (hok.step.without q).len
   have hl2 : ((P.step.without q).without p).fs.length ≤ 256 := ((hok.step.without q).without p).len
   refine Cd.cond_false (by rfl) (decide_eq_false (show ¬ (lookP P q ≠ 0) from fun h => h hz)) ?_
   refine Ent.rdSome 2 (by rfl) hn0 (fun ad had => ?_)
   subst had
   refine go [6,3] ?_
   refine Cd.draw [8] (by kernel_rfl) ?_
   refine Rg.qE 0 21 (by rfl) (Ev.fieldAddr (k := 0) rfl (by rfl) (by kernel_rfl) (by rfl)) ?_
   refine Rg.qE 1 22 (by rfl) (Ev.load 1 rfl (by rfl) (by rfl) (by kernel_rfl) (by rfl)) ?_
   refine Rg.qE 2 23 (by rfl) (Ev.loads 1 rfl (by rfl) (by rfl) (n := 4) (by kernel_rfl) (by rfl) (by rfl)) ?_
   refine Rg.qE 3 24 (by rfl) (Ev.move rfl (by rfl)) ?_
   refine Rg.float1 7 (ι := Nat) (some 9) (fun g => ptrW g) (fun g => blk g 116 [.string ⟨#[]⟩, .string ⟨#[]⟩, .int .i64 0]) ?_
   refine RgF.does 4 (by rfl) (by rfl) (.inr (by kernel_rfl)) (by kernel_rfl) (Does.alloc (cs := [.string ⟨#[]⟩, .string ⟨#[]⟩, .int .i64 0]) rfl (ZeroIs.mk (.agg #[.string ⟨#[]⟩, .string ⟨#[]⟩, .int .i64 0]) (by kernel_rfl) (by rfl))) (by rfl) (some 9) (by rfl) (fun _ => by repeat (first | exact trivial | refine ⟨by rfl, ?_⟩ | refine ⟨by simp only [List.length_append, List.length_cons, List.length_nil]; rfl, ?_⟩ | refine ⟨by push_cast; rfl, ?_⟩)) (by exact fun _ _ h => h.last) (by exact fun _ _ h => h.pick [0, 1, 2] (by rfl)) (Does.read rfl Tryz.func63 (by kernel_rfl) (by kernel_rfl) (hat) (by rfl) (by rfl) ⟨ReadsIn.rd 2 (by rfl), trivial⟩) (by rfl) (some 25) (by rfl) (by exact fun _ _ h => h.pick [0, 1, 2] (by rfl)) (fun _ => Does.read rfl Tryz.func63 (by kernel_rfl) (by kernel_rfl) (hat) (by rfl) (by rfl) ⟨ReadsIn.rd 2 (by rfl), trivial⟩) (fun _ => by rfl) (by exact fun _ _ _ h => h.pick [0, 1, 2] (by rfl)) ?_
   rintro r hr
   obtain ⟨m, rfl, hm⟩ := at_hit hr hfd
   have hml := (List.getElem?_eq_some_iff.1 hm).1
   refine RgF.ev 5 (by rfl) (by exact fun _ h => h.pick [0, 1, 2] (by rfl)) (by exact fun _ _ h => h.pick [0, 1, 2] (by rfl)) (Ev.indexAt (sz := 3) rfl (by rfl) (by rfl) Tryz.underlying53 (by kernel_rfl) (by omega)) (fun _ => Ev.indexAt (sz := 3) rfl (by rfl) (by rfl) Tryz.underlying53 (by kernel_rfl) (by omega)) (by rfl) (fun _ => by rfl) (some 26) (by rfl) (by kernel_rfl) (by kernel_rfl) (by kernel_rfl) (by kernel_rfl) ?_
   refine RgF.ev 6 (by rfl) (by exact fun _ h => h.pick [0, 1, 2] (by rfl)) (by exact fun _ _ h => h.pick [0, 1, 2] (by rfl)) (Ev.loadEl (enc := FiP.enc) (sz := 3) rfl (by rfl) (ReadsIn.rd 2 (by rfl)) (by kernel_rfl) (fun _ => rfl) hm) (fun _ => Ev.loadEl (enc := FiP.enc) (sz := 3) rfl (by rfl) (ReadsIn.rd 2 (by rfl)) (by kernel_rfl) (fun _ => rfl) hm) (by rfl) (fun _ => by rfl) (some 27) (by rfl) (by kernel_rfl) (by kernel_rfl) (by kernel_rfl) (by kernel_rfl) ?_
   refine RgF.land (by rfl) (by kernel_rfl) (Does.alloc (cs := [.string ⟨#[]⟩, .string ⟨#[]⟩, .int .i64 0]) rfl (ZeroIs.mk (.agg #[.string ⟨#[]⟩, .string ⟨#[]⟩, .int .i64 0]) (by kernel_rfl) (by rfl))) (by rfl) (some 9) (by rfl) (fun _ => by repeat (first | exact trivial | refine ⟨by rfl, ?_⟩ | refine ⟨by simp only [List.length_append, List.length_cons, List.length_nil]; rfl, ?_⟩ | refine ⟨by push_cast; rfl, ?_⟩)) (by exact fun _ _ h => h.last) (by exact fun _ _ h => h.pick [0, 1, 2] (by rfl)) ?_
   intro g3
   refine Rg.one 8 (by kernel_rfl) ?_
   refine RgO.tail 8 (by rfl) (Does.store 3 rfl (by rfl) (by rfl) (by rfl) (by kernel_rfl) (by rfl) (by kernel_rfl) (by rfl)) (by rfl) none (by rfl) (by kernel_rfl) (by kernel_rfl) ?_
   intro _ _
   refine Rg.done (by kernel_rfl) ?_ _
   refine go [3,4,12,1,4] ?_
   refine Ls.does (some 29) (Does.read rfl Tryz.func114 (by kernel_rfl) (by kernel_rfl) (hst) (by rfl) (by rfl) trivial) (by rfl) (by rfl) ?_
   rintro _ -
   refine Ls.qM 30 ?_
   refine Ls.does (some 31) (Does.readN rfl Tryz.func141 (by kernel_rfl) (by kernel_rfl) (dwithout_sl P.step (show P.fs.length ≤ 1000000 by omega) (some ad) c q) (by rfl) (by rfl) ⟨ReadsIn.rd 2 (by rfl), trivial⟩ (fun _ => by rfl)) (by rfl) (by rfl) ?_
   rintro ⟨wA, wc⟩ -
   dsimp only
   refine Ls.qM 32 ?_
   refine Ls.does (some 33) (Does.readN rfl Tryz.func141 (by kernel_rfl) (by kernel_rfl) (dwithout_sl (P.step.without q) (by omega) wA wc p) (by rfl) (by rfl) ⟨ReadsIn.row 0 (by rfl), trivial⟩ (fun _ => by rfl)) (by rfl) (by rfl) ?_
   rintro ⟨xA, xc⟩ -
   dsimp only
   refine go [15,3,25,0,7,0,15,5,25,12,3,4,12,5,3] ?_
   refine Ls.does (some 38) (Does.readN rfl Tryz.func64 (by kernel_rfl) (by kernel_rfl) (dwith_sl ((P.step.without q).without p) ((hok.step.without q).without p).rise (by omega) xA xc { f with nm := p }) (by rfl) (by rfl) ⟨ReadsIn.row 0 (by rfl), trivial⟩ (fun _ => by rfl)) (by rfl) (by rfl) ?_
   rintro ⟨yA, yc⟩ -
   dsimp only
   refine go [15,3,5,2] ?_
   refine Ent.see 0 (by rfl) ?_
   refine Cd.ret ?_
   exact Ent.rA ((yA, yc)) [0] trivial (Res.cell_tmp 3 (by rfl) (by rfl) (by rfl) (n := 4) (by kernel_rfl) (by rfl) (by rfl) (by rfl))
section
variable {Γ : Ctx} {N : Frm} {P : Program} {E : Env} {H : List Chunk} {o : Oper} {x y : Operand}
theorem Ev.sliceLT {t : TypeId} {l : List UInt8} {i : Nat} (ho : o.op = .slice t x (some y) none none) (hx : E.ev x = some (.string (txt l))) (hy : E.ev y = some (.int .i64 i)) (ht : P.underlying t = some .string) (hi : i ≤ l.length) : Ev Γ N P E H o (.string (txt (l.drop i))) := .of fun ρ hρ w => by
 have h2 := run_slice_string_l w t (txt l) ht .i64 i (by omega) (by show (i : Int) ≤ (l.length : Int); omega)
 rw [Int.toNat_natCast, show (txt l).size = l.length from rfl, extract_txt, List.take_length] at h2
 simp [execOp, ho, hρ x _ hx, hρ y _ hy, run_sliceAt_string w t _ _ _ _ ht, h2]
end
theorem nmR_tail {n : Nat} (h : n ≤ 999999) (k : List UInt8) : k ++ (nmR n).drop 3 = nameK k n := by
 rw [nmR_name h]
 rfl
theorem rnm_sl (k : List UInt8) (n : Nat) (hk : k.length ≤ 8) (hn : n ≤ 999999) : Fn Tryz.prog 18 #[.string (txt k), .int .i64 n] [] Unit (fun _ => .string (txt (nameK k n))) (fun _ => []) (fun _ => True) := by
 have ht := nmR_tail hn k
 have hl : (nmR n).length = 10 := by rw [nmR_name hn]; exact nameP_len n
 refine Fn.enter Tryz.func18 rfl Tryz.ntmps18 (by rfl) ?_
 intro w0
 refine go [3,4,5,25,0,0] ?_
 refine Ls.does (some 7) (Does.read rfl Tryz.func59 (by kernel_rfl) (by kernel_rfl) (rname_sl n (by omega)) (by rfl) (by rfl) trivial) (by rfl) (by rfl) ?_
 rintro _ -
 refine Ls.qE 8 (Ev.sliceLT (i := 3) (show Oper.op _ = Op.slice 9 (Operand.tmp 7) (some (Operand.const (Value.int IntKind.i64 3))) none none from rfl) (by rfl) (by rfl) Tryz.underlying9 (by omega)) ?_
 refine Ls.qE 9 (Ev.to (Ev.addS rfl (by rfl) (by rfl) (by rw [txt_size, txt_size, List.length_drop]; omega)) (congrArg Value.string ((txt_app k _).trans (congrArg txt ht)))) ?_
 refine go [5,2,22] ?_
 exact Ent.rA (()) [] trivial rT_
theorem numK_int {k q : List UInt8} (hz : numK k q ≠ 0) : intF (q.drop (k.length + 1)) 0 = numK k q ∧ q.length = k.length + 7 := by
 obtain ⟨h1, h2, h3⟩ := numK_pos hz
 generalize numK k q = n at h1 h2 h3
 subst h3
 refine ⟨?_, nameK_len k n⟩
 rw [nameK_drop, show (0 : Int) = ((0 : Nat) : Int) from rfl, intF_nat _ _ (fun c hc => (dgs_digit 6 n c hc).1), fold_dgs 6 n 0 (by omega)]
 simp
set_option maxHeartbeats 1000000 in
theorem rnum_sl (k q : List UInt8) (hk : k.length ≤ 8) : Fn Tryz.prog 66 #[.string (txt k), .string (txt q)] [] Unit (fun _ => .int .i64 (numK k q)) (fun _ => []) (fun _ => True) := by
 have hs : (txt q).size = q.length := rfl
 have hsk : (txt k).size = k.length := rfl
 refine Fn.enter Tryz.func66 rfl Tryz.ntmps66 (by rfl) ?_
 intro w0
 refine go [3,4,5,2,3,3,4,0] ?_
 refine Ls.qE 8 (Ev.lenS rfl (by rfl) Tryz.underlying9) ?_
 refine Ls.qM 9 ?_
 refine Ls.qE 10 (Ev.lenS rfl (by rfl) Tryz.underlying9) ?_
 refine Ls.qE 11 (Ev.addI rfl (by rfl) (by rfl) (by omega)) ?_
 refine go [17,2] ?_
 by_cases hl : q.length = k.length + 7
 rotate_left
 · have hz : numK k q = 0 := Classical.byContradiction fun h => hl (numK_int h).2
   refine Cd.cond_true (by rfl) (decide_eq_true (show ((q.length : Nat) : Int) ≠ (k.length : Int) + 7 by omega)) ?_
   refine go [3,4,5,2,22] ?_
   refine Ent.ret (()) (trivial) (Res.tmp (by rfl) (by rfl)) ?_ [] (by rfl) ?_
   · rw [hz]
     rfl
   · rfl
 refine Cd.cond_false (by rfl) (decide_eq_false (show ¬ (((q.length : Nat) : Int) ≠ (k.length : Int) + 7) by omega)) ?_
 refine go [6,3,4,5,2,3,3,4,0] ?_
 refine Ls.qE 14 (Ev.lenS rfl (by rfl) Tryz.underlying9) ?_
 refine Ls.qE 15 (Ev.subN (a := q.length) (b := 6) rfl (by rfl) (by rfl) (by omega)) ?_
 refine go [5,2,21] ?_
 refine Cd.loop (ι := Nat × Int) (fun p => [(0, .string (txt k)), (1, .string (txt q)), (5, .int .i64 p.2), (6, .int .i64 p.1)]) (fun _ => []) (fun p => k.length + 1 ≤ p.1 ∧ p.1 ≤ q.length ∧ p.2 = intF ((q.drop (k.length + 1)).take (p.1 - (k.length + 1))) 0) (fun p => q.length - p.1) ((q.length - 6, 0)) (⟨by dsimp only; omega, Nat.sub_le _ _, by dsimp only; rw [show q.length - 6 - (k.length + 1) = 0 by omega]; rfl⟩) ?_ rfl ?_
 · (repeat (first | exact trivial | refine ⟨by rfl, ?_⟩))
 rintro ⟨j, n⟩ ⟨hj1, hj2, hjn⟩
 dsimp only at hj1 hj2 hjn ⊢
 have hsm := intF_small (l := (q.drop (k.length + 1)).take (j - (k.length + 1))) (by rw [List.length_take]; omega)
 rw [← hjn] at hsm
 refine go [3,3,4,0,0] ?_
 refine Ls.qE 18 (Ev.lenS rfl (by rfl) Tryz.underlying9) ?_
 refine go [16,2] ?_
 refine Cd.cond _ (by rfl) (fun h2 => ?_) (fun h2 => ?_)
 · have hlt : j < q.length := by have := of_decide_eq_true h2; omega
   obtain ⟨x, hx⟩ := get_of_lt hlt
   have hxi : (txt q).data[j]? = some x := by
    show q.toArray[j]? = _
    rw [List.getElem?_toArray]
    exact hx
   have hxl := x.toNat_lt
   have hstep : intF ((q.drop (k.length + 1)).take (j + 1 - (k.length + 1))) 0 = 10 * n + (x.toNat : Int) - 48 := by
    rw [show j + 1 - (k.length + 1) = (j - (k.length + 1)) + 1 by omega, List.take_add_one, List.getElem?_drop, show k.length + 1 + (j - (k.length + 1)) = j by omega, hx, hjn]
    exact intF_snoc _ _ _
   refine go [6,3,21,4,0] ?_
   refine Ls.qE 23 (Ev.mulI rfl (by rfl) (by rfl) (by omega)) ?_
   refine go [0,0] ?_
   refine Ls.qE 26 (Ev.indexT rfl (by rfl) (by rfl) Tryz.underlying9 (by assumption)) ?_
   refine Ls.qE 27 (Ev.convI rfl (by rfl) (by kernel_rfl) Tryz.underlying3 (by omega)) ?_
   refine Ls.qE 28 (Ev.addI rfl (by rfl) (by rfl) (by omega)) ?_
   refine Ls.qE 29 (Ev.subI rfl (by rfl) (by rfl) (by omega)) ?_
   refine go [5,2] ?_
   rw [← hstep]
   refine go [4,0] ?_
   refine Ls.qE 21 (Ev.addN (b := 1) rfl (by rfl) (by rfl) (by omega)) ?_
   refine go [5,2] ?_
   refine Ent.iA ((j + 1, intF ((q.drop (k.length + 1)).take (j + 1 - (k.length + 1))) 0)) ?_
   (try dsimp only); exact ⟨⟨by omega, hlt, rfl⟩, by omega⟩
 · obtain rfl : j = q.length := by have := of_decide_eq_false h2; omega
   have hn : n = intF (q.drop (k.length + 1)) 0 := by
    rw [hjn, List.take_of_length_le (by rw [List.length_drop]; omega)]
   refine Cd.exit ?_
   refine go [3,3,4,0,16,0] ?_
   by_cases h1 : n < 1
   · have hz : numK k q = 0 := Classical.byContradiction fun h => by
      have h3 := (numK_int h).1
      have h4 := (numK_pos h).1
      omega
     refine Ent.known 32 true (by rfl) (by exact (decide_eq_true h1)) ?_
     refine go [1,1,9,0] ?_
     refine Ent.known 36 true (by rfl) (by exact (rfl)) ?_
     refine go [1,1,1,1,1,9,2,23,3,4,5,2,22] ?_
     refine Ent.ret (()) (trivial) (Res.tmp (by rfl) (by rfl)) ?_ [] (by rfl) ?_
     · rw [hz]
       rfl
     · rfl
   refine Ent.known 32 false (by rfl) (by exact (decide_eq_false h1)) ?_
   refine go [0,18,10,0] ?_
   by_cases h9 : 999999 < n
   · have hz : numK k q = 0 := Classical.byContradiction fun h => by
      have h3 := (numK_int h).1
      have h4 := (numK_pos h).2.1
      omega
     refine Ent.known 36 true (by rfl) (by exact (decide_eq_true h9)) ?_
     refine go [1,1,1,1,1,9,2,23,3,4,5,2,22] ?_
     refine Ent.ret (()) (trivial) (Res.tmp (by rfl) (by rfl)) ?_ [] (by rfl) ?_
     · rw [hz]
       rfl
     · rfl
   refine Ent.known 36 false (by rfl) (by exact (decide_eq_false h9)) ?_
   refine go [0,0] ?_
   obtain ⟨m, rfl⟩ : ∃ m : Nat, n = (m : Int) := ⟨n.toNat, by omega⟩
   refine Ls.does (some 39) (Does.read rfl Tryz.func18 (by kernel_rfl) (by kernel_rfl) (rnm_sl k m hk (by omega)) (by rfl) (by rfl) trivial) (by rfl) (by rfl) ?_
   rintro _ -
   refine Ls.qM 40 ?_
   refine Ls.qE 41 (Ev.neqS rfl (by rfl) (by rfl)) ?_
   refine go [10,2] ?_
   by_cases he : nameK k m = q
   · have hz := numK_eq (by omega) (by omega) he
     refine Cd.cond_false (by rfl) (decide_eq_false (show ¬ (txt (nameK k m) ≠ txt q) from fun h => h (txt_eq_iff.2 he))) ?_
     refine go [6,3,4,0,5,2,22] ?_
     refine Ent.ret (()) (trivial) (Res.tmp (by rfl) (by rfl)) ?_ [] (by rfl) ?_
     · rw [hz]
     · rfl
   · have hz : numK k q = 0 := Classical.byContradiction fun h => he (by
      have h3 := (numK_int h).1
      have h4 := (numK_pos h).2.2
      rw [show m = numK k q by omega]
      exact h4)
     refine Cd.cond_true (by rfl) (decide_eq_true (show txt (nameK k m) ≠ txt q from fun e => he (txt_eq_iff.1 e))) ?_
     refine go [3,4,5,2,22] ?_
     refine Ent.ret (()) (trivial) (Res.tmp (by rfl) (by rfl)) ?_ [] (by rfl) ?_
     · rw [hz]
       rfl
     · rfl
set_option maxHeartbeats 1000000 in
theorem rnow_sl (P : DrP) (hok : P.Ok) (A : Option Addr) (c : Nat) : Fn Tryz.prog 67 #[.agg (P.val A c).toArray] [rdF A P.fs] Unit (fun _ => .string (txt (nowP P))) (fun _ => []) (fun _ => True) := by
 have hpl := hok.len
 have hat := fun q => dat_sl P A c q (by omega)
 have hVe : P.val A c = [.slice A P.fs.length c, .int .i64 P.steps, .bool P.left.isSome, .int .i64 ((P.left.getD 0 : Nat) : Int)] := rfl
 rw [hVe] at hat ⊢
 refine Fn.enter Tryz.func67 rfl Tryz.ntmps67 (by rfl) ?_
 intro w0
 refine go [3,4] ?_
 refine Ls.does (some 1) (Does.box rfl (by rfl)) (by rfl) (by rfl) ?_
 intro g1 _
 refine go [5,25,12,0,4] ?_
 refine Ls.does (some 5) (Does.read rfl Tryz.func63 (by kernel_rfl) (by kernel_rfl) (hat qCur) (by rfl) (by rfl) ⟨ReadsIn.rd 1 (by rfl), trivial⟩) (by rfl) (by rfl) ?_
 rintro r hr
 refine go [5,2,3,3] ?_
 refine Cd.draw [] (by kernel_rfl) ?_
 refine Rg.qE 0 6 (by rfl) (Ev.move rfl (by rfl)) ?_
 refine Rg.qE 1 7 (by rfl) (Ev.lss rfl (by rfl) (by rfl)) ?_
 refine Rg.qE 2 8 (by rfl) (Ev.move rfl (by rfl)) ?_
 cases hfd : P.find qCur with
 | none =>
  obtain rfl := at_miss hr hfd
  have hnw : nowP P = [] := by
   unfold nowP DrP.bytes
   rw [hfd]
   dsimp only
   rw [if_pos (.inl numK_nil)]
  refine Ent.known 8 true (by rfl) (by exact (decide_eq_true (show (-1 : Int) < 0 by decide))) ?_
  refine Rg.qP 3 9 ?_
  refine Rg.qP 4 10 ?_
  refine Rg.qP 5 11 ?_
  refine Rg.qP 6 12 ?_
  refine Rg.qP 7 13 ?_
  refine Rg.qP 8 14 ?_
  refine Rg.qP 9 15 ?_
  refine Rg.qP 10 16 ?_
  refine Rg.qE 11 17 (by rfl) (Ev.pickT rfl (by rfl) (by rfl)) ?_
  refine Rg.qE 12 18 (by rfl) (Ev.move rfl (by rfl)) ?_
  refine Rg.qP 13 19 ?_
  refine Rg.qP 14 20 ?_
  refine Rg.qP 15 21 ?_
  refine Rg.qP 16 22 ?_
  refine Rg.qP 17 23 ?_
  refine Rg.qP 18 24 ?_
  refine Rg.qP 19 25 ?_
  refine Rg.qP 20 26 ?_
  refine Rg.qP 21 27 ?_
  refine Rg.qE 22 28 (by rfl) (Ev.pickT rfl (by rfl) (by rfl)) ?_
  refine Rg.done (by kernel_rfl) ?_ _
  refine go [23,3,4,5,2,22] ?_
  refine Ent.ret (()) (trivial) (Res.tmp (by rfl) (by rfl)) ?_ [] (by rfl) ?_
  · rw [hnw]
    rfl
  · rfl
 | some f =>
  obtain ⟨m, rfl, hm⟩ := at_hit hr hfd
  have hml := (List.getElem?_eq_some_iff.1 hm).1
  have hfb : P.bytes qCur = f.b := by unfold DrP.bytes; rw [hfd]
  have hnw : nowP P = if numK kMan f.b = 0 ∨ P.find f.b = none then [] else f.b := by
   unfold nowP
   rw [hfb]
  refine Ent.rdSome 1 (by rfl) (by omega) (fun ad had => ?_)
  subst had
  refine Ent.known 8 false (by rfl) (by exact (decide_eq_false (show ¬ ((m : Int) < 0) by omega))) ?_
  refine Rg.qE 3 9 (by rfl) (Ev.fieldAddr (k := 0) rfl (by rfl) (by kernel_rfl) (by rfl)) ?_
  refine Rg.qE 4 10 (by rfl) (Ev.load 0 rfl (by rfl) (by rfl) (by kernel_rfl) (by rfl)) ?_
  refine Rg.qE 5 11 (by rfl) (Ev.move rfl (by rfl)) ?_
  refine Rg.qE 6 12 (by rfl) (Ev.indexAt (sz := 3) rfl (by rfl) (by rfl) Tryz.underlying53 (by kernel_rfl) (by omega)) ?_
  refine Rg.qE 7 13 (by rfl) (Ev.fieldAddrE0 (k := 1) rfl (by rfl) (by kernel_rfl)) ?_
  refine Rg.qE 8 14 (by rfl) (Ev.loadElF rfl (by rfl) (ReadsIn.rd 1 (by rfl)) (by kernel_rfl) (by intro _; rfl) (by assumption) (by rfl)) ?_
  refine Rg.does 9 (by rfl) (by kernel_rfl) (Does.read rfl Tryz.func66 (by kernel_rfl) (by kernel_rfl) (rnum_sl kMan f.b (by decide)) (by rfl) (by rfl) trivial) (by rfl) (some 15) (by rfl) (by exact fun _ _ h => h) ?_
  rintro _ -
  refine Rg.qE 10 16 (by rfl) (Ev.eql rfl (by rfl) (by rfl)) ?_
  refine Rg.qE 11 17 (by rfl) (Ev.pickF rfl (by rfl) (by rfl)) ?_
  refine Rg.qE 12 18 (by rfl) (Ev.move rfl (by rfl)) ?_
  by_cases hz : numK kMan f.b = 0
  · rw [if_pos (.inl hz)] at hnw
    refine Ent.known 18 true (by rfl) (by exact (decide_eq_true (show ((numK kMan f.b : Nat) : Int) = 0 by omega))) ?_
    refine Rg.qP 13 19 ?_
    refine Rg.qP 14 20 ?_
    refine Rg.qP 15 21 ?_
    refine Rg.qP 16 22 ?_
    refine Rg.qP 17 23 ?_
    refine Rg.qP 18 24 ?_
    refine Rg.qP 19 25 ?_
    refine Rg.qP 20 26 ?_
    refine Rg.qP 21 27 ?_
    refine Rg.qE 22 28 (by rfl) (Ev.pickT rfl (by rfl) (by rfl)) ?_
    refine Rg.done (by kernel_rfl) ?_ _
    refine go [23,3,4,5,2,22] ?_
    refine Ent.ret (()) (trivial) (Res.tmp (by rfl) (by rfl)) ?_ [] (by rfl) ?_
    · rw [hnw]
      rfl
    · rfl
  refine Ent.known 18 false (by rfl) (by exact (decide_eq_false (show ¬ (((numK kMan f.b : Nat) : Int) = 0) by omega))) ?_
  refine Rg.qE 13 19 (by rfl) (Ev.loads 0 rfl (by rfl) (by rfl) (n := 4) (by kernel_rfl) (by rfl) (by rfl)) ?_
  refine Rg.qE 14 20 (by rfl) (Ev.fieldAddr (k := 0) rfl (by rfl) (by kernel_rfl) (by rfl)) ?_
  refine Rg.qE 15 21 (by rfl) (Ev.load 0 rfl (by rfl) (by rfl) (by kernel_rfl) (by rfl)) ?_
  refine Rg.qE 16 22 (by rfl) (Ev.move rfl (by rfl)) ?_
  refine Rg.qE 17 23 (by rfl) (Ev.indexAt (sz := 3) rfl (by rfl) (by rfl) Tryz.underlying53 (by kernel_rfl) (by omega)) ?_
  refine Rg.qE 18 24 (by rfl) (Ev.fieldAddrE0 (k := 1) rfl (by rfl) (by kernel_rfl)) ?_
  refine Rg.qE 19 25 (by rfl) (Ev.loadElF rfl (by rfl) (ReadsIn.rd 1 (by rfl)) (by kernel_rfl) (by intro _; rfl) (by assumption) (by rfl)) ?_
  refine Rg.does 20 (by rfl) (by kernel_rfl) (Does.read rfl Tryz.func63 (by kernel_rfl) (by kernel_rfl) (hat f.b) (by rfl) (by rfl) ⟨ReadsIn.rd 1 (by rfl), trivial⟩) (by rfl) (some 26) (by rfl) (by exact fun _ _ h => h) ?_
  rintro r hr2
  refine Rg.qE 21 27 (by rfl) (Ev.lss rfl (by rfl) (by rfl)) ?_
  refine Rg.qE 22 28 (by rfl) (Ev.pickF rfl (by rfl) (by rfl)) ?_
  refine Rg.done (by kernel_rfl) ?_ _
  cases hfd2 : P.find f.b with
  | none =>
   obtain rfl := at_miss hr2 hfd2
   rw [if_pos (.inr hfd2)] at hnw
   refine Cd.cond_true (by rfl) (decide_eq_true (show (-1 : Int) < 0 by decide)) ?_
   refine go [3,4,5,2,22] ?_
   refine Ent.ret (()) (trivial) (Res.tmp (by rfl) (by rfl)) ?_ [] (by rfl) ?_
   · rw [hnw]
     rfl
   · rfl
  | some f2 =>
   obtain ⟨m2, rfl, -⟩ := at_hit hr2 hfd2
   rw [if_neg (fun h => h.elim hz (fun e => by rw [hfd2] at e; cases e))] at hnw
   refine Cd.cond_false (by rfl) (decide_eq_false (show ¬ ((m2 : Int) < 0) by omega)) ?_
   refine go [6,3,4,7,0,8,0,0] ?_
   refine Ls.qE 32 (Ev.indexAt (sz := 3) rfl (by rfl) (by rfl) Tryz.underlying53 (by kernel_rfl) (by omega)) ?_
   refine Ls.qE 33 (Ev.fieldAddrE0 (k := 1) rfl (by rfl) (by kernel_rfl)) ?_
   refine Ls.qE 34 (Ev.loadElF rfl (by rfl) (ReadsIn.rd 1 (by rfl)) (by kernel_rfl) (by intro _; rfl) (by assumption) (by rfl)) ?_
   refine go [5,2,22] ?_
   refine Ent.ret (()) (trivial) (Res.tmp (by rfl) (by rfl)) ?_ [] (by rfl) ?_
   · rw [hnw]
   · rfl
abbrev VrJ : Type := Option Addr × Nat × Nat × Int × Int × Int
abbrev vrJ (q : VrJ) : Value := .agg #[.slice q.1 q.2.1 q.2.2.1, .int .i64 q.2.2.2.1, .int .i64 q.2.2.2.2.1, .int .i64 q.2.2.2.2.2]
def rfitV (v : VsP) (e : EdP) (p : Option (Option Addr × Nat) × VrJ) : Value := match p.1 with
 | none => .tuple #[vrJ p.2, .bool false]
 | some q => .tuple #[.agg ((outP v e).val q.1 q.2).toArray, .bool true]
def keptN (v : List TbP) (ds : List Int) : List TbP := v.filter fun t => decide (ds.count t.num = 0)
def goneN (v : List TbP) (ds : List Int) : Nat := ((v.map TbP.num).map fun n => ds.count n).sum
theorem keptN_snoc (v : List TbP) (ds : List Int) (t : TbP) : keptN (v ++ [t]) ds = keptN v ds ++ if ds.count t.num = 0 then [t] else [] := by
 unfold keptN
 rw [List.filter_append, List.filter_cons, List.filter_nil]
 by_cases h : ds.count t.num = 0 <;> simp [h]
theorem goneN_snoc (v : List TbP) (ds : List Int) (t : TbP) : goneN (v ++ [t]) ds = goneN v ds + ds.count t.num := by
 unfold goneN
 rw [List.map_append, List.map_append, List.sum_append]
 simp
theorem count_snoc (l : List Int) (x n : Int) : (l ++ [x]).count n = l.count n + if x = n then 1 else 0 := by
 rw [List.count_append, List.count_singleton]
 simp
theorem reads_frontR {Γ : Ctx} {H : List Chunk} {A : Option Addr} {n c e sz k : Nat} {xs : List Value} (i : Nat) (hi : H[i]? = some (row A n c e sz xs)) (hk : k ≤ n) : ReadsIn Γ H sz A k (xs.take (k * sz)) := fun w hs => by
 have h : Reads w w.heap.size sz A n xs := Own.reads (hs.mem hi)
 exact h.take hk
theorem goneN_le {v : List TbP} {ds : List Int} (h : ∀ t ∈ v, ds.count t.num ≤ 1) : goneN v ds ≤ v.length := by
 induction v with
 | nil => exact Nat.le_refl _
 | cons t v ih =>
  have h1 := h t List.mem_cons_self
  have h2 := ih fun u hu => h u (List.mem_cons_of_mem _ hu)
  show ds.count t.num + goneN v ds ≤ v.length + 1
  omega
set_option maxHeartbeats 4000000 in
theorem rfit_sl (v : VsP) (e : EdP) (A B D : Option Addr) (c b d : Nat) (hv : v.tbs.length ≤ 10000000) (he : e.add.length ≤ 10000000) (hd : e.drop.length ≤ 1000000000) (fv : Fine v.tbs) (fe : Fine e.add) (hdr : ∀ x ∈ e.drop, in64 x) : Fn Tryz.prog 10 #[.agg (v.val A c).toArray, .agg (e.val B b D d).toArray] [rdT A v.tbs, rdT B e.add, rd D e.drop.length 1 (ints e.drop)] (Option (Option Addr × Nat) × VrJ) (rfitV v e) (fun p => fitC v e p.1) (fun p => p.1.isSome = true ↔ FitOk v e) := by
 refine Fn.enter Tryz.func10 rfl Tryz.ntmps10 (by rfl) ?_
 intro w0
 refine go [3,4] ?_
 refine Ls.does (some 2) (Does.box rfl (by rfl)) (by rfl) (by rfl) ?_
 intro g1 _
 refine Ls.does (some 3) (Does.box rfl (by rfl)) (by rfl) (by rfl) ?_
 intro g2 _
 refine Ls.does (some 4) (Does.alloc (cs := [.slice none 0 0, .int .i64 0, .int .i64 0, .int .i64 0]) rfl (ZeroIs.mk (.agg #[.slice none 0 0, .int .i64 0, .int .i64 0, .int .i64 0]) (by kernel_rfl) (by rfl))) (by rfl) (by rfl) ?_
 intro g3 _
 refine go [5,2,3,3] ?_
 by_cases hg : goodP v ∧ RiseOk v e
 rotate_left
 · refine Cd.cut (ι := Unit) (fun _ => [(4, ptrW g3), (53, .bool true)]) (fun _ => [blk g3 24 [.slice none 0 0, .int .i64 0, .int .i64 0, .int .i64 0]]) (fun _ => True) ?_ ?_
   · by_cases hg1 : goodP v
     · have hr : ¬ (¬ (e.nx ≠ 0 ∧ e.nx < v.nx) ∧ ¬ (e.lg ≠ 0 ∧ e.lg < v.lg) ∧ ¬ (e.sq ≠ 0 ∧ e.sq < v.sq)) := fun h => hg ⟨hg1, h⟩
       refine go [4,12,2,4] ?_
       refine Ls.does (some 16) (Does.read rfl Tryz.func22 (by kernel_rfl) (by kernel_rfl) (rgood_sl v A c (by omega) (fun t ht => ⟨(fv t ht).1, (fv t ht).2.1⟩)) (by rfl) (by rfl) ⟨ReadsIn.rd 3 (by rfl), trivial⟩) (by rfl) (by rfl) ?_
       rintro _ -
       refine go [20,0] ?_
       refine Ent.split 18 (by rfl) (fun hT1 => ?_) (fun hT1 => ?_)
       · first | have hT1 := of_decide_eq_false hT1 | have hT1 := of_not_decide_false hT1 | skip
         refine go [7,2,8,1,17,0] ?_
         refine Ent.split 22 (by rfl) (fun hT2 => ?_) (fun hT2 => ?_)
         · first | have hT2 := of_decide_eq_false hT2 | have hT2 := of_not_decide_false hT2 | skip
           refine go [1,1,1,1,1,10,10,0,7,3,8,1,17,0] ?_
           refine Ent.split 34 (by rfl) (fun hT3 => ?_) (fun hT3 => ?_)
           · first | have hT3 := of_decide_eq_false hT3 | have hT3 := of_not_decide_false hT3 | skip
             refine go [1,1,1,1,1,10,10,0,7,4,8,1,17,0] ?_
             refine Ent.split 46 (by rfl) (fun hT4 => ?_) (fun hT4 => ?_)
             · first | have hT4 := of_decide_eq_false hT4 | have hT4 := of_not_decide_false hT4 | skip
               refine go [1,1,1,1,1,10,10,2] ?_
               refine Ent.pick [0] (by rfl) ?_
               refine Ent.inv () ?_ ?_ ?_
               · exact trivial
               · (repeat (first | exact trivial | refine ⟨by rfl, ?_⟩ | refine ⟨by simp only [lenS]; rfl, ?_⟩ | refine ⟨by push_cast; rfl, ?_⟩ | refine ⟨by (show some (Value.bool _) = some (Value.bool _); congr 2; all_goals ((first | rfl | exact absurd hg1 hT1 | exact decide_eq_true (by omega) | exact (decide_eq_true (by omega)).symm | (exfalso; omega)))), ?_⟩))
               · rfl
             · first | have hT4 := of_decide_eq_true hT4 | have hT4 := of_not_decide_true hT4 | skip
               refine go [7,4,8,1,7,3,8,2,16,9,10,2] ?_
               refine Ent.pick [0] (by rfl) ?_
               refine Ent.inv () ?_ ?_ ?_
               · exact trivial
               · (repeat (first | exact trivial | refine ⟨by rfl, ?_⟩ | refine ⟨by simp only [lenS]; rfl, ?_⟩ | refine ⟨by push_cast; rfl, ?_⟩ | refine ⟨by (show some (Value.bool _) = some (Value.bool _); congr 2; all_goals ((first | rfl | exact absurd hg1 hT1 | exact decide_eq_true (by omega) | exact (decide_eq_true (by omega)).symm | (exfalso; omega)))), ?_⟩))
               · rfl
           · first | have hT3 := of_decide_eq_true hT3 | have hT3 := of_not_decide_true hT3 | skip
             refine go [7,3,8,1,7,2,8,2,16,9,10,0] ?_
             refine Ent.split 42 (by rfl) (fun hT4 => ?_) (fun hT4 => ?_)
             · first | have hT4 := of_decide_eq_false hT4 | have hT4 := of_not_decide_false hT4 | skip
               refine go [7,4,8,1,17,0] ?_
               refine Ent.split 46 (by rfl) (fun hT5 => ?_) (fun hT5 => ?_)
               · first | have hT5 := of_decide_eq_false hT5 | have hT5 := of_not_decide_false hT5 | skip
                 refine go [1,1,1,1,1,10,10,2] ?_
                 refine Ent.pick [0] (by rfl) ?_
                 refine Ent.inv () ?_ ?_ ?_
                 · exact trivial
                 · (repeat (first | exact trivial | refine ⟨by rfl, ?_⟩ | refine ⟨by simp only [lenS]; rfl, ?_⟩ | refine ⟨by push_cast; rfl, ?_⟩ | refine ⟨by (show some (Value.bool _) = some (Value.bool _); congr 2; all_goals ((first | rfl | exact absurd hg1 hT1 | exact decide_eq_true (by omega) | exact (decide_eq_true (by omega)).symm | (exfalso; omega)))), ?_⟩))
                 · rfl
               · first | have hT5 := of_decide_eq_true hT5 | have hT5 := of_not_decide_true hT5 | skip
                 refine go [7,4,8,1,7,3,8,2,16,9,10,2] ?_
                 refine Ent.pick [0] (by rfl) ?_
                 refine Ent.inv () ?_ ?_ ?_
                 · exact trivial
                 · (repeat (first | exact trivial | refine ⟨by rfl, ?_⟩ | refine ⟨by simp only [lenS]; rfl, ?_⟩ | refine ⟨by push_cast; rfl, ?_⟩ | refine ⟨by (show some (Value.bool _) = some (Value.bool _); congr 2; all_goals ((first | rfl | exact absurd hg1 hT1 | exact decide_eq_true (by omega) | exact (decide_eq_true (by omega)).symm | (exfalso; omega)))), ?_⟩))
                 · rfl
             · first | have hT4 := of_decide_eq_true hT4 | have hT4 := of_not_decide_true hT4 | skip
               refine go [1,1,1,1,1,1,1,1,1,1,9,2] ?_
               refine Ent.pick [0] (by rfl) ?_
               refine Ent.inv () ?_ ?_ ?_
               · exact trivial
               · (repeat (first | exact trivial | refine ⟨by rfl, ?_⟩ | refine ⟨by simp only [lenS]; rfl, ?_⟩ | refine ⟨by push_cast; rfl, ?_⟩ | refine ⟨by (show some (Value.bool _) = some (Value.bool _); congr 2; all_goals ((first | rfl | exact absurd hg1 hT1 | exact decide_eq_true (by omega) | exact (decide_eq_true (by omega)).symm | (exfalso; omega)))), ?_⟩))
               · rfl
         · first | have hT2 := of_decide_eq_true hT2 | have hT2 := of_not_decide_true hT2 | skip
           refine go [7,2,8,1,7,1,8,2,16,9,10,0] ?_
           refine Ent.split 30 (by rfl) (fun hT3 => ?_) (fun hT3 => ?_)
           · first | have hT3 := of_decide_eq_false hT3 | have hT3 := of_not_decide_false hT3 | skip
             refine go [7,3,8,1,17,0] ?_
             refine Ent.split 34 (by rfl) (fun hT4 => ?_) (fun hT4 => ?_)
             · first | have hT4 := of_decide_eq_false hT4 | have hT4 := of_not_decide_false hT4 | skip
               refine go [1,1,1,1,1,10,10,0,7,4,8,1,17,0] ?_
               refine Ent.split 46 (by rfl) (fun hT5 => ?_) (fun hT5 => ?_)
               · first | have hT5 := of_decide_eq_false hT5 | have hT5 := of_not_decide_false hT5 | skip
                 refine go [1,1,1,1,1,10,10,2] ?_
                 refine Ent.pick [0] (by rfl) ?_
                 refine Ent.inv () ?_ ?_ ?_
                 · exact trivial
                 · (repeat (first | exact trivial | refine ⟨by rfl, ?_⟩ | refine ⟨by simp only [lenS]; rfl, ?_⟩ | refine ⟨by push_cast; rfl, ?_⟩ | refine ⟨by (show some (Value.bool _) = some (Value.bool _); congr 2; all_goals ((first | rfl | exact absurd hg1 hT1 | exact decide_eq_true (by omega) | exact (decide_eq_true (by omega)).symm | (exfalso; omega)))), ?_⟩))
                 · rfl
               · first | have hT5 := of_decide_eq_true hT5 | have hT5 := of_not_decide_true hT5 | skip
                 refine go [7,4,8,1,7,3,8,2,16,9,10,2] ?_
                 refine Ent.pick [0] (by rfl) ?_
                 refine Ent.inv () ?_ ?_ ?_
                 · exact trivial
                 · (repeat (first | exact trivial | refine ⟨by rfl, ?_⟩ | refine ⟨by simp only [lenS]; rfl, ?_⟩ | refine ⟨by push_cast; rfl, ?_⟩ | refine ⟨by (show some (Value.bool _) = some (Value.bool _); congr 2; all_goals ((first | rfl | exact absurd hg1 hT1 | exact decide_eq_true (by omega) | exact (decide_eq_true (by omega)).symm | (exfalso; omega)))), ?_⟩))
                 · rfl
             · first | have hT4 := of_decide_eq_true hT4 | have hT4 := of_not_decide_true hT4 | skip
               refine go [7,3,8,1,7,2,8,2,16,9,10,0] ?_
               refine Ent.split 42 (by rfl) (fun hT5 => ?_) (fun hT5 => ?_)
               · first | have hT5 := of_decide_eq_false hT5 | have hT5 := of_not_decide_false hT5 | skip
                 refine go [7,4,8,1,17,0] ?_
                 refine Ent.split 46 (by rfl) (fun hT6 => ?_) (fun hT6 => ?_)
                 · first | have hT6 := of_decide_eq_false hT6 | have hT6 := of_not_decide_false hT6 | skip
                   refine go [1,1,1,1,1,10,10,2] ?_
                   refine Ent.pick [0] (by rfl) ?_
                   refine Ent.inv () ?_ ?_ ?_
                   · exact trivial
                   · (repeat (first | exact trivial | refine ⟨by rfl, ?_⟩ | refine ⟨by simp only [lenS]; rfl, ?_⟩ | refine ⟨by push_cast; rfl, ?_⟩ | refine ⟨by (show some (Value.bool _) = some (Value.bool _); congr 2; all_goals ((first | rfl | exact absurd hg1 hT1 | exact decide_eq_true (by omega) | exact (decide_eq_true (by omega)).symm | (exfalso; omega)))), ?_⟩))
                   · rfl
                 · first | have hT6 := of_decide_eq_true hT6 | have hT6 := of_not_decide_true hT6 | skip
                   refine go [7,4,8,1,7,3,8,2,16,9,10,2] ?_
                   refine Ent.pick [0] (by rfl) ?_
                   refine Ent.inv () ?_ ?_ ?_
                   · exact trivial
                   · (repeat (first | exact trivial | refine ⟨by rfl, ?_⟩ | refine ⟨by simp only [lenS]; rfl, ?_⟩ | refine ⟨by push_cast; rfl, ?_⟩ | refine ⟨by (show some (Value.bool _) = some (Value.bool _); congr 2; all_goals ((first | rfl | exact absurd hg1 hT1 | exact decide_eq_true (by omega) | exact (decide_eq_true (by omega)).symm | (exfalso; omega)))), ?_⟩))
                   · rfl
               · first | have hT5 := of_decide_eq_true hT5 | have hT5 := of_not_decide_true hT5 | skip
                 refine go [1,1,1,1,1,1,1,1,1,1,9,2] ?_
                 refine Ent.pick [0] (by rfl) ?_
                 refine Ent.inv () ?_ ?_ ?_
                 · exact trivial
                 · (repeat (first | exact trivial | refine ⟨by rfl, ?_⟩ | refine ⟨by simp only [lenS]; rfl, ?_⟩ | refine ⟨by push_cast; rfl, ?_⟩ | refine ⟨by (show some (Value.bool _) = some (Value.bool _); congr 2; all_goals ((first | rfl | exact absurd hg1 hT1 | exact decide_eq_true (by omega) | exact (decide_eq_true (by omega)).symm | (exfalso; omega)))), ?_⟩))
                 · rfl
           · first | have hT3 := of_decide_eq_true hT3 | have hT3 := of_not_decide_true hT3 | skip
             refine go [1,1,1,1,1,1,1,1,1,1,9,0,1,1,1,1,1,1,1,1,1,1,9,2] ?_
             refine Ent.pick [0] (by rfl) ?_
             refine Ent.inv () ?_ ?_ ?_
             · exact trivial
             · (repeat (first | exact trivial | refine ⟨by rfl, ?_⟩ | refine ⟨by simp only [lenS]; rfl, ?_⟩ | refine ⟨by push_cast; rfl, ?_⟩ | refine ⟨by (show some (Value.bool _) = some (Value.bool _); congr 2; all_goals ((first | rfl | exact absurd hg1 hT1 | exact decide_eq_true (by omega) | exact (decide_eq_true (by omega)).symm | (exfalso; omega)))), ?_⟩))
             · rfl
       · first | have hT1 := of_decide_eq_true hT1 | have hT1 := of_not_decide_true hT1 | skip
         refine go [1,1,1,1,1,1,1,1,1,1,9,0,1,1,1,1,1,1,1,1,1,1,9,0] ?_
         refine go [1,1,1,1,1,1,1,1,1,1,9,2] ?_
         refine Ent.pick [0] (by rfl) ?_
         refine Ent.inv () ?_ ?_ ?_
         · exact trivial
         · (repeat (first | exact trivial | refine ⟨by rfl, ?_⟩ | refine ⟨by simp only [lenS]; rfl, ?_⟩ | refine ⟨by push_cast; rfl, ?_⟩ | refine ⟨by (show some (Value.bool _) = some (Value.bool _); congr 2; all_goals ((first | rfl | exact absurd hg1 hT1 | exact decide_eq_true (by omega) | exact (decide_eq_true (by omega)).symm | (exfalso; omega)))), ?_⟩))
         · rfl
     · refine go [4,12,2,4] ?_
       refine Ls.does (some 16) (Does.read rfl Tryz.func22 (by kernel_rfl) (by kernel_rfl) (rgood_sl v A c (by omega) (fun t ht => ⟨(fv t ht).1, (fv t ht).2.1⟩)) (by rfl) (by rfl) ⟨ReadsIn.rd 3 (by rfl), trivial⟩) (by rfl) (by rfl) ?_
       rintro _ -
       refine go [20,0] ?_
       refine Ent.split 18 (by rfl) (fun hT1 => ?_) (fun hT1 => ?_)
       · first | have hT1 := of_decide_eq_false hT1 | have hT1 := of_not_decide_false hT1 | skip
         refine go [7,2,8,1,17,0] ?_
         refine Ent.split 22 (by rfl) (fun hT2 => ?_) (fun hT2 => ?_)
         · first | have hT2 := of_decide_eq_false hT2 | have hT2 := of_not_decide_false hT2 | skip
           refine go [1,1,1,1,1,10,10,0,7,3,8,1,17,0] ?_
           refine Ent.split 34 (by rfl) (fun hT3 => ?_) (fun hT3 => ?_)
           · first | have hT3 := of_decide_eq_false hT3 | have hT3 := of_not_decide_false hT3 | skip
             refine go [1,1,1,1,1,10,10,0,7,4,8,1,17,0] ?_
             refine Ent.split 46 (by rfl) (fun hT4 => ?_) (fun hT4 => ?_)
             · first | have hT4 := of_decide_eq_false hT4 | have hT4 := of_not_decide_false hT4 | skip
               refine go [1,1,1,1,1,10,10,2] ?_
               refine Ent.pick [0] (by rfl) ?_
               refine Ent.inv () ?_ ?_ ?_
               · exact trivial
               · (repeat (first | exact trivial | refine ⟨by rfl, ?_⟩ | refine ⟨by simp only [lenS]; rfl, ?_⟩ | refine ⟨by push_cast; rfl, ?_⟩ | refine ⟨by (show some (Value.bool _) = some (Value.bool _); congr 2; all_goals ((first | rfl | exact absurd hT1 hg1 | (exfalso; exact hg1 hT1)))), ?_⟩))
               · rfl
             · first | have hT4 := of_decide_eq_true hT4 | have hT4 := of_not_decide_true hT4 | skip
               refine go [7,4,8,1,7,3,8,2,16,9,10,2] ?_
               refine Ent.pick [0] (by rfl) ?_
               refine Ent.inv () ?_ ?_ ?_
               · exact trivial
               · (repeat (first | exact trivial | refine ⟨by rfl, ?_⟩ | refine ⟨by simp only [lenS]; rfl, ?_⟩ | refine ⟨by push_cast; rfl, ?_⟩ | refine ⟨by (show some (Value.bool _) = some (Value.bool _); congr 2; all_goals ((first | rfl | exact absurd hT1 hg1 | (exfalso; exact hg1 hT1)))), ?_⟩))
               · rfl
           · first | have hT3 := of_decide_eq_true hT3 | have hT3 := of_not_decide_true hT3 | skip
             refine go [7,3,8,1,7,2,8,2,16,9,10,0] ?_
             refine Ent.split 42 (by rfl) (fun hT4 => ?_) (fun hT4 => ?_)
             · first | have hT4 := of_decide_eq_false hT4 | have hT4 := of_not_decide_false hT4 | skip
               refine go [7,4,8,1,17,0] ?_
               refine Ent.split 46 (by rfl) (fun hT5 => ?_) (fun hT5 => ?_)
               · first | have hT5 := of_decide_eq_false hT5 | have hT5 := of_not_decide_false hT5 | skip
                 refine go [1,1,1,1,1,10,10,2] ?_
                 refine Ent.pick [0] (by rfl) ?_
                 refine Ent.inv () ?_ ?_ ?_
                 · exact trivial
                 · (repeat (first | exact trivial | refine ⟨by rfl, ?_⟩ | refine ⟨by simp only [lenS]; rfl, ?_⟩ | refine ⟨by push_cast; rfl, ?_⟩ | refine ⟨by (show some (Value.bool _) = some (Value.bool _); congr 2; all_goals ((first | rfl | exact absurd hT1 hg1 | (exfalso; exact hg1 hT1)))), ?_⟩))
                 · rfl
               · first | have hT5 := of_decide_eq_true hT5 | have hT5 := of_not_decide_true hT5 | skip
                 refine go [7,4,8,1,7,3,8,2,16,9,10,2] ?_
                 refine Ent.pick [0] (by rfl) ?_
                 refine Ent.inv () ?_ ?_ ?_
                 · exact trivial
                 · (repeat (first | exact trivial | refine ⟨by rfl, ?_⟩ | refine ⟨by simp only [lenS]; rfl, ?_⟩ | refine ⟨by push_cast; rfl, ?_⟩ | refine ⟨by (show some (Value.bool _) = some (Value.bool _); congr 2; all_goals ((first | rfl | exact absurd hT1 hg1 | (exfalso; exact hg1 hT1)))), ?_⟩))
                 · rfl
             · first | have hT4 := of_decide_eq_true hT4 | have hT4 := of_not_decide_true hT4 | skip
               refine go [1,1,1,1,1,1,1,1,1,1,9,2] ?_
               refine Ent.pick [0] (by rfl) ?_
               refine Ent.inv () ?_ ?_ ?_
               · exact trivial
               · (repeat (first | exact trivial | refine ⟨by rfl, ?_⟩ | refine ⟨by simp only [lenS]; rfl, ?_⟩ | refine ⟨by push_cast; rfl, ?_⟩ | refine ⟨by (show some (Value.bool _) = some (Value.bool _); congr 2; all_goals ((first | rfl | exact absurd hT1 hg1 | (exfalso; exact hg1 hT1)))), ?_⟩))
               · rfl
         · first | have hT2 := of_decide_eq_true hT2 | have hT2 := of_not_decide_true hT2 | skip
           refine go [7,2,8,1,7,1,8,2,16,9,10,0] ?_
           refine Ent.split 30 (by rfl) (fun hT3 => ?_) (fun hT3 => ?_)
           · first | have hT3 := of_decide_eq_false hT3 | have hT3 := of_not_decide_false hT3 | skip
             refine go [7,3,8,1,17,0] ?_
             refine Ent.split 34 (by rfl) (fun hT4 => ?_) (fun hT4 => ?_)
             · first | have hT4 := of_decide_eq_false hT4 | have hT4 := of_not_decide_false hT4 | skip
               refine go [1,1,1,1,1,10,10,0,7,4,8,1,17,0] ?_
               refine Ent.split 46 (by rfl) (fun hT5 => ?_) (fun hT5 => ?_)
               · first | have hT5 := of_decide_eq_false hT5 | have hT5 := of_not_decide_false hT5 | skip
                 refine go [1,1,1,1,1,10,10,2] ?_
                 refine Ent.pick [0] (by rfl) ?_
                 refine Ent.inv () ?_ ?_ ?_
                 · exact trivial
                 · (repeat (first | exact trivial | refine ⟨by rfl, ?_⟩ | refine ⟨by simp only [lenS]; rfl, ?_⟩ | refine ⟨by push_cast; rfl, ?_⟩ | refine ⟨by (show some (Value.bool _) = some (Value.bool _); congr 2; all_goals ((first | rfl | exact absurd hT1 hg1 | (exfalso; exact hg1 hT1)))), ?_⟩))
                 · rfl
               · first | have hT5 := of_decide_eq_true hT5 | have hT5 := of_not_decide_true hT5 | skip
                 refine go [7,4,8,1,7,3,8,2,16,9,10,2] ?_
                 refine Ent.pick [0] (by rfl) ?_
                 refine Ent.inv () ?_ ?_ ?_
                 · exact trivial
                 · (repeat (first | exact trivial | refine ⟨by rfl, ?_⟩ | refine ⟨by simp only [lenS]; rfl, ?_⟩ | refine ⟨by push_cast; rfl, ?_⟩ | refine ⟨by (show some (Value.bool _) = some (Value.bool _); congr 2; all_goals ((first | rfl | exact absurd hT1 hg1 | (exfalso; exact hg1 hT1)))), ?_⟩))
                 · rfl
             · first | have hT4 := of_decide_eq_true hT4 | have hT4 := of_not_decide_true hT4 | skip
               refine go [7,3,8,1,7,2,8,2,16,9,10,0] ?_
               refine Ent.split 42 (by rfl) (fun hT5 => ?_) (fun hT5 => ?_)
               · first | have hT5 := of_decide_eq_false hT5 | have hT5 := of_not_decide_false hT5 | skip
                 refine go [7,4,8,1,17,0] ?_
                 refine Ent.split 46 (by rfl) (fun hT6 => ?_) (fun hT6 => ?_)
                 · first | have hT6 := of_decide_eq_false hT6 | have hT6 := of_not_decide_false hT6 | skip
                   refine go [1,1,1,1,1,10,10,2] ?_
                   refine Ent.pick [0] (by rfl) ?_
                   refine Ent.inv () ?_ ?_ ?_
                   · exact trivial
                   · (repeat (first | exact trivial | refine ⟨by rfl, ?_⟩ | refine ⟨by simp only [lenS]; rfl, ?_⟩ | refine ⟨by push_cast; rfl, ?_⟩ | refine ⟨by (show some (Value.bool _) = some (Value.bool _); congr 2; all_goals ((first | rfl | exact absurd hT1 hg1 | (exfalso; exact hg1 hT1)))), ?_⟩))
                   · rfl
                 · first | have hT6 := of_decide_eq_true hT6 | have hT6 := of_not_decide_true hT6 | skip
                   refine go [7,4,8,1,7,3,8,2,16,9,10,2] ?_
                   refine Ent.pick [0] (by rfl) ?_
                   refine Ent.inv () ?_ ?_ ?_
                   · exact trivial
                   · (repeat (first | exact trivial | refine ⟨by rfl, ?_⟩ | refine ⟨by simp only [lenS]; rfl, ?_⟩ | refine ⟨by push_cast; rfl, ?_⟩ | refine ⟨by (show some (Value.bool _) = some (Value.bool _); congr 2; all_goals ((first | rfl | exact absurd hT1 hg1 | (exfalso; exact hg1 hT1)))), ?_⟩))
                   · rfl
               · first | have hT5 := of_decide_eq_true hT5 | have hT5 := of_not_decide_true hT5 | skip
                 refine go [1,1,1,1,1,1,1,1,1,1,9,2] ?_
                 refine Ent.pick [0] (by rfl) ?_
                 refine Ent.inv () ?_ ?_ ?_
                 · exact trivial
                 · (repeat (first | exact trivial | refine ⟨by rfl, ?_⟩ | refine ⟨by simp only [lenS]; rfl, ?_⟩ | refine ⟨by push_cast; rfl, ?_⟩ | refine ⟨by (show some (Value.bool _) = some (Value.bool _); congr 2; all_goals ((first | rfl | exact absurd hT1 hg1 | (exfalso; exact hg1 hT1)))), ?_⟩))
                 · rfl
           · first | have hT3 := of_decide_eq_true hT3 | have hT3 := of_not_decide_true hT3 | skip
             refine go [1,1,1,1,1,1,1,1,1,1,9,0,1,1,1,1,1,1,1,1,1,1,9,2] ?_
             refine Ent.pick [0] (by rfl) ?_
             refine Ent.inv () ?_ ?_ ?_
             · exact trivial
             · (repeat (first | exact trivial | refine ⟨by rfl, ?_⟩ | refine ⟨by simp only [lenS]; rfl, ?_⟩ | refine ⟨by push_cast; rfl, ?_⟩ | refine ⟨by (show some (Value.bool _) = some (Value.bool _); congr 2; all_goals ((first | rfl | exact absurd hT1 hg1 | (exfalso; exact hg1 hT1)))), ?_⟩))
             · rfl
       · first | have hT1 := of_decide_eq_true hT1 | have hT1 := of_not_decide_true hT1 | skip
         refine go [1,1,1,1,1,1,1,1,1,1,9,0,1,1,1,1,1,1,1,1,1,1,9,0] ?_
         refine go [1,1,1,1,1,1,1,1,1,1,9,2] ?_
         refine Ent.pick [0] (by rfl) ?_
         refine Ent.inv () ?_ ?_ ?_
         · exact trivial
         · (repeat (first | exact trivial | refine ⟨by rfl, ?_⟩ | refine ⟨by simp only [lenS]; rfl, ?_⟩ | refine ⟨by push_cast; rfl, ?_⟩ | refine ⟨by (show some (Value.bool _) = some (Value.bool _); congr 2; all_goals ((first | rfl | exact absurd hT1 hg1 | (exfalso; exact hg1 hT1)))), ?_⟩))
         · rfl
   rintro _ -
   refine go [23,3,4] ?_
   refine Ls.qE 54 (Ev.buildP (pl := [(0, 1), (1, 1), (2, 1), (3, 1)]) (zs := [.slice none 0 0, .int .i64 0, .int .i64 0, .int .i64 0]) rfl (by rfl) (by kernel_rfl) (by rfl)) ?_
   refine go [15,0,5,2,22] ?_
   exact Ent.rA ((none, (none, 0, 0, 0, 0, 0))) [] (⟨fun h => (by cases h), fun h => absurd ⟨h.1, h.2.1⟩ hg⟩) (Res.cell_tmp 0 (by rfl) (by rfl) (by rfl) (n := 4) (by kernel_rfl) (by rfl) (by rfl) (by rfl))
 · obtain ⟨hg1, hg2⟩ := hg
   have hr : ¬ (e.nx ≠ 0 ∧ e.nx < v.nx) ∧ ¬ (e.lg ≠ 0 ∧ e.lg < v.lg) ∧ ¬ (e.sq ≠ 0 ∧ e.sq < v.sq) := hg2
   have hvl := good_few hg1
   refine Cd.cut (ι := Unit) (fun _ => [(2, ptrW g1), (3, ptrW g2), (4, ptrW g3), (53, .bool false)]) (fun _ => [blk g3 24 [.slice none 0 0, .int .i64 0, .int .i64 0, .int .i64 0], blk g2 27 [.slice B e.add.length b, .slice D e.drop.length d, .int .i64 e.nx, .int .i64 e.lg, .int .i64 e.sq], blk g1 24 [.slice A v.tbs.length c, .int .i64 v.nx, .int .i64 v.lg, .int .i64 v.sq], rdT A v.tbs, rdT B e.add, rd D e.drop.length 1 (ints e.drop)]) (fun _ => True) ?_ ?_
   · refine go [4,12,2,4] ?_
     refine Ls.does (some 16) (Does.read rfl Tryz.func22 (by kernel_rfl) (by kernel_rfl) (rgood_sl v A c (by omega) (fun t ht => ⟨(fv t ht).1, (fv t ht).2.1⟩)) (by rfl) (by rfl) ⟨ReadsIn.rd 3 (by rfl), trivial⟩) (by rfl) (by rfl) ?_
     rintro _ -
     refine go [20,0] ?_
     refine Ent.split 18 (by rfl) (fun hT1 => ?_) (fun hT1 => ?_)
     · first | have hT1 := of_decide_eq_false hT1 | have hT1 := of_not_decide_false hT1 | skip
       refine go [7,2,8,1,17,0] ?_
       refine Ent.split 22 (by rfl) (fun hT2 => ?_) (fun hT2 => ?_)
       · first | have hT2 := of_decide_eq_false hT2 | have hT2 := of_not_decide_false hT2 | skip
         refine go [1,1,1,1,1,10,10,0,7,3,8,1,17,0] ?_
         refine Ent.split 34 (by rfl) (fun hT3 => ?_) (fun hT3 => ?_)
         · first | have hT3 := of_decide_eq_false hT3 | have hT3 := of_not_decide_false hT3 | skip
           refine go [1,1,1,1,1,10,10,0,7,4,8,1,17,0] ?_
           refine Ent.split 46 (by rfl) (fun hT4 => ?_) (fun hT4 => ?_)
           · first | have hT4 := of_decide_eq_false hT4 | have hT4 := of_not_decide_false hT4 | skip
             refine go [1,1,1,1,1,10,10,2] ?_
             refine Ent.inv () ?_ ?_ ?_
             · exact trivial
             · (repeat (first | exact trivial | refine ⟨by rfl, ?_⟩ | refine ⟨by simp only [lenS]; rfl, ?_⟩ | refine ⟨by push_cast; rfl, ?_⟩ | refine ⟨by (show some (Value.bool _) = some (Value.bool _); congr 2; all_goals ((first | rfl | exact absurd hg1 hT1 | exact decide_eq_false (by omega) | exact (decide_eq_false (by omega)).symm | (exfalso; omega)))), ?_⟩))
             · rfl
           · first | have hT4 := of_decide_eq_true hT4 | have hT4 := of_not_decide_true hT4 | skip
             refine go [7,4,8,1,7,3,8,2,16,9,10,2] ?_
             refine Ent.inv () ?_ ?_ ?_
             · exact trivial
             · (repeat (first | exact trivial | refine ⟨by rfl, ?_⟩ | refine ⟨by simp only [lenS]; rfl, ?_⟩ | refine ⟨by push_cast; rfl, ?_⟩ | refine ⟨by (show some (Value.bool _) = some (Value.bool _); congr 2; all_goals ((first | rfl | exact absurd hg1 hT1 | exact decide_eq_false (by omega) | exact (decide_eq_false (by omega)).symm | (exfalso; omega)))), ?_⟩))
             · rfl
         · first | have hT3 := of_decide_eq_true hT3 | have hT3 := of_not_decide_true hT3 | skip
           refine go [7,3,8,1,7,2,8,2,16,9,10,0] ?_
           refine Ent.split 42 (by rfl) (fun hT4 => ?_) (fun hT4 => ?_)
           · first | have hT4 := of_decide_eq_false hT4 | have hT4 := of_not_decide_false hT4 | skip
             refine go [7,4,8,1,17,0] ?_
             refine Ent.split 46 (by rfl) (fun hT5 => ?_) (fun hT5 => ?_)
             · first | have hT5 := of_decide_eq_false hT5 | have hT5 := of_not_decide_false hT5 | skip
               refine go [1,1,1,1,1,10,10,2] ?_
               refine Ent.inv () ?_ ?_ ?_
               · exact trivial
               · (repeat (first | exact trivial | refine ⟨by rfl, ?_⟩ | refine ⟨by simp only [lenS]; rfl, ?_⟩ | refine ⟨by push_cast; rfl, ?_⟩ | refine ⟨by (show some (Value.bool _) = some (Value.bool _); congr 2; all_goals ((first | rfl | exact absurd hg1 hT1 | exact decide_eq_false (by omega) | exact (decide_eq_false (by omega)).symm | (exfalso; omega)))), ?_⟩))
               · rfl
             · first | have hT5 := of_decide_eq_true hT5 | have hT5 := of_not_decide_true hT5 | skip
               refine go [7,4,8,1,7,3,8,2,16,9,10,2] ?_
               refine Ent.inv () ?_ ?_ ?_
               · exact trivial
               · (repeat (first | exact trivial | refine ⟨by rfl, ?_⟩ | refine ⟨by simp only [lenS]; rfl, ?_⟩ | refine ⟨by push_cast; rfl, ?_⟩ | refine ⟨by (show some (Value.bool _) = some (Value.bool _); congr 2; all_goals ((first | rfl | exact absurd hg1 hT1 | exact decide_eq_false (by omega) | exact (decide_eq_false (by omega)).symm | (exfalso; omega)))), ?_⟩))
               · rfl
           · first | have hT4 := of_decide_eq_true hT4 | have hT4 := of_not_decide_true hT4 | skip
             refine go [1,1,1,1,1,1,1,1,1,1,9,2] ?_
             refine Ent.inv () ?_ ?_ ?_
             · exact trivial
             · (repeat (first | exact trivial | refine ⟨by rfl, ?_⟩ | refine ⟨by simp only [lenS]; rfl, ?_⟩ | refine ⟨by push_cast; rfl, ?_⟩ | refine ⟨by (show some (Value.bool _) = some (Value.bool _); congr 2; all_goals ((first | rfl | exact absurd hg1 hT1 | exact decide_eq_false (by omega) | exact (decide_eq_false (by omega)).symm | (exfalso; omega)))), ?_⟩))
             · rfl
       · first | have hT2 := of_decide_eq_true hT2 | have hT2 := of_not_decide_true hT2 | skip
         refine go [7,2,8,1,7,1,8,2,16,9,10,0] ?_
         refine Ent.split 30 (by rfl) (fun hT3 => ?_) (fun hT3 => ?_)
         · first | have hT3 := of_decide_eq_false hT3 | have hT3 := of_not_decide_false hT3 | skip
           refine go [7,3,8,1,17,0] ?_
           refine Ent.split 34 (by rfl) (fun hT4 => ?_) (fun hT4 => ?_)
           · first | have hT4 := of_decide_eq_false hT4 | have hT4 := of_not_decide_false hT4 | skip
             refine go [1,1,1,1,1,10,10,0,7,4,8,1,17,0] ?_
             refine Ent.split 46 (by rfl) (fun hT5 => ?_) (fun hT5 => ?_)
             · first | have hT5 := of_decide_eq_false hT5 | have hT5 := of_not_decide_false hT5 | skip
               refine go [1,1,1,1,1,10,10,2] ?_
               refine Ent.inv () ?_ ?_ ?_
               · exact trivial
               · (repeat (first | exact trivial | refine ⟨by rfl, ?_⟩ | refine ⟨by simp only [lenS]; rfl, ?_⟩ | refine ⟨by push_cast; rfl, ?_⟩ | refine ⟨by (show some (Value.bool _) = some (Value.bool _); congr 2; all_goals ((first | rfl | exact absurd hg1 hT1 | exact decide_eq_false (by omega) | exact (decide_eq_false (by omega)).symm | (exfalso; omega)))), ?_⟩))
               · rfl
             · first | have hT5 := of_decide_eq_true hT5 | have hT5 := of_not_decide_true hT5 | skip
               refine go [7,4,8,1,7,3,8,2,16,9,10,2] ?_
               refine Ent.inv () ?_ ?_ ?_
               · exact trivial
               · (repeat (first | exact trivial | refine ⟨by rfl, ?_⟩ | refine ⟨by simp only [lenS]; rfl, ?_⟩ | refine ⟨by push_cast; rfl, ?_⟩ | refine ⟨by (show some (Value.bool _) = some (Value.bool _); congr 2; all_goals ((first | rfl | exact absurd hg1 hT1 | exact decide_eq_false (by omega) | exact (decide_eq_false (by omega)).symm | (exfalso; omega)))), ?_⟩))
               · rfl
           · first | have hT4 := of_decide_eq_true hT4 | have hT4 := of_not_decide_true hT4 | skip
             refine go [7,3,8,1,7,2,8,2,16,9,10,0] ?_
             refine Ent.split 42 (by rfl) (fun hT5 => ?_) (fun hT5 => ?_)
             · first | have hT5 := of_decide_eq_false hT5 | have hT5 := of_not_decide_false hT5 | skip
               refine go [7,4,8,1,17,0] ?_
               refine Ent.split 46 (by rfl) (fun hT6 => ?_) (fun hT6 => ?_)
               · first | have hT6 := of_decide_eq_false hT6 | have hT6 := of_not_decide_false hT6 | skip
                 refine go [1,1,1,1,1,10,10,2] ?_
                 refine Ent.inv () ?_ ?_ ?_
                 · exact trivial
                 · (repeat (first | exact trivial | refine ⟨by rfl, ?_⟩ | refine ⟨by simp only [lenS]; rfl, ?_⟩ | refine ⟨by push_cast; rfl, ?_⟩ | refine ⟨by (show some (Value.bool _) = some (Value.bool _); congr 2; all_goals ((first | rfl | exact absurd hg1 hT1 | exact decide_eq_false (by omega) | exact (decide_eq_false (by omega)).symm | (exfalso; omega)))), ?_⟩))
                 · rfl
               · first | have hT6 := of_decide_eq_true hT6 | have hT6 := of_not_decide_true hT6 | skip
                 refine go [7,4,8,1,7,3,8,2,16,9,10,2] ?_
                 refine Ent.inv () ?_ ?_ ?_
                 · exact trivial
                 · (repeat (first | exact trivial | refine ⟨by rfl, ?_⟩ | refine ⟨by simp only [lenS]; rfl, ?_⟩ | refine ⟨by push_cast; rfl, ?_⟩ | refine ⟨by (show some (Value.bool _) = some (Value.bool _); congr 2; all_goals ((first | rfl | exact absurd hg1 hT1 | exact decide_eq_false (by omega) | exact (decide_eq_false (by omega)).symm | (exfalso; omega)))), ?_⟩))
                 · rfl
             · first | have hT5 := of_decide_eq_true hT5 | have hT5 := of_not_decide_true hT5 | skip
               refine go [1,1,1,1,1,1,1,1,1,1,9,2] ?_
               refine Ent.inv () ?_ ?_ ?_
               · exact trivial
               · (repeat (first | exact trivial | refine ⟨by rfl, ?_⟩ | refine ⟨by simp only [lenS]; rfl, ?_⟩ | refine ⟨by push_cast; rfl, ?_⟩ | refine ⟨by (show some (Value.bool _) = some (Value.bool _); congr 2; all_goals ((first | rfl | exact absurd hg1 hT1 | exact decide_eq_false (by omega) | exact (decide_eq_false (by omega)).symm | (exfalso; omega)))), ?_⟩))
               · rfl
         · first | have hT3 := of_decide_eq_true hT3 | have hT3 := of_not_decide_true hT3 | skip
           refine go [1,1,1,1,1,1,1,1,1,1,9,0,1,1,1,1,1,1,1,1,1,1,9,2] ?_
           refine Ent.inv () ?_ ?_ ?_
           · exact trivial
           · (repeat (first | exact trivial | refine ⟨by rfl, ?_⟩ | refine ⟨by simp only [lenS]; rfl, ?_⟩ | refine ⟨by push_cast; rfl, ?_⟩ | refine ⟨by (show some (Value.bool _) = some (Value.bool _); congr 2; all_goals ((first | rfl | exact absurd hg1 hT1 | exact decide_eq_false (by omega) | exact (decide_eq_false (by omega)).symm | (exfalso; omega)))), ?_⟩))
           · rfl
     · first | have hT1 := of_decide_eq_true hT1 | have hT1 := of_not_decide_true hT1 | skip
       refine go [1,1,1,1,1,1,1,1,1,1,9,0,1,1,1,1,1,1,1,1,1,1,9,0] ?_
       refine go [1,1,1,1,1,1,1,1,1,1,9,2] ?_
       refine Ent.inv () ?_ ?_ ?_
       · exact trivial
       · (repeat (first | exact trivial | refine ⟨by rfl, ?_⟩ | refine ⟨by simp only [lenS]; rfl, ?_⟩ | refine ⟨by push_cast; rfl, ?_⟩ | refine ⟨by (show some (Value.bool _) = some (Value.bool _); congr 2; all_goals ((first | rfl | exact absurd hg1 hT1 | exact decide_eq_false (by omega) | exact (decide_eq_false (by omega)).symm | (exfalso; omega)))), ?_⟩))
       · rfl
   rintro _ -
   refine go [24,6,3,4,7,1,8,2,7,2,8,1] ?_
   refine Ls.qE 59 (Ev.max rfl (by rfl) (by rfl)) ?_
   refine go [7,2,8,2,7,3,8,1] ?_
   refine Ls.qE 64 (Ev.max rfl (by rfl) (by rfl)) ?_
   refine go [7,3,8,2,7,4,8,1] ?_
   refine Ls.qE 69 (Ev.max rfl (by rfl) (by rfl)) ?_
   refine Ls.qE 70 (Ev.buildP (pl := [(0, 1), (1, 1), (2, 1), (3, 1)]) (zs := [.slice none 0 0, .int .i64 0, .int .i64 0, .int .i64 0]) rfl (by rfl) (by kernel_rfl) (by rfl)) ?_
   refine Ls.does (some 6) (Does.alloc (cs := [.slice none 0 0, .int .i64 0, .int .i64 0, .int .i64 0]) rfl (ZeroIs.mk (.agg #[.slice none 0 0, .int .i64 0, .int .i64 0, .int .i64 0]) (by kernel_rfl) (by rfl))) (by rfl) (by rfl) ?_
   intro g4 _
   refine go [15,0,25,5,25,5,2,3,3,4,5,2,21] ?_
   have hmx : ∀ a b : Int, (if a < b then b else a) = max a b := fun a b => by split <;> omega
   rw [hmx, hmx, hmx]
   refine Ent.nil 42 4 ?_
   refine Cd.loop (ι := Nat × Nat × (Option Addr × Nat) × List TbP) (fun p => [(2, ptrW g1), (3, ptrW g2), (4, ptrW g3), (6, ptrW g4), (7, .slice p.2.2.1.1 p.2.2.2.length p.2.2.1.2), (8, .int .i64 p.2.1), (9, .int .i64 p.1)]) (fun p => [rowTb p.2.2.1.1 p.2.2.2.length p.2.2.1.2 p.2.2.2, blk g4 24 [.slice none 0 0, .int .i64 (max v.nx e.nx), .int .i64 (max v.lg e.lg), .int .i64 (max v.sq e.sq)], blk g3 24 [.slice none 0 0, .int .i64 0, .int .i64 0, .int .i64 0], blk g2 27 [.slice B e.add.length b, .slice D e.drop.length d, .int .i64 e.nx, .int .i64 e.lg, .int .i64 e.sq], blk g1 24 [.slice A v.tbs.length c, .int .i64 v.nx, .int .i64 v.lg, .int .i64 v.sq], rdT A v.tbs, rdT B e.add, rd D e.drop.length 1 (ints e.drop)]) (fun p => p.1 ≤ v.tbs.length ∧ p.2.2.2 = keptN (v.tbs.take p.1) e.drop ∧ p.2.1 = goneN (v.tbs.take p.1) e.drop ∧ ∀ t ∈ v.tbs.take p.1, e.drop.count t.num ≤ 1) (fun p => v.tbs.length - p.1) ((0, 0, (none, 0), [])) (⟨Nat.zero_le _, rfl, rfl, fun t h => absurd (show t ∈ [] from h) List.not_mem_nil⟩) ?_ rfl ?_
   · (repeat (first | exact trivial | refine ⟨by rfl, ?_⟩))
   rintro ⟨i, gn, ⟨kA, kc⟩, K⟩ ⟨hi, hK, hgn, hone⟩
   dsimp only at hi hK hgn hone ⊢
   have hKl : K.length ≤ v.tbs.length := by
    rw [hK]
    exact Nat.le_trans (List.length_filter_le _ _) (by rw [List.length_take]; omega)
   have hgl : gn ≤ v.tbs.length := by
    rw [hgn]
    exact Nat.le_trans (goneN_le hone) (by rw [List.length_take]; omega)
   refine go [3,3,4,0,7,0,8,4] ?_
   refine Ls.qE 74 (Ev.len rfl (by rfl) Tryz.underlying22) ?_
   refine go [16,2] ?_
   refine Cd.cond _ (by rfl) (fun h2 => ?_) (fun h2 => ?_)
   · have hlt : i < v.tbs.length := by have := of_decide_eq_true h2; omega
     obtain ⟨t, ht⟩ := get_of_lt hlt
     have htk : v.tbs.take (i + 1) = v.tbs.take i ++ [t] := by rw [List.take_add_one, ht]; rfl
     refine Ent.rdSome 5 (by rfl) (by omega) (fun ad had => ?_)
     obtain rfl : A = some ad := had
     refine go [6,3,21,3,4,5,2,3,3,4,5,2,21] ?_
     refine Cd.loop (ι := Nat × Nat) (fun p => [(2, ptrW g1), (3, ptrW g2), (4, ptrW g3), (6, ptrW g4), (7, .slice kA K.length kc), (8, .int .i64 gn), (9, .int .i64 i), (10, .int .i64 p.2), (11, .int .i64 p.1)]) (fun _ => [rowTb kA K.length kc K, blk g4 24 [.slice none 0 0, .int .i64 (max v.nx e.nx), .int .i64 (max v.lg e.lg), .int .i64 (max v.sq e.sq)], blk g3 24 [.slice none 0 0, .int .i64 0, .int .i64 0, .int .i64 0], blk g2 27 [.slice B e.add.length b, .slice D e.drop.length d, .int .i64 e.nx, .int .i64 e.lg, .int .i64 e.sq], blk g1 24 [.slice (some ad) v.tbs.length c, .int .i64 v.nx, .int .i64 v.lg, .int .i64 v.sq], rdT (some ad) v.tbs, rdT B e.add, rd D e.drop.length 1 (ints e.drop)]) (fun p => p.1 ≤ e.drop.length ∧ p.2 = (e.drop.take p.1).count t.num) (fun p => e.drop.length - p.1) ((0, 0)) (⟨Nat.zero_le _, rfl⟩) ?_ rfl ?_
     · (repeat (first | exact trivial | refine ⟨by rfl, ?_⟩))
     rintro ⟨k, n⟩ ⟨hk, hn⟩
     dsimp only at hk hn ⊢
     have hnl : n ≤ k := by
      rw [hn]
      exact Nat.le_trans List.count_le_length (by rw [List.length_take]; omega)
     refine go [3,3,4,0,7,1,8,3] ?_
     refine Ls.qE 81 (Ev.len rfl (by rfl) Tryz.underlying25) ?_
     refine go [16,2] ?_
     refine Cd.cond _ (by rfl) (fun h3 => ?_) (fun h3 => ?_)
     · have hkl : k < e.drop.length := by have := of_decide_eq_true h3; omega
       obtain ⟨x, hx⟩ := get_of_lt hkl
       have hcx : (e.drop.take (k + 1)).count t.num = n + if x = t.num then 1 else 0 := by
        rw [List.take_add_one, hx, hn]
        exact count_snoc _ _ _
       refine Ent.rdSome 7 (by rfl) (by omega) (fun dd hdd => ?_)
       obtain rfl : D = some dd := hdd
       refine go [6,3,21,3] ?_
       refine Cd.draw [] (by kernel_rfl) ?_
       refine Rg.qE 0 85 (by rfl) (Ev.fieldAddr (k := 1) rfl (by rfl) (by kernel_rfl) (by rfl)) ?_
       refine Rg.qE 1 86 (by rfl) (Ev.load 3 rfl (by rfl) (by rfl) (by kernel_rfl) (by rfl)) ?_
       refine Rg.qE 2 87 (by rfl) (Ev.move rfl (by rfl)) ?_
       refine Rg.qE 3 88 (by rfl) (Ev.indexAt (sz := 1) rfl (by rfl) (by rfl) Tryz.underlying25 (by kernel_rfl) (by omega)) ?_
       refine Rg.qE 4 89 (by rfl) (Ev.loadInt rfl (by rfl) (ReadsIn.rd 7 (by rfl)) (by kernel_rfl) (by assumption)) ?_
       refine Rg.qE 5 90 (by rfl) (Ev.fieldAddr (k := 0) rfl (by rfl) (by kernel_rfl) (by rfl)) ?_
       refine Rg.qE 6 91 (by rfl) (Ev.load 4 rfl (by rfl) (by rfl) (by kernel_rfl) (by rfl)) ?_
       refine Rg.qE 7 92 (by rfl) (Ev.move rfl (by rfl)) ?_
       refine Rg.qE 8 93 (by rfl) (Ev.indexAt (sz := 4) rfl (by rfl) (by rfl) Tryz.underlying22 (by kernel_rfl) (by omega)) ?_
       refine Rg.qE 9 94 (by rfl) (Ev.fieldAddrE0 (k := 0) rfl (by rfl) (by kernel_rfl)) ?_
       refine Rg.qE 10 95 (by rfl) (Ev.loadElF rfl (by rfl) (ReadsIn.rd 5 (by rfl)) (by kernel_rfl) (by intro _; rfl) (by assumption) (by rfl)) ?_
       refine Rg.qE 11 96 (by rfl) (Ev.eql rfl (by rfl) (by rfl)) ?_
       refine Rg.done (by kernel_rfl) ?_ _
       by_cases hxe : x = t.num
       · rw [if_pos hxe] at hcx
         refine Cd.cond_true (by rfl) (decide_eq_true hxe) ?_
         refine go [4,0] ?_
         refine Ls.qE 98 (Ev.addN (b := 1) rfl (by rfl) (by rfl) (by omega)) ?_
         refine go [5,2,4,0] ?_
         refine Ls.qE 84 (Ev.addN (b := 1) rfl (by rfl) (by rfl) (by omega)) ?_
         refine go [5,2] ?_
         refine Ent.iA ((k + 1, n + 1)) ?_
         (try dsimp only); exact ⟨⟨hkl, hcx.symm⟩, by omega⟩
       · rw [if_neg hxe] at hcx
         refine Cd.cond_false (by rfl) (decide_eq_false hxe) ?_
         refine go [6,4,0] ?_
         refine Ls.qE 84 (Ev.addN (b := 1) rfl (by rfl) (by rfl) (by omega)) ?_
         refine go [5,2] ?_
         refine Ent.iA ((k + 1, n)) ?_
         (try dsimp only); exact ⟨⟨hkl, hcx.symm⟩, by omega⟩
     have hge : e.drop.length ≤ k := by have := of_decide_eq_false h3; omega
     rw [List.take_of_length_le hge] at hn
     refine Cd.exit ?_
     refine go [3,3,4,0,18,2] ?_
     by_cases hmany : 1 < n
     · refine Cd.cond_true (by rfl) (decide_eq_true (show (1 : Int) < (n : Int) by omega)) ?_
       refine go [3,4] ?_
       refine Ls.qE 101 (Ev.buildP (pl := [(0, 1), (1, 1), (2, 1), (3, 1)]) (zs := [.slice none 0 0, .int .i64 0, .int .i64 0, .int .i64 0]) rfl (by rfl) (by kernel_rfl) (by rfl)) ?_
       refine go [15,2,5,2,22] ?_
       exact Ent.rA ((none, (none, 0, 0, 0, 0, 0))) [] (⟨fun h => (by cases h), fun h => absurd (((drop_iff hg1 e.drop).1 h.2.2.1).1 t (List.mem_of_getElem? ht)) (by omega)⟩) (Res.cell_tmp 2 (by rfl) (by rfl) (by rfl) (n := 4) (by kernel_rfl) (by rfl) (by rfl) (by rfl))
     have hone2 : ∀ u ∈ v.tbs.take (i + 1), e.drop.count u.num ≤ 1 := fun u hu => by
      rw [htk] at hu
      rcases List.mem_append.1 hu with hu | hu
      · exact hone u hu
      · rw [List.mem_singleton.1 hu]
        omega
     have hgn2 : goneN (v.tbs.take (i + 1)) e.drop = gn + n := by rw [htk, goneN_snoc, ← hgn, ← hn]
     have hK2 : keptN (v.tbs.take (i + 1)) e.drop = K ++ if n = 0 then [t] else [] := by rw [htk, keptN_snoc, ← hK, ← hn]
     refine Cd.cond_false (by rfl) (decide_eq_false (show ¬ ((1 : Int) < (n : Int)) by omega)) ?_
     refine go [6,3,3,4,0,19,2] ?_
     by_cases hn0 : n = 0
     · rw [if_pos hn0] at hK2
       refine Cd.cond_true (by rfl) (decide_eq_true (show (n : Int) = 0 by omega)) ?_
       refine go [4,0,7,0,8,4,0] ?_
       refine Ls.qE 108 (Ev.indexAt (sz := 4) rfl (by rfl) (by rfl) Tryz.underlying22 (by kernel_rfl) (by omega)) ?_
       refine Ls.qE 109 (Ev.loadEl (enc := TbP.enc) (sz := 4) rfl (by rfl) (ReadsIn.rd 5 (by rfl)) (by kernel_rfl) (fun _ => rfl) ht) ?_
       refine Ls.does (some 110) (Does.lit (sz := 4) rfl (by rfl) Tryz.underlying22 (by kernel_rfl) (by rfl) (by kernel_rfl)) (by rfl) (by rfl) ?_
       intro g5 _
       refine Ls.does (some 111) (Does.app (xs := tbs K) (news := tbs [t]) 1 rfl (by rfl) (by rfl) (by rfl) (ReadsIn.row 0 (by rfl)) elem_tb (one_tb _) (show (K.length + 1) * 48 ≤ 140737488355328 by omega)) (by rfl) (by rfl) ?_
       rintro ⟨qA, qc⟩ -
       have hrow : row qA (K.length + 1) qc 42 4 (tbs K ++ tbs [t]) = rowTb qA (K ++ [t]).length qc (K ++ [t]) := by
        rw [← tbs_append, List.length_append]
        rfl
       refine go [5,2,4,0,0] ?_
       refine Ls.qE 114 (Ev.addN rfl (by rfl) (by rfl) (by omega)) ?_
       refine go [5,2,4,0] ?_
       refine Ls.qE 77 (Ev.addN (b := 1) rfl (by rfl) (by rfl) (by omega)) ?_
       refine go [5,2] ?_
       refine Ent.pick [1, 2, 3, 4, 5, 6, 7, 8] (by rfl) ?_
       refine Ent.inv ((i + 1, gn + n, (qA, qc), K ++ [t])) ?_ ?_ ?_
       · (try dsimp only); exact ⟨⟨hlt, hK2.symm, hgn2.symm, hone2⟩, by omega⟩
       · (repeat (first | exact trivial | refine ⟨by rfl, ?_⟩ | refine ⟨by simp only [lenS]; rfl, ?_⟩ | refine ⟨by push_cast; rfl, ?_⟩ | refine ⟨by (show some (Value.slice _ _ _) = some (Value.slice _ _ _); rw [List.length_append]; rfl), ?_⟩))
       · (show [_, _, _, _, _, _, _, _] = [_, _, _, _, _, _, _, _]; dsimp only; rw [← hrow] <;> rfl)
     · rw [if_neg hn0, List.append_nil] at hK2
       refine Cd.cond_false (by rfl) (decide_eq_false (show ¬ ((n : Int) = 0) by omega)) ?_
       refine go [6,4,0,0] ?_
       refine Ls.qE 114 (Ev.addN rfl (by rfl) (by rfl) (by omega)) ?_
       refine go [5,2,4,0] ?_
       refine Ls.qE 77 (Ev.addN (b := 1) rfl (by rfl) (by rfl) (by omega)) ?_
       refine go [5,2] ?_
       refine Ent.iA ((i + 1, gn + n, (kA, kc), K)) ?_
       (try dsimp only); exact ⟨⟨hlt, hK2.symm, hgn2.symm, hone2⟩, by omega⟩
   have hge : v.tbs.length ≤ i := by have := of_decide_eq_false h2; omega
   rw [List.take_of_length_le hge] at hK hgn hone
   have hKk : K = keptT v e.drop := by rw [kept_count]; exact hK
   refine Cd.exit ?_
   refine go [3,3,4,0,7,1,8,3] ?_
   refine Ls.qE 118 (Ev.len rfl (by rfl) Tryz.underlying25) ?_
   refine go [17,2] ?_
   by_cases hgone : gn = e.drop.length
   rotate_left
   · refine Cd.cond_true (by rfl) (decide_eq_true (show (gn : Int) ≠ (e.drop.length : Int) by omega)) ?_
     refine go [3,4] ?_
     refine Ls.qE 120 (Ev.buildP (pl := [(0, 1), (1, 1), (2, 1), (3, 1)]) (zs := [.slice none 0 0, .int .i64 0, .int .i64 0, .int .i64 0]) rfl (by rfl) (by kernel_rfl) (by rfl)) ?_
     refine go [15,2,5,2,22] ?_
     exact Ent.rA ((none, (none, 0, 0, 0, 0, 0))) [] (⟨fun h => (by cases h), fun h => absurd (((drop_iff hg1 e.drop).1 h.2.2.1).2) (by rw [hgn] at hgone; exact hgone)⟩) (Res.cell_tmp 2 (by rfl) (by rfl) (by rfl) (n := 4) (by kernel_rfl) (by rfl) (by rfl) (by rfl))
   have hdok : DropOk v e.drop := (drop_iff hg1 e.drop).2 ⟨hone, by rw [hgn] at hgone; exact hgone⟩
   refine Cd.cond_false (by rfl) (decide_eq_false (show ¬ ((gn : Int) ≠ (e.drop.length : Int)) by omega)) ?_
   refine go [6,3,4,0,7,0,8,3] ?_
   refine Ls.does (some 124) (Does.app (xs := tbs K) (news := tbs e.add) 0 rfl (by rfl) (by rfl) (by rfl) (ReadsIn.rd 6 (by rfl)) elem_tb (one_tb _) (show (K.length + e.add.length) * 48 ≤ 140737488355328 by omega)) (by rfl) (by rfl) ?_
   rintro ⟨qA, qc⟩ -
   have hL : row qA (K.length + e.add.length) qc 42 4 (tbs K ++ tbs e.add) = rowTb qA (K ++ e.add).length qc (K ++ e.add) := by
    rw [← tbs_append, List.length_append]
   refine go [5,2,3,21] ?_
   refine Ent.nil 42 4 ?_
   refine Ent.pick [1, 0, 2, 3] (by rfl) ?_
   refine Ent.norm ([(4, ptrW g3), (6, ptrW g4), (7, .slice qA (K ++ e.add).length qc)]) ([rowTb qA (K ++ e.add).length qc (K ++ e.add), rowTb none 0 0 [], blk g4 24 [.slice none 0 0, .int .i64 (max v.nx e.nx), .int .i64 (max v.lg e.lg), .int .i64 (max v.sq e.sq)], blk g3 24 [.slice none 0 0, .int .i64 0, .int .i64 0, .int .i64 0]]) (by repeat (first | refine ⟨by (show some (Value.slice _ _ _) = some (Value.slice _ _ _); rw [List.length_append]; rfl), ?_⟩ | exact trivial | refine ⟨by rfl, ?_⟩ | refine ⟨by simp only [List.length_append, List.length_cons, List.length_nil]; rfl, ?_⟩ | refine ⟨by push_cast; rfl, ?_⟩)) (by (rw [← hL] <;> rfl)) ?_
   have hLl : (K ++ e.add).length ≤ 20000000 := by rw [List.length_append]; omega
   obtain ⟨L0, hL0⟩ : ∃ L0, L0 = K ++ e.add := ⟨_, rfl⟩
   rw [← hL0] at hLl ⊢
   refine Cd.loop (ι := (List TbP × (Option Addr × Nat)) × (List TbP × (Option Addr × Nat))) (fun p => [(4, ptrW g3), (6, ptrW g4), (7, .slice p.2.2.1 p.2.1.length p.2.2.2)]) (fun p => [rowTb p.2.2.1 p.2.1.length p.2.2.2 p.2.1, rowTb p.1.2.1 p.1.1.length p.1.2.2 p.1.1, blk g4 24 [.slice p.1.2.1 p.1.1.length p.1.2.2, .int .i64 (max v.nx e.nx), .int .i64 (max v.lg e.lg), .int .i64 (max v.sq e.sq)], blk g3 24 [.slice none 0 0, .int .i64 0, .int .i64 0, .int .i64 0]]) (fun p => Sel L0 p.1.1 p.2.1) (fun p => p.2.1.length) ((([], (none, 0)), (L0, (qA, qc)))) (Sel.start L0) ?_ rfl ?_
   · (repeat (first | exact trivial | refine ⟨by rfl, ?_⟩))
   rintro ⟨⟨O, ⟨oA, oc⟩⟩, ⟨l, ⟨lA, lc⟩⟩⟩ hsel
   dsimp only at hsel ⊢
   have hlen : O.length + l.length = L0.length := by rw [← List.length_append]; exact hsel.perm.length_eq
   refine go [3,3,4,0] ?_
   refine Ls.qE 126 (Ev.len rfl (by rfl) Tryz.underlying22) ?_
   refine go [18,2] ?_
   refine Cd.cond _ (by rfl) (fun h5 => ?_) (fun h5 => ?_)
   · have hl0 : 0 < l.length := by have := of_decide_eq_true h5; omega
     obtain ⟨t0, ht0⟩ := get_of_lt hl0
     refine Ent.rowSome 0 (by rfl) (by omega) (fun ad had => ?_)
     obtain rfl : lA = some ad := had
     refine Ent.fact 0 (by rfl) (p := l.length ≤ lc ∧ lc ≤ maxLen) (fun w hw => ⟨Own.le hw, Own.capLe hw⟩) (fun hlc => ?_)
     refine go [6,21,3,4,5,2,3,3,4,5,2,21] ?_
     refine Cd.loop (ι := Nat × Nat) (fun p => [(4, ptrW g3), (6, ptrW g4), (7, .slice (some ad) l.length lc), (12, .int .i64 p.2), (13, .int .i64 p.1)]) (fun _ => [rowTb (some ad) l.length lc l, rowTb oA O.length oc O, blk g4 24 [.slice oA O.length oc, .int .i64 (max v.nx e.nx), .int .i64 (max v.lg e.lg), .int .i64 (max v.sq e.sq)], blk g3 24 [.slice none 0 0, .int .i64 0, .int .i64 0, .int .i64 0]]) (fun p => (1 ≤ p.1 ∧ p.1 ≤ l.length ∧ p.2 < p.1) ∧ ∀ t, l[p.2]? = some t → ∀ x ∈ l.take p.1, ltT x t = false) (fun p => l.length - p.1) ((1, 0)) (⟨⟨Nat.le_refl _, hl0, by dsimp only; omega⟩, fun t ht x hx => by
      have e1 : l.take 1 = [t0] := by rw [List.take_add_one, ht0]; rfl
      dsimp only at ht hx
      rw [ht0] at ht
      rw [e1, List.mem_singleton] at hx
      rw [hx, ← Option.some.inj ht]
      exact ltT_ord.self _⟩) ?_ rfl ?_
     · (repeat (first | exact trivial | refine ⟨by rfl, ?_⟩))
     rintro ⟨k, bst⟩ ⟨⟨hk1, hk, hbk⟩, hmin⟩
     dsimp only at hk1 hk hbk hmin ⊢
     obtain ⟨t, ht⟩ := get_of_lt (show bst < l.length by omega)
     have hmin := hmin t ht
     refine go [3,3,4,0,0] ?_
     refine Ls.qE 130 (Ev.len rfl (by rfl) Tryz.underlying22) ?_
     refine go [16,2] ?_
     refine Cd.cond _ (by rfl) (fun h6 => ?_) (fun h6 => ?_)
     · have hkl : k < l.length := by have := of_decide_eq_true h6; omega
       obtain ⟨u, hu⟩ := get_of_lt hkl
       have hst := best_step hmin hu
       refine go [6,3,21,3] ?_
       refine Cd.draw [] (by kernel_rfl) ?_
       refine Rg.qE 0 134 (by rfl) (Ev.move rfl (by rfl)) ?_
       refine Rg.qE 1 135 (by rfl) (Ev.move rfl (by rfl)) ?_
       refine Rg.qE 2 136 (by rfl) (Ev.indexAt (sz := 4) rfl (by rfl) (by rfl) Tryz.underlying22 (by kernel_rfl) (by omega)) ?_
       refine Rg.qE 3 137 (by rfl) (Ev.loadEl (enc := TbP.enc) (sz := 4) rfl (by rfl) (ReadsIn.row 0 (by rfl)) (by kernel_rfl) (fun _ => rfl) hu) ?_
       refine Rg.qE 4 138 (by rfl) (Ev.move rfl (by rfl)) ?_
       refine Rg.qE 5 139 (by rfl) (Ev.move rfl (by rfl)) ?_
       refine Rg.qE 6 140 (by rfl) (Ev.indexAt (sz := 4) rfl (by rfl) (by rfl) Tryz.underlying22 (by kernel_rfl) (by omega)) ?_
       refine Rg.qE 7 141 (by rfl) (Ev.loadEl (enc := TbP.enc) (sz := 4) rfl (by rfl) (ReadsIn.row 0 (by rfl)) (by kernel_rfl) (fun _ => rfl) ht) ?_
       refine Rg.does 8 (by rfl) (by kernel_rfl) (Does.read rfl Tryz.func41 (by kernel_rfl) (by kernel_rfl) (ahead_sl u t) (by rfl) (by rfl) trivial) (by rfl) (some 142) (by rfl) (by exact fun _ _ h => h) ?_
       rintro _ -
       refine Rg.done (by kernel_rfl) ?_ _
       cases hut : ltT u t with
       | true =>
        rw [if_pos hut] at hst
        refine go [23,4,0,5,2,4,0] ?_
        refine Ls.qE 133 (Ev.addN (b := 1) rfl (by rfl) (by rfl) (by omega)) ?_
        refine go [5,2] ?_
        refine Ent.iA ((k + 1, k)) ?_
        (try dsimp only); exact ⟨⟨⟨by omega, hkl, by omega⟩, fun w hw => by rw [hu] at hw; rw [← Option.some.inj hw]; exact hst⟩, by omega⟩
       | false =>
        rw [if_neg (by rw [hut]; exact Bool.false_ne_true)] at hst
        refine go [24,6,4,0] ?_
        refine Ls.qE 133 (Ev.addN (b := 1) rfl (by rfl) (by rfl) (by omega)) ?_
        refine go [5,2] ?_
        refine Ent.iA ((k + 1, bst)) ?_
        (try dsimp only); exact ⟨⟨⟨by omega, hkl, by omega⟩, fun w hw => by rw [ht] at hw; rw [← Option.some.inj hw]; exact hst⟩, by omega⟩
     have hge2 : l.length ≤ k := by have := of_decide_eq_false h6; omega
     rw [List.take_of_length_le hge2] at hmin
     have hsel2 := hsel.step ht hmin
     have hbl : bst < l.length := by omega
     refine Cd.exit ?_
     refine Cd.seq ?_
     refine Ent.pick [2, 0, 1, 3] (by rfl) ?_
     refine Cd.drawS [0, 1] [9] (by kernel_rfl) ?_
     refine Rg.ev 0 (by rfl) (fun _ h => h.pick [0, 1] rfl) (Ev.fieldAddr (k := 0) rfl (by rfl) (by kernel_rfl) (by rfl)) (by rfl) (some 144) (by rfl) (by kernel_rfl) (by kernel_rfl) (by kernel_rfl) (by kernel_rfl) ?_
     refine Rg.ev 1 (by rfl) (fun _ h => h.pick [0, 1] rfl) (Ev.load 0 rfl (by rfl) (by rfl) (by kernel_rfl) (by rfl)) (by rfl) (some 145) (by rfl) (by kernel_rfl) (by kernel_rfl) (by kernel_rfl) (by kernel_rfl) ?_
     refine Rg.ev 2 (by rfl) (fun _ h => h.pick [0, 1] rfl) (Ev.move rfl (by rfl)) (by rfl) (some 146) (by rfl) (by kernel_rfl) (by kernel_rfl) (by kernel_rfl) (by kernel_rfl) ?_
     refine Rg.ev 3 (by rfl) (fun _ h => h.pick [0, 1] rfl) (Ev.move rfl (by rfl)) (by rfl) (some 147) (by rfl) (by kernel_rfl) (by kernel_rfl) (by kernel_rfl) (by kernel_rfl) ?_
     refine Rg.ev 4 (by rfl) (fun _ h => h.pick [0, 1] rfl) (Ev.indexAt (sz := 4) rfl (by rfl) (by rfl) Tryz.underlying22 (by kernel_rfl) (by omega)) (by rfl) (some 148) (by rfl) (by kernel_rfl) (by kernel_rfl) (by kernel_rfl) (by kernel_rfl) ?_
     refine Rg.ev 5 (by rfl) (fun _ h => h.pick [0, 1] rfl) (Ev.loadEl (enc := TbP.enc) (sz := 4) rfl (by rfl) (ReadsIn.row 1 (by rfl)) (by kernel_rfl) (fun _ => rfl) ht) (by rfl) (some 149) (by rfl) (by kernel_rfl) (by kernel_rfl) (by kernel_rfl) (by kernel_rfl) ?_
     refine Rg.one 6 (by kernel_rfl) ?_
     refine RgO.does 6 (by rfl) (Does.lit (sz := 4) rfl (by rfl) Tryz.underlying22 (by kernel_rfl) (by rfl) (by kernel_rfl)) (by rfl) (some 150) (by rfl) (by exact fun _ _ h => h.pick [1, 2] (by rfl)) ?_
     intro g5 _
     refine Rg.one 7 (by kernel_rfl) ?_
     refine RgO.does 7 (by rfl) (Does.app (xs := tbs O) (news := tbs [t]) 3 rfl (by rfl) (by rfl) (by rfl) (ReadsIn.row 0 (by rfl)) elem_tb (one_tb _) (show (O.length + 1) * 48 ≤ 140737488355328 by omega)) (by rfl) (some 151) (by rfl) (by exact fun _ _ h => h.pick [1, 2] (by rfl)) ?_
     rintro ⟨wA, wc⟩ -
     refine Rg.ev 8 (by rfl) (by exact fun _ h => h.pick [1, 2] (by rfl)) (Ev.fieldAddr (k := 0) rfl (by rfl) (by kernel_rfl) (by rfl)) (by rfl) (some 152) (by rfl) (by kernel_rfl) (by kernel_rfl) (by kernel_rfl) (by kernel_rfl) ?_
     refine Rg.one 9 (by kernel_rfl) ?_
     refine RgO.tail 9 (by rfl) (Does.store 1 rfl (by rfl) (by rfl) (by rfl) (by kernel_rfl) (by rfl) (by kernel_rfl) (by rfl)) (by rfl) none (by rfl) (by kernel_rfl) (by kernel_rfl) ?_
     intro _ _
     have hrow : row wA (O.length + 1) wc 42 4 (tbs O ++ tbs [t]) = rowTb wA (O ++ [t]).length wc (O ++ [t]) := by
      rw [← tbs_append, List.length_append]
      rfl
     refine Rg.done (by kernel_rfl) ?_ _
     refine Cd.seq ?_
     refine Ent.pick [2, 3, 1, 4] (by rfl) ?_
     refine Cd.region ?_
     refine Ls.does (some 153) (Does.lit0 (sz := 4) rfl Tryz.underlying22 (by kernel_rfl)) (by rfl) (by rfl) ?_
     intro g6 _
     refine go [0,0] ?_
     refine Ls.qE 156 (Ev.sliceHn (h := bst) (sz := 4) rfl (by rfl) (by rfl) Tryz.underlying22 (by kernel_rfl) (by omega)) ?_
     refine Ls.does (some 157) (Does.app (xs := []) (news := (tbs l).take (bst * 4)) 0 rfl (by rfl) (by rfl) (by rfl) (reads_frontR 1 (by rfl) (by omega)) elem_tb (by rw [tbs_take]; exact one_tb _) (show (0 + bst) * 48 ≤ 140737488355328 by omega)) (by rfl) (by rfl) ?_
     rintro ⟨xA, xc⟩ -
     refine go [5,2,4,0,0,0] ?_
     refine Ls.qE 161 (Ev.addN (b := 1) rfl (by rfl) (by rfl) (by omega)) ?_
     refine Ls.qE 162 (Ev.sliceLn (l := bst + 1) (sz := 4) rfl (by rfl) (by rfl) Tryz.underlying22 (by kernel_rfl) (by omega)) ?_
     refine Ls.does (some 163) (Does.app (xs := [] ++ (tbs l).take (bst * 4)) (news := tbs (l.drop (bst + 1))) 0 rfl (by rfl) (by rfl) (by rfl) (cut_reads 1 (bst + 1) (by rfl) rfl (by omega) hlc.1) elem_tb (one_tb _) (show ((0 + bst) + (l.length - (bst + 1))) * 48 ≤ 140737488355328 by omega)) (by rfl) (by rfl) ?_
     rintro ⟨yA, yc⟩ -
     have hel : (l.eraseIdx bst).length = 0 + bst + (l.length - (bst + 1)) := by rw [List.length_eraseIdx_of_lt hbl]; omega
     have hrow2 : row yA (0 + bst + (l.length - (bst + 1))) yc 42 4 ([] ++ (tbs l).take (bst * 4) ++ tbs (l.drop (bst + 1))) = rowTb yA (l.eraseIdx bst).length yc (l.eraseIdx bst) := by
      rw [List.nil_append, tbs_take, ← tbs_append, ← List.eraseIdx_eq_take_drop_succ, hel]
     refine go [5,2] ?_
     refine Ent.pick [0, 2, 3, 4] (by rfl) ?_
     refine Ent.inv (((O ++ [t], (wA, wc)), (l.eraseIdx bst, (yA, yc)))) ?_ ?_ ?_
     · (try dsimp only); exact ⟨hsel2, by rw [hel]; omega⟩
     · (repeat (first | exact trivial | refine ⟨by rfl, ?_⟩ | refine ⟨by simp only [lenS]; rfl, ?_⟩ | refine ⟨by push_cast; rfl, ?_⟩ | refine ⟨by (show some (Value.slice _ _ _) = some (Value.slice _ _ _); rw [hel] <;> rfl), ?_⟩))
     · (show [_, _, _, _] = [_, _, _, _]; dsimp only; rw [← hrow, ← hrow2, List.length_append]; rfl)
   · have hl0 : l = [] := List.eq_nil_of_length_eq_zero (by have := of_decide_eq_false h5; omega)
     subst hl0
     obtain ⟨hp, hs⟩ := hsel.done
     have hfO : Fine O := fun x hx => by
      have hx2 := hp.mem_iff.1 hx
      rw [hL0] at hx2
      rcases List.mem_append.1 hx2 with h | h
      · rw [hK] at h
        exact fv x (List.mem_filter.1 h).1
      · exact fe x h
     have hgs := good_sort (nx := max v.nx e.nx) (lg := max v.lg e.lg) (sq := max v.sq e.sq) hp hs
     have hout : outP v e = ⟨sortT L0, max v.nx e.nx, max v.lg e.lg, max v.sq e.sq⟩ := by
      unfold outP
      rw [hL0, hKk]
     have hgd := rgood_sl ⟨O, max v.nx e.nx, max v.lg e.lg, max v.sq e.sq⟩ oA oc (by dsimp only at hlen ⊢; rw [List.length_nil] at hlen; omega) (fun t ht => ⟨(hfO t ht).1, (hfO t ht).2.1⟩)
     refine Cd.exit ?_
     refine Cd.seq ?_
     refine Ent.pick [1, 2, 3] (by rfl) ?_
     refine Cd.draw [3] (by kernel_rfl) ?_
     refine Rg.qE 0 164 (by rfl) (Ev.loads 1 rfl (by rfl) (by rfl) (n := 4) (by kernel_rfl) (by rfl) (by rfl)) ?_
     refine Rg.qE 1 165 (by rfl) (Ev.loads 1 rfl (by rfl) (by rfl) (n := 4) (by kernel_rfl) (by rfl) (by rfl)) ?_
     refine Rg.does 2 (by rfl) (by kernel_rfl) (Does.read rfl Tryz.func22 (by kernel_rfl) (by kernel_rfl) (hgd) (by rfl) (by rfl) ⟨ReadsIn.row 0 (by rfl), trivial⟩) (by rfl) (some 166) (by rfl) (by exact fun _ _ h => h) ?_
     rintro _ -
     refine Rg.tail 3 [] (by rfl) (by kernel_rfl) (Does.store 2 rfl (by rfl) (by rfl) (by rfl) (by kernel_rfl) (by rfl) (by kernel_rfl) (by rfl)) (by rfl) none (by rfl) (by kernel_rfl) (by kernel_rfl) ?_
     intro _ _
     refine Rg.qE 4 5 (by rfl) (Ev.assign rfl (by rfl)) ?_
     refine Rg.done (by kernel_rfl) ?_ _
     by_cases hGo : goodP ⟨O, max v.nx e.nx, max v.lg e.lg, max v.sq e.sq⟩
     · have hQ := hgs.2 hGo
       rw [decide_eq_true hGo]
       refine Cd.ret ?_
       refine Ent.ret ((some (oA, oc), (none, 0, 0, 0, 0, 0))) (⟨fun _ => ⟨hg1, hg2, hdok, by rw [hout]; exact hgs.1.1 hGo⟩, fun _ => rfl⟩) (Res.cell_tmp 2 (by rfl) (by rfl) (by rfl) (n := 4) (by kernel_rfl) (by rfl) (by rfl) (by rfl)) ?_ [0] (by rfl) ?_
       · unfold rfitV
         rw [hout, ← hQ]
         try rfl
       · unfold fitC
         rw [hout, ← hQ]
         try rfl
     · rw [decide_eq_false hGo]
       refine Cd.ret ?_
       exact Ent.rA ((none, (oA, O.length, oc, max v.nx e.nx, max v.lg e.lg, max v.sq e.sq))) [] (⟨fun h => (by cases h), fun h => absurd (hgs.1.2 (by rw [← hout]; exact h.2.2.2)) hGo⟩) (Res.cell_tmp 2 (by rfl) (by rfl) (by rfl) (n := 4) (by kernel_rfl) (by rfl) (by rfl) (by rfl))
section
variable {P : Program} {w : World}
theorem wf_bd {x : Int} (h : (Lit.int .i64 x).wf = true) : -9223372036854775808 ≤ x ∧ x ≤ 9223372036854775807 := by
 have h1 : IntKind.i64.min = -9223372036854775808 := by decide
 have h2 : IntKind.i64.max = 9223372036854775807 := by decide
 simpa only [Lit.wf, h1, h2, Bool.and_eq_true, decide_eq_true_eq] using h
theorem cel_slice1 {α : Type} [Inhabited α] {f : α → Value} {Q : α → Prop} {n : Nat} {t e : TypeId} {cs : List Value} (ht : P.underlying t = some (.slice e)) (hm : P.cellsOf e = 1) (hcel : ∀ (n : Nat) (cs : List Value), Cel P w n e cs → ∃ a, cs = [f a] ∧ Q a) (h : Cel P w n t cs) :
 ∃ A c l, cs = [.slice A (List.length l) c] ∧ Reads w w.heap.size 1 A l.length (l.map f) ∧ (∀ a ∈ l, Q a) ∧ l.length ≤ c ∧ c * P.bytesOf e ≤ reachBytes := by
 rcases cel_slice ht h with rfl | ⟨a, len, cap, rfl, hl, hmx, hb, hc⟩
 · exact ⟨none, 0, [], rfl, Reads.none_, by simp, Nat.le_refl _, by simp⟩
 · rw [hm] at hc
   have hrow : ∀ i, i < len → ∃ x : α, w.cell? (a.add i) = some (f x) ∧ Q x := by
    intro i hi
    obtain ⟨k, cs, h1, h2, h3⟩ := hc i (by omega)
    obtain ⟨x, rfl, hx⟩ := hcel k cs h3
    have := h2 0 (by omega)
    rw [add_of_add] at this
    exact ⟨x, by simpa using this, hx⟩
   obtain ⟨xs, hxl, hx⟩ := choose_rows hrow
   subst hxl
   refine ⟨some a, cap, xs, rfl, ⟨by simp, fun hn => ⟨a, rfl, ?_, fun j u hu => ?_⟩⟩, fun y hy => ?_, hl, hb⟩
   · obtain ⟨x, _, h1, _⟩ := hx 0 hn
     have := World.block_lt_of_cell? w _ h1
     rwa [block_of_add] at this
   · rw [List.getElem?_map] at hu
     obtain ⟨y, hy, rfl⟩ := Option.map_eq_some_iff.1 hu
     obtain ⟨x, h1, h2, _⟩ := hx j (List.getElem?_eq_some_iff.1 hy).1
     rw [hy] at h1
     injection h1 with h1
     rw [h1, h2]
   · obtain ⟨i, hi⟩ := List.mem_iff_getElem?.1 hy
     obtain ⟨x, h1, _, h2⟩ := hx i (List.getElem?_eq_some_iff.1 hi).1
     rw [hi] at h1
     injection h1 with h1
     rw [h1]
     exact h2
theorem seg_ {cs v : List Value} {off s off' : Nat} (h : (cs.drop off).take s = v) (ho : off + s = off') : cs.drop off = v ++ cs.drop off' := by
 rw [← h, ← ho, ← List.drop_drop, List.take_append_drop]
theorem val_cel {t e : TypeId} {v : Value} (ht : P.underlying t = some (.slice e)) (h : Val P w t v) : ∃ n, Cel P w n t [v] := by
 simp only [Val, ht] at h
 exact h.2
theorem val_celS {t : TypeId} {fs : Array Field} {v : Value} (ht : P.underlying t = some (.struct fs)) (h : Val P w t v) : ∃ (cs : Array Value) (n : Nat), v = .agg cs ∧ Cel P w n t cs.toList := by
 simp only [Val, ht] at h
 exact h
end
section
variable {P : Program} {w : World}
theorem cel_flatS {α : Type} [Inhabited α] {f : α → List Value} {Q : World → α → Prop} {n : Nat} {t e : TypeId} {m : Nat} {cs : List Value} (ht : P.underlying t = some (.slice e)) (hm : P.cellsOf e = m) (hm0 : 0 < m) (hf : ∀ a, (f a).length = m)
 (hcel : ∀ (n : Nat) (cs : List Value), Cel P w n e cs → ∃ a, cs = f a ∧ Q w a) (h : Cel P w n t cs) :
 ∃ A c l, cs = [.slice A (List.length l) c] ∧ Reads w w.heap.size m A l.length (l.flatMap f) ∧ (∀ a ∈ l, Q w a) ∧ l.length ≤ c ∧ c ≤ maxLen ∧ c * P.bytesOf e ≤ reachBytes := by
 have key : ∃ A n c l, cs = [.slice A n c] ∧ Reads w w.heap.size m A n (flat f l) ∧ (∀ a ∈ l, Q w a) ∧ n ≤ c ∧ c ≤ maxLen ∧ c * P.bytesOf e ≤ reachBytes := by
  rcases cel_slice ht h with rfl | ⟨a, len, cap, rfl, hl, hmx, hb, hc⟩
  · exact ⟨none, 0, 0, [], rfl, Reads.none_, by simp, Nat.le_refl _, Nat.zero_le _, by simp⟩
  · rw [hm] at hc
    have hrow : ∀ i, i < len → ∃ x : α, (∀ j, j < m → w.cell? (a.add (i * m + j)) = (f x)[j]?) ∧ Q w x := by
     intro i hi
     obtain ⟨k, cs, h1, h2, h3⟩ := hc i (by omega)
     obtain ⟨x, rfl, hx⟩ := hcel k cs h3
     exact ⟨x, fun j hj => by rw [← add_of_add]; exact h2 j hj, hx⟩
    obtain ⟨xs, hxl, hx⟩ := choose_rows hrow
    refine ⟨some a, len, cap, xs, rfl, ⟨by rw [flat_length hf, hxl], fun hn => ⟨a, rfl, ?_, fun j u hu => ?_⟩⟩, fun y hy => ?_, hl, hmx, hb⟩
    · obtain ⟨x, _, h1, _⟩ := hx 0 hn
      have h2 := h1 0 hm0
      rw [List.getElem?_eq_getElem (by rw [hf]; exact hm0)] at h2
      have := World.block_lt_of_cell? w _ h2
      rwa [block_of_add] at this
    · have hjl : j < len * m := by
       have := (List.getElem?_eq_some_iff.1 hu).1
       rwa [flat_length hf, hxl] at this
      have hk : j / m < len := Nat.div_lt_of_lt_mul (by rwa [Nat.mul_comm] at hjl)
      obtain ⟨x, h1, h2, _⟩ := hx (j / m) hk
      have hmod := Nat.mod_lt j hm0
      have e : j / m * m + j % m = j := by rw [Nat.mul_comm]; exact Nat.div_add_mod j m
      have h3 := flat_get hf h1 (j % m) hmod
      have h4 := h2 (j % m) hmod
      rw [e] at h3 h4
      rw [h4, ← h3, hu]
    · obtain ⟨i, hi⟩ := List.mem_iff_getElem?.1 hy
      have hil : i < len := by have := (List.getElem?_eq_some_iff.1 hi).1; omega
      obtain ⟨x, h1, _, h2⟩ := hx i hil
      rw [hi] at h1
      injection h1 with h1
      rw [h1]
      exact h2
 obtain ⟨A, n, c, l, rfl, hr, hq, hnc, hcm, hb⟩ := key
 have e1 : flat f l = l.flatMap f := by
  clear hr hq
  induction l with
  | nil => rfl
  | cons a l ih => simp [flat, List.flatMap_cons] at ih ⊢
 have hl : l.length = n := by
  have := hr.1
  rw [e1, flatMap_len hf] at this
  exact Nat.eq_of_mul_eq_mul_right hm0 this
 subst hl
 exact ⟨A, c, l, rfl, e1 ▸ hr, hq, hnc, hcm, hb⟩
theorem cel_intsC {n : Nat} {t e : TypeId} {cs : List Value} (ht : P.underlying t = some (.slice e)) (he : P.underlying e = some (.int .i64)) (hm : P.cellsOf e = 1) (h : Cel P w n t cs) :
 ∃ A c xs, cs = [.slice A (List.length xs) c] ∧ Reads w w.heap.size 1 A xs.length (ints xs) ∧ (∀ x ∈ xs, in64 x) ∧ xs.length ≤ c ∧ c ≤ maxLen ∧ c * P.bytesOf e ≤ reachBytes := by
 obtain ⟨A, c, l, h1, h2, h3, h4⟩ := cel_flatS (f := fun n : Int => [Value.int .i64 n]) (Q := fun _ n => in64 n) ht hm (by decide) (fun _ => rfl) (fun n cs h => by
  obtain ⟨m, rfl, hw⟩ := cel_int he h
  exact ⟨m, rfl, wf_bd hw⟩) h
 refine ⟨A, c, l, h1, ?_, h3, h4⟩
 have e1 : l.flatMap (fun n : Int => [Value.int .i64 n]) = ints l := by
  unfold ints
  clear h1 h2 h3 h4
  induction l with
  | nil => rfl
  | cons a l ih =>
   rw [List.flatMap_cons, ih]
   rfl
 rw [e1] at h2
 exact h2
end
def TbP.at_ (t : TbP) : Prop := t.fst.length ≤ 140737488355328 ∧ t.lst.length ≤ 140737488355328 ∧ in64 t.num
theorem cel_tb {w : World} (n : Nat) (cs : List Value) (h : Cel Tryz.prog w n 42 cs) : ∃ x : TbP, cs = x.enc ∧ x.at_ := by
 obtain ⟨hl, m, hf⟩ := cel_fields (k := 4) (rows := [(3, 0, 1), (3, 1, 1), (9, 2, 1), (9, 3, 1)]) Tryz.underlying42 (by kernel_rfl) (by kernel_rfl) h
 simp only [List.forall_mem_cons] at hf
 obtain ⟨h0, h1, h2, h3, _⟩ := hf
 obtain ⟨f0, e0, w0⟩ := cel_int Tryz.underlying3 h0
 obtain ⟨f1, e1, w1⟩ := cel_int Tryz.underlying3 h1
 obtain ⟨f2, e2, _, w2⟩ := cel_string Tryz.underlying9 h2
 obtain ⟨f3, e3, _, w3⟩ := cel_string Tryz.underlying9 h3
 have t0 := seg_ (off' := 1) e0 rfl
 have t1 := seg_ (off' := 2) e1 rfl
 have t2 := seg_ (off' := 3) e2 rfl
 have t3 := seg_ (off' := 4) e3 rfl
 rw [List.drop_zero] at t0
 have k2 : f2.data.toList.length = f2.size := rfl
 have k3 : f3.data.toList.length = f3.size := rfl
 unfold reachBytes at w2 w3
 refine ⟨⟨f0, f1, f2.data.toList, f3.data.toList⟩, ?_, by dsimp only; omega, by dsimp only; omega, wf_bd w0⟩
 rw [t0, t1, t2, t3, List.drop_of_length_le (by omega)]
 rfl
structure EdAt (W : World) (e : EdP) (B : Option Addr) (b : Nat) (D : Option Addr) (d : Nat) : Prop where
 add : (rdT B e.add).holds W
 drp : (rd D e.drop.length 1 (ints e.drop)).holds W
 fine : Fine e.add
 ints : ∀ x ∈ e.drop, in64 x
 al : e.add.length ≤ b ∧ b ≤ maxLen
 dl : e.drop.length ≤ d ∧ d ≤ maxLen
 nx : in64 e.nx
 lg : in64 e.lg
 sq : in64 e.sq
theorem cel_edit {W : World} {n : Nat} {cs : List Value} (hc : Cel Tryz.prog W n 27 cs) : ∃ (x : EdP) (B : Option Addr) (b : Nat) (D : Option Addr) (d : Nat), cs = x.val B b D d ∧ EdAt W x B b D d := by
 obtain ⟨hl, m, hf⟩ := cel_fields (k := 5) (rows := [(22, 0, 1), (25, 1, 1), (3, 2, 1), (3, 3, 1), (3, 4, 1)]) Tryz.underlying27 (by kernel_rfl) (by kernel_rfl) hc
 simp only [List.forall_mem_cons] at hf
 obtain ⟨h0, h4, h1, h2, h3, _⟩ := hf
 obtain ⟨A, c, l, e0, hr, hq, hlc, hcm, hb⟩ := cel_flatS (f := TbP.enc) (Q := fun _ x => x.at_) Tryz.underlying22 (m := 4) (by kernel_rfl) (by decide) (fun _ => rfl) cel_tb h0
 obtain ⟨D, d, r, e4, hr4, hq4, hlc4, hcm4, hb4⟩ := cel_intsC Tryz.underlying25 Tryz.underlying3 (by kernel_rfl) h4
 obtain ⟨f1, e1, w1⟩ := cel_int Tryz.underlying3 h1
 obtain ⟨f2, e2, w2⟩ := cel_int Tryz.underlying3 h2
 obtain ⟨f3, e3, w3⟩ := cel_int Tryz.underlying3 h3
 have t0 := seg_ (off' := 1) e0 rfl
 have t4 := seg_ (off' := 2) e4 rfl
 have t1 := seg_ (off' := 3) e1 rfl
 have t2 := seg_ (off' := 4) e2 rfl
 have t3 := seg_ (off' := 5) e3 rfl
 rw [List.drop_zero] at t0
 refine ⟨⟨l, r, f1, f2, f3⟩, A, c, D, d, ?_, ⟨hr, hr4, fun t ht => hq t ht, hq4, ⟨hlc, hcm⟩, ⟨hlc4, hcm4⟩, wf_bd w1, wf_bd w2, wf_bd w3⟩⟩
 rw [t0, t4, t1, t2, t3, List.drop_of_length_le (by omega)]
 rfl
set_option maxRecDepth 100000 in
theorem val_edit {W : World} {v : Value} (h : Val Tryz.prog W 27 v) : ∃ (x : EdP) (B : Option Addr) (b : Nat) (D : Option Addr) (d : Nat), v = .agg (x.val B b D d).toArray ∧ EdAt W x B b D d := by
 obtain ⟨cs, n, rfl, hc⟩ := val_celS Tryz.underlying27 h
 obtain ⟨x, B, b, D, d, e, hx⟩ := cel_edit hc
 refine ⟨x, B, b, D, d, ?_, hx⟩
 congr 1
 apply Array.ext'
 rw [e]
theorem rfit_yes {v : VsP} {e : EdP} (h : FitOk v e) (A B D : Option Addr) (c b d : Nat) (he : e.add.length ≤ 10000000) (hd : e.drop.length ≤ 1000000000) (fe : Fine e.add) (hdr : ∀ x ∈ e.drop, in64 x) : Fn Tryz.prog 10 #[.agg (v.val A c).toArray, .agg (e.val B b D d).toArray] [rdT A v.tbs, rdT B e.add, rd D e.drop.length 1 (ints e.drop)] (Option Addr × Nat) (fun q => .tuple #[.agg ((outP v e).val q.1 q.2).toArray, .bool true]) (fun q => [rowTb q.1 (outP v e).tbs.length q.2 (outP v e).tbs]) (fun _ => True) :=
 (rfit_sl v e A B D c b d (by have := good_few h.1; omega) he hd (good_fine h.1) fe hdr).turn fun i hi => match i, hi with
  | (some q, _), _ => ⟨q, trivial, rfl, fun _ _ hs => hs⟩
  | (none, _), hi => absurd (hi.2 h) (by simp)
theorem rfit_no {v : VsP} {e : EdP} (h : ¬ FitOk v e) (hv : v.tbs.length ≤ 10000000) (fv : Fine v.tbs) (A B D : Option Addr) (c b d : Nat) (he : e.add.length ≤ 10000000) (hd : e.drop.length ≤ 1000000000) (fe : Fine e.add) (hdr : ∀ x ∈ e.drop, in64 x) : Fn Tryz.prog 10 #[.agg (v.val A c).toArray, .agg (e.val B b D d).toArray] [rdT A v.tbs, rdT B e.add, rd D e.drop.length 1 (ints e.drop)] VrJ (fun q => .tuple #[vrJ q, .bool false]) (fun _ => []) (fun _ => True) :=
 (rfit_sl v e A B D c b d hv he hd fv fe hdr).turn fun i hi => match i, hi with
  | (none, q), _ => ⟨q, trivial, rfl, fun _ _ hs => hs⟩
  | (some q, _), hi => absurd (hi.1 rfl) h
theorem cut_in {W : World} {e : EdP} {B D : Option Addr} {b d : Nat} (h : EdAt W e B b D d) : EdIn (cutE e) where
 add := by
  show (e.add.take 60).length ≤ _
  rw [List.length_take]
  omega
 drl := by
  show (e.drop.take 200).length ≤ _
  rw [List.length_take]
  omega
 fine := fun t ht => h.fine t (List.mem_of_mem_take ht)
 ints := fun x hx => h.ints x (List.mem_of_mem_take hx)
 nx := h.nx
 lg := h.lg
 sq := h.sq
end Go.Proofs.YtacbkganjkipdaaGreatDoor
