/-
  PROVED HERE: MemHeights: for every input the law of layer 4 answers true and its input reads as before: tables whose towers have other heights answer alike. No conditions.
-/
import Derived.Test.YtgcnodbinmgobaaMemI
import Derived.Test.YtgcnodbinmgobaaLibI
import Derived.Deep.QuietTactic
namespace Go.Proofs.Ytgcnodbinmgobaa
open Go.ChangeShapes Go.WideShapes Go.ChangeAt Go.RowKit

set_option maxRecDepth 100000 in
set_option maxHeartbeats 4000000 in
theorem heights_walk (A : Option Addr) (n c : Nat) (l : List Ope) (turn : Int) (w : World) (hr : Reads w w.heap.size 6 A n (flat Ope.cells l)) (hn : n ≤ 140737488355328) :
    Calls Try.prog 4 #[.slice A n c, .int .i64 turn] w fun e w' => e = .returned (.bool true) ∧ Below w.heap.size w w' := by
  have HX := Lib.hid (hr.keeps (Nat.le_refl _))
  have hn2 := hn
  clear hr hn
  obtain ⟨B, hB⟩ : ∃ B, B = w.heap.size := ⟨_, rfl⟩
  have HBB := Lib.hid hB
  clear hB
  go_enter Try.func4, Try.ntmps4
  go_wp2_with fail
  refine (new_t w).mono ?_
  rintro e w1 ⟨T, F, rfl, ht, hf, hb⟩
  have HT := Lib.hid ht
  have HF := Lib.hid hf
  have HB := Lib.hid hb
  clear ht hf hb
  go_wp2_with fail
  refine (new_t w1).mono ?_
  rintro e w2 ⟨U, G, rfl, ht, hf, hb⟩
  have hsz1 := HB.out.size
  have h2 : Two w2 B T U [] [] := ⟨F, G, HT.out.below hb, ht, fun k h1 h2 => by have := HT.out.lt k h1; have := hf k h2; omega, fun k hk => by rw [HBB.out]; exact HF.out k hk, fun k hk => by rw [HBB.out]; have := hf k hk; omega⟩
  have H2 := Lib.hid h2
  have HB2 := Lib.hid (HB.out.trans (hb.mono hsz1))
  clear h2 ht hf hb HT HF HB hsz1
  go_wp2_with fail
  refine (awake_any w2).mono ?_
  rintro e w3 ⟨rfl, hb⟩
  have H3 := Lib.hid (H2.out.below hb)
  have HB3 := Lib.hid (HB2.out.trans (hb.mono HB2.out.size))
  clear hb H2 HB2
  go_wp2_with fail
  go_loopw [7] (fun iv wr => ∃ (k : Nat) (tl : List Ent), iv = .int .i64 k ∧ k ≤ 100 ∧ tl.length ≤ k ∧ Two wr B T U tl tl ∧ Below w.heap.size w wr) (fun iv _ => 100 - (intOf iv).toNat)
  case atStart => exact ⟨0, [], rfl, by omega, by simp, H3.out, HB3.out⟩
  case round =>
    obtain ⟨k, tl, rfl, hk, htl, ht, hb⟩ := hrel
    have HT := Lib.hid ht
    have HB := Lib.hid hb
    clear ht hb
    have hszr : w.heap.size ≤ wr.heap.size := HB.out.size
    by_cases hin : (k : Int) < (n : Int) ∧ (k : Int) < 100
    · obtain ⟨hkn, hk100⟩ := hin
      obtain ⟨ad, o, rfl, hab, hol, hc⟩ := (HX.out.at_ HB.out).ope (k := k) (by omega)
      have hk0 : (0 : Int) ≤ (k : Int) := by omega
      clear hol hab
      cases hask : o.ask with
      | true =>
        rw [hask] at hc
        have HA := Lib.hid hask
        clear hask
        go_wp2_with fail
        clear hc
        obtain ⟨w4, hw4⟩ : ∃ v, v = wr.alloc (.cells #[.bool true, .string o.e.key, .int .i64 o.e.seq, .bool o.e.del, .string o.e.val, .int .i64 o.h] 30) := ⟨_, rfl⟩
        obtain ⟨g, hg⟩ : ∃ g, g = wr.heap.size := ⟨_, rfl⟩
        rw [← hw4, ← hg]
        have hb4 : Below wr.heap.size wr w4 := by rw [hw4]; exact (Below.refl _ _).alloc (Nat.le_refl _) _
        have hk4 : Blk w4 g 30 #[.bool true, .string o.e.key, .int .i64 o.e.seq, .bool o.e.del, .string o.e.val, .int .i64 o.h] := by rw [hw4, hg]; exact Blk.new _ _ _
        have HK := Lib.hid ((hk4.keeps.and (HT.out.below hb4).keeps).and (below_keeps (HB.out.trans (hb4.mono hszr)) (Nat.le_trans hszr hb4.size)))
        clear hw4 hg hk4 hb4 HT HB hszr
        have hc6 := HK.out.now.1.1.c6
        refine (get_two B T U tl tl o.e.key o.e.seq w4 HK.out.now.1.2).mono ?_
        rintro e w5 ⟨rfl, hb⟩
        obtain ⟨OK, hOK⟩ : ∃ OK, OK = (getL tl o.e.key o.e.seq).isSome := ⟨_, rfl⟩
        obtain ⟨E, hE⟩ : ∃ E, E = getE (getL tl o.e.key o.e.seq) := ⟨_, rfl⟩
        rw [← hOK, ← hE]
        have HOK := Lib.hid hOK
        have HE := Lib.hid hE
        have HK5 := Lib.hid (HK.out.on hb)
        clear hOK hE hb HK hc6
        unfold Ent.agg
        have hc6 := HK5.out.now.1.1.c6
        have hgl := HK5.out.now.1.1.lt
        go_wp2_with fail
        obtain ⟨w6, hw6⟩ : ∃ v, v = w5.alloc (.cells #[.string E.key, .int .i64 E.seq, .bool E.del, .string E.val] 28) := ⟨_, rfl⟩
        obtain ⟨g5, hg5⟩ : ∃ g, g = w5.heap.size := ⟨_, rfl⟩
        rw [← hw6, ← hg5]
        have hb6 : Below w5.heap.size w5 w6 := by rw [hw6]; exact (Below.refl _ _).alloc (Nat.le_refl _) _
        have hk6 : Blk w6 g5 28 #[.string E.key, .int .i64 E.seq, .bool E.del, .string E.val] := by rw [hw6, hg5]; exact Blk.new _ _ _
        have HK6 := Lib.hid ((HK5.out.on hb6).and hk6.keeps)
        clear hw6 hg5 hk6 hb6 HK5 hc6 hgl
        refine (get_two B U T tl tl o.e.key o.e.seq w6 HK6.out.now.1.1.2.flip).mono ?_
        rintro e w7 ⟨rfl, hb⟩
        have HK7 := Lib.hid (HK6.out.on hb)
        clear hb HK6
        rw [← HOK.out, ← HE.out]
        unfold Ent.agg
        have hq := ent_neq E E
        rw [decide_eq_true rfl] at hq
        unfold Ent.agg at hq
        have hc4 := HK7.out.now.2.c4
        have hgl := HK7.out.now.2.lt
        cases OK
        all_goals
          go_wp2_with fail
          go_roundw
          case rel => exact ⟨k + 1, tl, by go_num, by omega, by omega, (HK7.out.alloc _).now.1.1.2, (HK7.out.alloc _).now.1.2⟩
          case measure => simp [intOf]; omega
      | false =>
        rw [hask] at hc
        have HA := Lib.hid hask
        clear hask
        go_wp2_with fail
        clear hc
        obtain ⟨w4, hw4⟩ : ∃ v, v = wr.alloc (.cells #[.bool false, .string o.e.key, .int .i64 o.e.seq, .bool o.e.del, .string o.e.val, .int .i64 o.h] 30) := ⟨_, rfl⟩
        obtain ⟨g, hg⟩ : ∃ g, g = wr.heap.size := ⟨_, rfl⟩
        rw [← hw4, ← hg]
        have hb4 : Below wr.heap.size wr w4 := by rw [hw4]; exact (Below.refl _ _).alloc (Nat.le_refl _) _
        have hk4 : Blk w4 g 30 #[.bool false, .string o.e.key, .int .i64 o.e.seq, .bool o.e.del, .string o.e.val, .int .i64 o.h] := by rw [hw4, hg]; exact Blk.new _ _ _
        have HT4 := Lib.hid (HT.out.below hb4)
        have HB4 := Lib.hid (HB.out.trans (hb4.mono hszr))
        have HG := Lib.hid hk4
        have hBs : B ≤ w4.heap.size := by rw [HBB.out]; exact HB4.out.size
        clear hw4 hg hk4 hb4 HT HB hszr
        have hpl := put_length tl o.e
        obtain ⟨tl', htl'⟩ : ∃ tl', tl' = (putL tl o.e).1 := ⟨_, rfl⟩
        obtain ⟨code, hcode⟩ : ∃ code, code = (putL tl o.e).2 := ⟨_, rfl⟩
        rw [← htl'] at hpl
        have HTL := Lib.hid htl'
        have HCO := Lib.hid hcode
        clear htl' hcode
        have hcc : ((code : Int) != (code : Int)) = false := by simp
        refine wp_region_noPanic ?_
        refine wp_region_held_drew (S := fun w' => Blk w' g 30 #[.bool false, .string o.e.key, .int .i64 o.e.seq, .bool o.e.del, .string o.e.val, .int .i64 o.h]) (by kernel_rfl) (HG.out.drew) (fun hH => ?_)
        refine wpAnyH_take (i := 0) (oi := _) (v := ?_) (by simp only [List.getElem?_toArray, List.getElem?_cons_zero]; rfl) (by kernel_rfl) (by kernel_rfl) (by kernel_rfl) (fun _ _ _ h => h) (Or.inl ⟨by rfl, ?_⟩) (by assumption) ?_
        rotate_left
        · intro w' hSw; (try dsimp only at hSw); go_simp; try with_reducible rfl
        try simp only [Act.put, List.setIfInBounds_toArray, List.set_cons_zero, List.set_cons_succ]
        refine wpAnyH_take (i := 1) (oi := _) (v := ?_) (by simp only [List.getElem?_toArray, List.getElem?_cons_zero, List.getElem?_cons_succ]; rfl) (by kernel_rfl) (by kernel_rfl) (by kernel_rfl) (fun _ _ _ h => h) (Or.inl ⟨by rfl, ?_⟩) (by assumption) ?_
        rotate_left
        · intro w' hSw; (try dsimp only at hSw); go_simp; try with_reducible rfl
        try simp only [Act.put, List.setIfInBounds_toArray, List.set_cons_zero, List.set_cons_succ]
        refine wpAnyH_take (i := 2) (oi := _) (v := ?_) (by simp only [List.getElem?_toArray, List.getElem?_cons_zero, List.getElem?_cons_succ]; rfl) (by kernel_rfl) (by kernel_rfl) (by kernel_rfl) (fun _ _ _ h => h) (Or.inl ⟨by rfl, ?_⟩) (by assumption) ?_
        rotate_left
        · intro w' hSw; (try dsimp only at hSw); obtain ⟨k0, k1, k2, k3, k4, k5, -⟩ := (hSw.c6); go_simp; try with_reducible rfl
        try simp only [Act.put, List.setIfInBounds_toArray, List.set_cons_zero, List.set_cons_succ]
        refine wpAnyH_take (i := 3) (oi := _) (v := ?_) (by simp only [List.getElem?_toArray, List.getElem?_cons_zero, List.getElem?_cons_succ]; rfl) (by kernel_rfl) (by kernel_rfl) (by kernel_rfl) (fun _ _ _ h => h) (Or.inl ⟨by rfl, ?_⟩) (by assumption) ?_
        rotate_left
        · intro w' hSw; (try dsimp only at hSw); obtain ⟨k0, k1, k2, k3, k4, k5, -⟩ := (hSw.c6); go_simp; try with_reducible rfl
        try simp only [Act.put, List.setIfInBounds_toArray, List.set_cons_zero, List.set_cons_succ]
        refine wpAnyH_take (i := 4) (oi := _) (v := ?_) (by simp only [List.getElem?_toArray, List.getElem?_cons_zero, List.getElem?_cons_succ]; rfl) (by kernel_rfl) (by kernel_rfl) (by kernel_rfl) (fun _ _ _ h => h) (Or.inl ⟨by rfl, ?_⟩) (by assumption) ?_
        rotate_left
        · intro w' hSw; (try dsimp only at hSw); obtain ⟨k0, k1, k2, k3, k4, k5, -⟩ := (hSw.c6); go_simp; try with_reducible rfl
        try simp only [Act.put, List.setIfInBounds_toArray, List.set_cons_zero, List.set_cons_succ]
        refine wpAnyH_take (i := 6) (oi := _) (v := ?_) (by simp only [List.getElem?_toArray, List.getElem?_cons_zero, List.getElem?_cons_succ]; rfl) (by kernel_rfl) (by kernel_rfl) (by kernel_rfl) (fun _ _ _ h => h) (Or.inl ⟨by rfl, ?_⟩) (by assumption) ?_
        rotate_left
        · intro w' hSw; (try dsimp only at hSw); go_simp; try with_reducible rfl
        try simp only [Act.put, List.setIfInBounds_toArray, List.set_cons_zero, List.set_cons_succ]
        refine wpAnyH_take (i := 7) (oi := _) (v := ?_) (by simp only [List.getElem?_toArray, List.getElem?_cons_zero, List.getElem?_cons_succ]; rfl) (by kernel_rfl) (by kernel_rfl) (by kernel_rfl) (fun _ _ _ h => h) (Or.inl ⟨by rfl, ?_⟩) (by assumption) ?_
        rotate_left
        · intro w' hSw; (try dsimp only at hSw); go_simp; try with_reducible rfl
        try simp only [Act.put, List.setIfInBounds_toArray, List.set_cons_zero, List.set_cons_succ]
        refine wpAnyH_take (i := 8) (oi := _) (v := ?_) (by simp only [List.getElem?_toArray, List.getElem?_cons_zero, List.getElem?_cons_succ]; rfl) (by kernel_rfl) (by kernel_rfl) (by kernel_rfl) (fun _ _ _ h => h) (Or.inl ⟨by rfl, ?_⟩) (by assumption) ?_
        rotate_left
        · intro w' hSw; (try dsimp only at hSw); obtain ⟨k0, k1, k2, k3, k4, k5, -⟩ := (hSw.c6); go_simp; try with_reducible rfl
        try simp only [Act.put, List.setIfInBounds_toArray, List.set_cons_zero, List.set_cons_succ]
        refine wpAnyH_take (i := 9) (oi := _) (v := ?_) (by simp only [List.getElem?_toArray, List.getElem?_cons_zero, List.getElem?_cons_succ]; rfl) (by kernel_rfl) (by kernel_rfl) (by kernel_rfl) (fun _ _ _ h => h) (Or.inl ⟨by rfl, ?_⟩) (by assumption) ?_
        rotate_left
        · intro w' hSw; (try dsimp only at hSw); go_simp; try with_reducible rfl
        try simp only [Act.put, List.setIfInBounds_toArray, List.set_cons_zero, List.set_cons_succ]
        refine wpAnyH_take (i := 10) (oi := _) (v := ?_) (by simp only [List.getElem?_toArray, List.getElem?_cons_zero, List.getElem?_cons_succ]; rfl) (by kernel_rfl) (by kernel_rfl) (by kernel_rfl) (fun _ _ _ h => h) (Or.inl ⟨by rfl, ?_⟩) (by assumption) ?_
        rotate_left
        · intro w' hSw; (try dsimp only at hSw); go_simp; try with_reducible rfl
        try simp only [Act.put, List.setIfInBounds_toArray, List.set_cons_zero, List.set_cons_succ]
        refine wpAnyH_take (i := 11) (oi := _) (v := ?_) (by simp only [List.getElem?_toArray, List.getElem?_cons_zero, List.getElem?_cons_succ]; rfl) (by kernel_rfl) (by kernel_rfl) (by kernel_rfl) (fun _ _ _ h => h) (Or.inl ⟨by rfl, ?_⟩) (by assumption) ?_
        rotate_left
        · intro w' hSw; (try dsimp only at hSw); go_simp; try with_reducible rfl
        try simp only [Act.put, List.setIfInBounds_toArray, List.set_cons_zero, List.set_cons_succ]
        refine wpAnyH_ready (rs := [5]) (by kernel_rfl) (by simp) (AllReadyH.cons (o := _) (by simp only [List.getElem?_toArray, List.getElem?_cons_zero, List.getElem?_cons_succ]; rfl) (fun K hK => ?_) AllReadyH.nil)
        go_simp
        refine (put_two B T U tl tl o.e o.h w4.drew (HT4.out.below (below_drew w4)) (by omega) hBs).mono ?_
        rintro e w5 ⟨rfl, ht5, hb5, hp5⟩
        rw [← HTL.out] at ht5
        rw [← HCO.out]
        have HT5 := Lib.hid ht5
        have HB5 := Lib.hid (HB4.out.drew.trans (hb5.mono (by rw [HBB.out]; exact Nat.le_refl _)))
        have HG5 := Lib.hid (hp5 _ _ _ (by decide) (by decide) (by decide) HG.out.drew)
        have hBs5 : B ≤ w5.heap.size := (Nat.le_trans hBs hb5.size)
        clear ht5 hb5 hp5
        try go_wp2_with fail
        refine hK.out _ _ (HG5.out) (fun hHeld => ?_)
        clear hK K hH
        have hH := hHeld
        clear hHeld
        try simp only [Act.put, List.setIfInBounds_toArray, List.set_cons_zero, List.set_cons_succ]
        refine wpAnyH_ready (rs := [12]) (by kernel_rfl) (by simp) (AllReadyH.cons (o := _) (by simp only [List.getElem?_toArray, List.getElem?_cons_zero, List.getElem?_cons_succ]; rfl) (fun K hK => ?_) AllReadyH.nil)
        go_simp
        refine (put_two B U T tl tl' o.e _ w5 HT5.out.flip (by omega) hBs5).mono ?_
        rintro e w6 ⟨rfl, ht6, hb6, hp6⟩
        rw [← HTL.out] at ht6
        rw [← HCO.out]
        have HT6 := Lib.hid ht6.flip
        have HB6 := Lib.hid (HB5.out.trans (hb6.mono (by rw [HBB.out]; exact Nat.le_refl _)))
        have HG6 := Lib.hid (hp6 _ _ _ (by decide) (by decide) (by decide) HG5.out)
        clear ht6 hb6 hp6
        try go_wp2_with fail
        refine hK.out _ _ (HG6.out) (fun hHeld => ?_)
        clear hK K hH
        have hH := hHeld
        clear hHeld
        try simp only [Act.put, List.setIfInBounds_toArray, List.set_cons_zero, List.set_cons_succ]
        refine wpAnyH_take (i := 13) (oi := _) (v := ?_) (by simp only [List.getElem?_toArray, List.getElem?_cons_zero, List.getElem?_cons_succ]; rfl) (by kernel_rfl) (by kernel_rfl) (by kernel_rfl) (fun _ _ _ h => h) (Or.inl ⟨by rfl, ?_⟩) (by assumption) ?_
        rotate_left
        · intro w' hSw; (try dsimp only at hSw); go_simp; try with_reducible rfl
        try simp only [Act.put, List.setIfInBounds_toArray, List.set_cons_zero, List.set_cons_succ]
        refine wpAnyH_done (by kernel_rfl) ?_ _
        refine NoPanic.normal ?_
        go_wp2_with fail
        go_roundw
        case rel => exact ⟨k + 1, tl', by go_num, by omega, by omega, HT6.out, HB6.out⟩
        case measure => simp [intOf]; omega
    · have hor : ¬ (k : Int) < n ∨ ((k : Int) < n ∧ ¬ (k : Int) < 100) := by omega
      clear hin
      rcases hor with h1 | ⟨h1, h2⟩
      all_goals
        go_wp2_with fail
        refine (all_two B T U tl tl wr HT.out (by omega)).mono ?_
        rintro e w4 ⟨A4, c4, rfl, ho, hb⟩
        have HK4 := Lib.hid (((HT.out.below hb).keeps.and (below_keeps (HB.out.trans (hb.mono hszr)) (Nat.le_trans hszr hb.size))).and ho.keepsR)
        clear ho hb HT HB hszr
        go_wp2_with fail
        refine (all_two B U T tl tl w4 HK4.out.now.1.1.flip (by omega)).mono ?_
        rintro e w5 ⟨A5, c5, rfl, ho, hb⟩
        have HK5 := Lib.hid ((HK4.out.on hb).and ho.keepsR)
        clear ho hb HK4
        go_wp2_with fail
        refine (same_any A4 A5 tl.length tl.length c4 c5 tl tl w5 HK5.out.now.1.2 HK5.out.now.2 (by omega) (by omega)).mono ?_
        rintro e w6 ⟨rfl, hb⟩
        rw [decide_eq_true rfl]
        have HK6 := Lib.hid (HK5.out.on hb)
        clear hb HK5
        go_wp2_with fail
        refine (len_two B T U tl tl w6 HK6.out.now.1.1.1).mono ?_
        rintro e w7 ⟨rfl, rfl⟩
        go_wp2_with fail
        refine (len_two B U T tl tl w6 HK6.out.now.1.1.1.flip).mono ?_
        rintro e w7 ⟨rfl, rfl⟩
        have hll : ((tl.length : Int) == (tl.length : Int)) = true := by simp
        go_wp2_with fail
        refine (bytes_two B T U tl tl w6 HK6.out.now.1.1.1).mono ?_
        rintro e w7 ⟨rfl, rfl⟩
        go_wp2_with fail
        refine (bytes_two B U T tl tl w6 HK6.out.now.1.1.1.flip).mono ?_
        rintro e w7 ⟨rfl, rfl⟩
        have hbb : ((bytesL tl : Int) == (bytesL tl : Int)) = true := by simp
        go_wp2_with fail
        go_ret
        exact ⟨rfl, HK6.out.now.1.1.2⟩

theorem heights_vals (W : World) (args : Array Value) (hv : Vals Try.prog W [22, 3] args.toList) :
    Calls Try.prog 4 args W fun e W' => e = .returned (.bool true) ∧ Below W.heap.size W W' := by
  obtain ⟨v0, r0, e0, h0, v1, r1, rfl, h1, rfl⟩ := hv
  obtain rfl : args = #[v0, v1] := by cases args; simp_all
  obtain ⟨A, n, c, l, rfl, hr, hnc, hc⟩ := val_ops h0
  obtain ⟨s, rfl, _⟩ := val_int Try.underlying3 h1
  exact heights_walk A n c l s W hr (by omega)

set_option maxRecDepth 100000 in
theorem heights_lifted (os : Os) (started : os.Started) (H : Type) (enc : TypeId × Value → H) :
    ReturnsInHanded {} Try.checked os 4 .any (Rows.memHeightsSpec.pre6 enc Try.prog Try.f4 Rows.memHeightsRow.domain false) (Rows.memHeightsSpec.post enc Try.prog Try.f4 false true false false) :=
  lift_law (C := Try.checked) #[22, 3] (by kernel_rfl) (by kernel_rfl) started (by kernel_rfl) Try.func4
    (ChangeSpec.witness6 (enc := enc) (C := Try.checked) false ⟨#[], #[.slice none 0 0, .int .i64 0], []⟩ 8 (by kernel_rfl) (by kernel_rfl) (by kernel_rfl) (by kernel_rfl))
    Try.params4 (by kernel_rfl) rfl rfl Try.underlying4 (fun ds hl => match ds, hl with | [_, _], _ => rfl) (fun W args hv => heights_vals W args hv)

theorem heights_holds : Rows.MemHeightsSaid :=
  OpenClaim.holds_of_wide 4 Try.f4 rfl rfl rfl rfl rfl rfl rfl ⟨rfl, rfl, rfl, rfl, rfl⟩ rfl rfl rfl rfl rfl (by kernel_rfl) Try.func4 (by kernel_rfl)
    (of_decide_eq_true (by kernel_rfl)) (by unfold Func.isWrapper; rw [if_neg (of_decide_eq_false (by kernel_rfl))]; exact ⟨rfl, rfl⟩)
    (fun os started H enc _ => heights_lifted os started H enc)
end Go.Proofs.Ytgcnodbinmgobaa
