/-
  PROVED HERE: MemPlays (second form): for every input that isn't too large the law of layer 4 answers true and its input reads as before: whatever is put in, every question is answered as by a plain list in order, and all entries stand in their order.
-/
import Derived.Test.YtgcnodbinmgobaaMemV
import Derived.Test.YtgcnodbinmgobaaMemI
import Derived.Test.YtgcnodbinmgobaaLibE
import Derived.Test.YtgcnodbinmgobaaLibR
import Derived.Test.YtgcnodbinmgobaaLibU
import Derived.ControlIn
import Derived.Deep.RegionWith
import Derived.Deep.DeepCutAuto
namespace Go.Proofs.Ytgcnodbinmgobaa
open Go.ChangeShapes Go.WideShapes Go.ChangeAt Go.RowKit Go.Shelf
attribute [local go_sem] Oper.semAt_some

/-- How many of the first j have a smaller key. -/
def lessN (l : List Ent) (key : ByteArray) (j : Nat) : Nat := (l.take j).countP fun e => Op.bytesLess e.key.toList key.toList
theorem lessN_next {l : List Ent} {key : ByteArray} {j : Nat} {x : Ent} (h : l[j]? = some x) : lessN l key (j + 1) = lessN l key j + if Op.bytesLess x.key.toList key.toList = true then 1 else 0 := by
  unfold lessN
  rw [List.take_add_one, h, List.countP_append]
  simp [List.countP_cons]
theorem countP_sorted {α : Type} {p : α → Bool} : ∀ {l : List α}, (∀ (i j : Nat) (a b : α), i < j → l[i]? = some a → l[j]? = some b → p b = true → p a = true) → l.countP p = (l.takeWhile p).length
  | [], _ => rfl
  | x :: l, h => by
    rw [List.takeWhile_cons]
    by_cases hx : p x = true
    · rw [if_pos hx, List.countP_cons_of_pos hx, List.length_cons, countP_sorted (l := l) fun i j a b hij ha hb => h (i + 1) (j + 1) a b (by omega) (by simpa using ha) (by simpa using hb)]
    · rw [if_neg hx, List.countP_eq_zero.2]
      · rfl
      · intro y hy hpy
        rcases List.mem_cons.1 hy with rfl | hy
        · exact hx hpy
        · obtain ⟨j, hj⟩ := List.mem_iff_getElem?.1 hy
          exact hx (h 0 (j + 1) x y (by omega) (by simp) (by simpa using hj) hpy)
theorem lessN_all {l : List Ent} (ho : Ordered l) (key : ByteArray) : lessN l key l.length = fromP l key := by
  unfold lessN fromP
  rw [List.take_of_length_le (Nat.le_refl _)]
  refine countP_sorted fun i j a b hij ha hb h => ?_
  have := ordered_at ho ha hb hij
  simp only [bfor, Bool.or_eq_true, Bool.and_eq_true, beq_iff_eq] at this
  rcases this with h1 | ⟨h1, _⟩
  · exact less_trans h1 h
  · rw [h1]; exact h
theorem bytesL_next {l : List Ent} {j : Nat} {x : Ent} (h : l[j]? = some x) : bytesL (l.take (j + 1)) = bytesL (l.take j) + (x.key.size + x.val.size) := by
  unfold bytesL
  rw [List.take_add_one, h]
  simp
theorem bytesL_take_le {l : List Ent} (hs : ∀ e ∈ l, e.key.size ≤ 64 ∧ e.val.size ≤ 1024) (j : Nat) : bytesL (l.take j) ≤ 1088 * l.length := by
  have h1 := bytesL_le (l := l.take j) (fun e he => hs e (List.mem_of_mem_take he))
  have h2 : (l.take j).length ≤ l.length := by rw [List.length_take]; omega
  omega
/-- Between two calls of the script. -/
structure PlSt (w0 w : World) (B gR gL T : Nat) (l : List Ent) (A : Option Addr) (m c : Nat) : Prop where
  tbl : TblB w B T l
  own : Own w B 28 4 A m c (ents l)
  bl : Blk w gL 26 #[.slice A m c]
  br : Blk w gR 4 #[.bool false]
  bel : Below w0.heap.size w0 w
theorem PlSt.below {w0 w w' : World} {B gR gL T : Nat} {l : List Ent} {A : Option Addr} {m c : Nat} (h : PlSt w0 w B gR gL T l A m c) (hb : Below w.heap.size w w') : PlSt w0 w' B gR gL T l A m c :=
  ⟨h.tbl.below hb, h.own.below hb (Nat.le_refl _), h.bl.below hb h.bl.lt, h.br.below hb h.br.lt, h.bel.trans (hb.mono h.bel.size)⟩
theorem PlSt.keeps {w0 w : World} {B gR gL T : Nat} {l : List Ent} {A : Option Addr} {m c : Nat} (h : PlSt w0 w B gR gL T l A m c) : Keeps w (fun w' => PlSt w0 w' B gR gL T l A m c) := fun _ hb => h.below hb
theorem PlSt.drewN {w0 w : World} {B gR gL T : Nat} {l : List Ent} {A : Option Addr} {m c : Nat} (h : PlSt w0 w B gR gL T l A m c) (n : Nat) : PlSt w0 (w.drewN n) B gR gL T l A m c := h.below (below_drewN (Below.refl _ _) _)
/-- A store into a box of another type. -/
theorem PlSt.set_ {w0 w : World} {B gR gL T g t : Nat} {l : List Ent} {A : Option Addr} {m c : Nat} {cs : Array Value} (h : PlSt w0 w B gR gL T l A m c) (hg : Blk w g t cs) (ht : t ≠ 53 ∧ t ≠ 54 ∧ t ≠ 51 ∧ t ≠ 28) (h1 : gL ≠ g) (h2 : gR ≠ g) (h3 : w0.heap.size ≤ g) (v : Value) :
    PlSt w0 (w.setCell ⟨g, 0, none⟩ v) B gR gL T l A m c :=
  ⟨h.tbl.set_ hg ht.1 ht.2.1 ht.2.2.1 v, h.own.far (p := ⟨g, 0, none⟩) (h.own.apartBlk hg (fun e => ht.2.2.2 e.symm)) v, h.bl.far (p := ⟨g, 0, none⟩) h1 v, h.br.far (p := ⟨g, 0, none⟩) h2 v, h.bel.setCell (p := ⟨g, 0, none⟩) h3 v⟩
theorem PlSt.upd {w0 w w' : World} {B gR gL T g t : Nat} {l : List Ent} {A : Option Addr} {m c : Nat} {cs : Array Value} (h : PlSt w0 w B gR gL T l A m c) (hg : Blk w g t cs) (ht : t ≠ 53 ∧ t ≠ 54 ∧ t ≠ 51 ∧ t ≠ 28) (h1 : gL ≠ g) (h2 : gR ≠ g) (h3 : w0.heap.size ≤ g) (hu : Upd (fun k => k = g) w w') :
    PlSt w0 w' B gR gL T l A m c := by
  refine ⟨?_, h.own.upd hu (fun k hk e => ?_), h.bl.upd hu h1, h.br.upd hu h2, h.bel.trans (hu.to_below h.bel.size (fun k hk e => by omega))⟩
  · obtain ⟨F, hT, hF⟩ := h.tbl
    refine ⟨F, hT.upd hu fun k hk e => ?_, hF⟩
    obtain ⟨hb, ns, hM, rfl, rfl⟩ := hT
    subst e
    exact hM.tab.notFoot hg ht.1 ht.2.1 ht.2.2.1 hk
  · subst e
    exact h.own.apartBlk hg (fun e => ht.2.2.2 e.symm) hk
theorem KeepsOthers.drewN (W : World) (n : Nat) : KeepsOthers W (W.drewN n) := ⟨Nat.le_refl _, fun _ _ h _ => h⟩
theorem prefix_snoc {α : Type} {pre l : List α} {x : α} (h : pre <+: l) (hx : l[pre.length]? = some x) : pre ++ [x] <+: l := by
  have e := List.prefix_iff_eq_take.1 h
  have h2 : l.take (pre.length + 1) = pre ++ [x] := by
    rw [List.take_add_one, hx, ← e]
    rfl
  rw [← h2]
  exact List.take_prefix _ _
theorem prefix_at {α : Type} {pre l : List α} {x : α} (h : pre ++ [x] <+: l) : l[pre.length]? = some x := by
  obtain ⟨t, rfl⟩ := h
  simp
theorem Blk.one_ {w : World} {g t : Nat} {u : Value} (h : Blk w g t #[u]) (v : Value) : Blk (w.setCell ⟨g, 0, none⟩ v) g t #[v] := by
  have := h.set_ 0 v
  simpa using this

set_option maxRecDepth 100000 in
set_option maxHeartbeats 8000000 in
theorem plays_walk (A : Option Addr) (n c : Nat) (ops : List Ope) (key : ByteArray) (w : World) (hr : Reads w w.heap.size 6 A n (flat Ope.cells ops)) (hn : n ≤ 140737488355328) :
    Calls Try.prog 5 #[.slice A n c, .string key] w fun e w' => e = .returned (.bool true) ∧ Below w.heap.size w w' := by
  have HX := Lib.hid (hr.keeps (Nat.le_refl _))
  have hn2 := hn
  clear hr hn
  refine (callsIn_wide (n := 6)).1 ?_
  refine callsIn_of_wp_marks Try.func5 rfl trivial ?_ rfl
  simp only [Try.ntmps5, List.size_toArray, List.length_cons, List.length_nil, Nat.reduceAdd, Nat.reduceSub, Array.replicate_succ, Array.replicate_zero, List.push_toArray, List.append_toArray, List.nil_append, List.cons_append]
  refine wpIn_wide.2 ?_
  go_wp2_with fail
  obtain ⟨w1, hw1⟩ : ∃ v, v = w.alloc (.cells #[.bool false] 4) := ⟨_, rfl⟩
  obtain ⟨gR, hgR⟩ : ∃ g, g = w.heap.size := ⟨_, rfl⟩
  rw [← hw1, ← hgR]
  have hb1 : Below w.heap.size w w1 := by rw [hw1]; exact (Below.refl _ _).alloc (Nat.le_refl _) _
  have hk1 : Blk w1 gR 4 #[.bool false] := by rw [hw1, hgR]; exact Blk.new _ _ _
  obtain ⟨B, hB⟩ : ∃ B, B = w1.heap.size := ⟨_, rfl⟩
  have hRB : gR < B := by rw [hB]; exact hk1.lt
  have hwB : w.heap.size ≤ B := by rw [hB]; exact hb1.size
  have HK := Lib.hid (hk1.keeps.and (below_keeps hb1 hb1.size))
  have HGR := Lib.hid hgR
  clear hw1 hgR hb1 hk1
  refine (new_b w1).mono ?_
  rintro e w2 ⟨T, rfl, ht, hb⟩
  rw [← hB] at ht
  have hB2 : B ≤ w2.heap.size := by rw [hB]; exact hb.size
  have HK2 := Lib.hid ((HK.out.on hb).and (fun w' hb => ht.below hb : Keeps w2 (fun w => TblB w B T [])))
  clear ht hb HK hB
  go_wp2_with fail
  refine (awake_any w2).mono ?_
  rintro e w3 ⟨rfl, hb⟩
  have HK3 := Lib.hid (HK2.out.on hb)
  have hB3 : B ≤ w3.heap.size := Nat.le_trans hB2 hb.size
  clear hb HK2 hB2
  go_wp2_with fail
  obtain ⟨w4, hw4⟩ : ∃ v, v = w3.alloc (.cells #[.slice none 0 0] 26) := ⟨_, rfl⟩
  obtain ⟨gL, hgL⟩ : ∃ g, g = w3.heap.size := ⟨_, rfl⟩
  rw [← hw4, ← hgL]
  have hb4 : Below w3.heap.size w3 w4 := by rw [hw4]; exact (Below.refl _ _).alloc (Nat.le_refl _) _
  have hk4 : Blk w4 gL 26 #[.slice none 0 0] := by rw [hw4, hgL]; exact Blk.new _ _ _
  have hBL : B ≤ gL := by rw [hgL]; exact hB3
  have hst : PlSt w w4 B gR gL T [] none 0 0 := ⟨(HK3.out.on hb4).now.2, Own.nil_ _ _ _ _, hk4, (HK3.out.on hb4).now.1.1, (HK3.out.on hb4).now.1.2⟩
  have HST := Lib.hid hst
  clear hw4 hgL hb4 hk4 hst HK3 hB3
  go_loopw [8] (fun iv wr => ∃ (k : Nat) (l : List Ent) (A' : Option Addr) (m c' : Nat), iv = .int .i64 k ∧ k ≤ 100 ∧ m ≤ k ∧ PlSt w wr B gR gL T l A' m c') (fun iv _ => 100 - (intOf iv).toNat)
  case atStart => exact ⟨0, [], none, 0, 0, rfl, by omega, by omega, HST.out⟩
  case round =>
    obtain ⟨k, l, A', m, c', rfl, hk, hmk, hst⟩ := hrel
    have HS := Lib.hid hst
    clear hst HST
    have hBw : B ≤ wr.heap.size := Nat.le_trans hBL (Nat.le_of_lt HS.out.bl.lt)
    by_cases hin : (k : Int) < (n : Int) ∧ (k : Int) < 100
    · obtain ⟨hkn, hk100⟩ := hin
      obtain ⟨ad, o, rfl, hab, hol, hc⟩ := (HX.out.at_ HS.out.bel).ope (k := k) (by omega)
      have hk0 : (0 : Int) ≤ (k : Int) := by omega
      have hkl := HS.out.bl.c1
      have HSD := Lib.hid (HS.out.below (Below.refl _ wr).drew)
      have HOL := Lib.hid hol
      clear hol hab
      go_wp2_with fail
      refine wp_region_noPanic ?_
      refine wp_region_held_drew (S := fun w' => Below w.heap.size w w') (by kernel_rfl) (HS.out.bel.drew) (fun hH => ?_)
      refine wpAnyH_take (i := 0) (oi := _) (v := ?_) (by simp only [List.getElem?_toArray, List.getElem?_cons_zero]; rfl) (by kernel_rfl) (by kernel_rfl) (by kernel_rfl) (fun _ _ _ h => h) (Or.inl ⟨by rfl, ?_⟩) (by assumption) ?_
      rotate_left
      · intro w' hSw; (try dsimp only at hSw); go_simp; try with_reducible rfl
      try simp only [Act.put, List.setIfInBounds_toArray, List.set_cons_zero, List.set_cons_succ]
      refine wpAnyH_take (i := 2) (oi := _) (v := ?_) (by simp only [List.getElem?_toArray, List.getElem?_cons_zero, List.getElem?_cons_succ]; rfl) (by kernel_rfl) (by kernel_rfl) (by kernel_rfl) (fun _ _ _ h => h) (Or.inl ⟨by rfl, ?_⟩) (by assumption) ?_
      rotate_left
      · intro w' hSw; (try dsimp only at hSw); go_simp; try with_reducible rfl
      try simp only [Act.put, List.setIfInBounds_toArray, List.set_cons_zero, List.set_cons_succ]
      refine wpAnyH_take (i := 3) (oi := _) (v := ?_) (by simp only [List.getElem?_toArray, List.getElem?_cons_zero, List.getElem?_cons_succ]; rfl) (by kernel_rfl) (by kernel_rfl) (by kernel_rfl) (fun _ _ _ h => h) (Or.inl ⟨by rfl, ?_⟩) (by assumption) ?_
      rotate_left
      · intro w' hSw; (try dsimp only at hSw); go_simp; try with_reducible rfl
      try simp only [Act.put, List.setIfInBounds_toArray, List.set_cons_zero, List.set_cons_succ]
      refine wpAnyH_take (i := 4) (oi := _) (v := ?_) (by simp only [List.getElem?_toArray, List.getElem?_cons_zero, List.getElem?_cons_succ]; rfl) (by kernel_rfl) (by kernel_rfl) (by kernel_rfl) (fun _ _ _ h => h) (Or.inl ⟨by rfl, ?_⟩) (by assumption) ?_
      rotate_left
      · intro w' hSw; (try dsimp only at hSw); go_simp; try with_reducible rfl
      try simp only [Act.put, List.setIfInBounds_toArray, List.set_cons_zero, List.set_cons_succ]
      refine wpAnyH_take (i := 5) (oi := _) (v := ?_) (by simp only [List.getElem?_toArray, List.getElem?_cons_zero, List.getElem?_cons_succ]; rfl) (by kernel_rfl) (by kernel_rfl) (by kernel_rfl) (fun _ _ _ h => h) (Or.inl ⟨by rfl, ?_⟩) (by assumption) ?_
      rotate_left
      · intro w' hSw; (try dsimp only at hSw); have hcc := (HX.out.at_ hSw).opeAt (by omega) HOL.out; go_simp; try with_reducible rfl
      try simp only [Act.put, List.setIfInBounds_toArray, List.set_cons_zero, List.set_cons_succ]
      refine wpAnyH_ready (rs := [1]) (by kernel_rfl) (by simp) (AllReadyH.cons (o := _) (by simp only [List.getElem?_toArray, List.getElem?_cons_zero, List.getElem?_cons_succ]; rfl) (fun K hK => ?_) AllReadyH.nil)
      go_simp
      skip
      try go_wp2_with fail
      refine hK.out _ _ (HS.out.bel.drew) (fun hHeld => ?_)
      clear hK K hH
      have hH := hHeld
      clear hHeld
      try simp only [Act.put, List.setIfInBounds_toArray, List.set_cons_zero, List.set_cons_succ]
      refine wpAnyH_ready (rs := [6]) (by kernel_rfl) (by simp) (AllReadyH.cons (o := _) (by simp only [List.getElem?_toArray, List.getElem?_cons_zero, List.getElem?_cons_succ]; rfl) (fun K hK => ?_) AllReadyH.nil)
      go_simp
      refine (play_any B T A' m c' l o wr.drew HSD.out.tbl HSD.out.own (by omega) hBw).mono ?_
      rintro e w5 ⟨A5, m5, c5, rfl, ht, ho, hm, hb, hpb⟩
      have HT5 := Lib.hid ht
      have HO5 := Lib.hid ho
      have HB5 := Lib.hid (HSD.out.bel.trans (hb.mono hwB))
      have HL5 := Lib.hid (hpb gL _ _ (by decide) (by decide) (by decide) HSD.out.bl)
      have HR5 := Lib.hid (HSD.out.br.below hb hRB)
      clear ht ho hb hpb
      try go_wp2_with fail
      refine hK.out _ _ (HB5.out) (fun hHeld => ?_)
      clear hK K hH
      have hH := hHeld
      clear hHeld
      try simp only [Act.put, List.setIfInBounds_toArray, List.set_cons_zero, List.set_cons_succ]
      refine wpAnyH_take (i := 7) (oi := _) (v := ?_) (by simp only [List.getElem?_toArray, List.getElem?_cons_zero, List.getElem?_cons_succ]; rfl) (by kernel_rfl) (by kernel_rfl) (by kernel_rfl) (fun _ _ _ h => h) (Or.inl ⟨by rfl, ?_⟩) (by assumption) ?_
      rotate_left
      · intro w' hSw; (try dsimp only at hSw); go_simp; try with_reducible rfl
      try simp only [Act.put, List.setIfInBounds_toArray, List.set_cons_zero, List.set_cons_succ]
      refine wpAnyH_take (i := 8) (oi := _) (v := ?_) (by simp only [List.getElem?_toArray, List.getElem?_cons_zero, List.getElem?_cons_succ]; rfl) (by kernel_rfl) (by kernel_rfl) (by kernel_rfl) (fun _ _ _ h => h) (Or.inl ⟨by rfl, ?_⟩) (by assumption) ?_
      rotate_left
      · intro w' hSw; (try dsimp only at hSw); go_simp; try with_reducible rfl
      try simp only [Act.put, List.setIfInBounds_toArray, List.set_cons_zero, List.set_cons_succ]
      refine wpAnyH_take (i := 9) (oi := _) (v := ?_) (by simp only [List.getElem?_toArray, List.getElem?_cons_zero, List.getElem?_cons_succ]; rfl) (by kernel_rfl) (by kernel_rfl) (by kernel_rfl) (fun _ _ _ h => h) (Or.inl ⟨by rfl, ?_⟩) (by assumption) ?_
      rotate_left
      · intro w' hSw; (try dsimp only at hSw); go_simp; try with_reducible rfl
      try simp only [Act.put, List.setIfInBounds_toArray, List.set_cons_zero, List.set_cons_succ]
      have hl5 := HL5.out.c1
      refine wpAnyH_ready (rs := [10]) (by kernel_rfl) (by simp) (AllReadyH.cons (o := _) (by simp only [List.getElem?_toArray, List.getElem?_cons_zero, List.getElem?_cons_succ]; rfl) (fun K hK => ?_) AllReadyH.nil)
      go_simp
      skip
      try go_wp2_with fail
      refine hK.out _ _ (HB5.out.setCell (p := ⟨gL, 0, none⟩) (by show w.heap.size ≤ gL; omega) (.slice A5 m5 c5)) (fun hHeld => ?_)
      clear hK K hH
      have hH := hHeld
      clear hHeld
      try simp only [Act.put, List.setIfInBounds_toArray, List.set_cons_zero, List.set_cons_succ]
      refine wpAnyH_take (i := 11) (oi := _) (v := ?_) (by simp only [List.getElem?_toArray, List.getElem?_cons_zero, List.getElem?_cons_succ]; rfl) (by kernel_rfl) (by kernel_rfl) (by kernel_rfl) (fun _ _ _ h => h) (Or.inl ⟨by rfl, ?_⟩) (by assumption) ?_
      rotate_left
      · intro w' hSw; (try dsimp only at hSw); go_simp; try with_reducible rfl
      try simp only [Act.put, List.setIfInBounds_toArray, List.set_cons_zero, List.set_cons_succ]
      refine wpAnyH_done (by kernel_rfl) ?_ _
      refine NoPanic.normal ?_
      obtain ⟨w6, hw6⟩ : ∃ v, v = w5.setCell ⟨gL, 0, none⟩ (.slice A5 m5 c5) := ⟨_, rfl⟩
      have hst6 : PlSt w w6 B gR gL T (stepL l o) A5 m5 c5 := by
        rw [hw6]
        refine ⟨HT5.out.set_ HL5.out (by decide) (by decide) (by decide) _, HO5.out.far (p := ⟨gL, 0, none⟩) (HO5.out.apartBlk HL5.out (by decide)) _, ?_, HR5.out.far (p := ⟨gL, 0, none⟩) (by show gR ≠ gL; omega) _, HB5.out.setCell (p := ⟨gL, 0, none⟩) (by show w.heap.size ≤ gL; omega) _⟩
        have := HL5.out.set_ 0 (.slice A5 m5 c5)
        simpa using this
      have HS6 := Lib.hid hst6
      have hm5 : (stepL l o).length = m5 := hst6.own.ents_length
      rw [← hw6]
      clear hw6 hst6 hH
      have HM5 := Lib.hid hm5
      clear hm5 hc hkl HS HSD
      go_wp2_with fail
      have hl6 := HS6.out.bl.c1
      have hmm : (((stepL l o).length : Int) != (m5 : Int)) = false := by rw [HM5.out]; simp
      go_quiet ((exact Calls.quiet_of_same (flip_ (len_b B T (stepL l o) _ (HS6.out.tbl.below (below_drewN (Below.refl _ _) _))))))
      go_wp2_with fail
      go_roundw
      case rel => exact ⟨k + 1, stepL l o, A5, m5, c5, by go_num, by omega, by omega, HS6.out.below (below_drewN (Below.refl _ _) _)⟩
      case measure => simp [intOf]; omega
    · have hor : ¬ (k : Int) < n ∨ ((k : Int) < n ∧ ¬ (k : Int) < 100) := by omega
      clear hin
      have hkl := HS.out.bl.c1
      have hllt := HS.out.bl.lt
      rcases hor with h1 | ⟨h1, h2⟩
      · skip
        go_wp2_with fail
        have hml : l.length = m := HS.out.own.ents_length
        have hsm := HS.out.tbl.small
        have HSM := Lib.hid hsm
        have HML := Lib.hid hml
        obtain ⟨w5, hw5⟩ : ∃ v, v = wr.alloc (.cells #[.int .i64 0] 3) := ⟨_, rfl⟩
        obtain ⟨gN, hgN⟩ : ∃ g, g = wr.heap.size := ⟨_, rfl⟩
        rw [← hw5, ← hgN]
        have hb5 : Below wr.heap.size wr w5 := by rw [hw5]; exact (Below.refl _ _).alloc (Nat.le_refl _) _
        have hk5 : Blk w5 gN 3 #[.int .i64 0] := by rw [hw5, hgN]; exact Blk.new _ _ _
        have hNL : gL < gN := by rw [hgN]; exact hllt
        have HS5 := Lib.hid (HS.out.below hb5)
        have HK5 := Lib.hid hk5
        clear hw5 hgN hb5 hk5 HS hkl hllt hml hsm
        go_loopw [7, 51] (fun bv jv wr => ∃ j : Nat, bv = .int .i64 (bytesL (l.take j)) ∧ jv = .int .i64 j ∧ j ≤ m ∧ PlSt w wr B gR gL T l A' m c' ∧ Blk wr gN 3 #[.int .i64 (lessN l key j)]) (fun _ jv _ => m - (intOf jv).toNat)
        case atStart => exact ⟨0, rfl, rfl, by omega, HS5.out, HK5.out⟩
        case round =>
          obtain ⟨j, rfl, rfl, hj, hst, hkn⟩ := hrel
          have HS := Lib.hid hst
          have HN := Lib.hid hkn
          clear hst hkn HS5 HK5
          by_cases hjm : (j : Int) < (m : Int)
          · obtain ⟨ad, x, rfl, hab, hx, hc⟩ := HS.out.own.reads.ent (k := j) (by omega)
            have hj0 : (0 : Int) ≤ (j : Int) := by omega
            have hlc := HS.out.bl.c1
            have hnc := HN.out.c1
            have hby := bytesL_next hx
            have hle := lessN_next (key := key) hx
            have hb1 := bytesL_take_le HSM.out j
            have hb2 := bytesL_take_le HSM.out (j + 1)
            have hxs := HSM.out x (List.mem_of_getElem? hx)
            have hln : lessN l key j ≤ m := by have := List.countP_le_length (p := fun e => Op.bytesLess e.key.toList key.toList) (l := l.take j); rw [List.length_take] at this; unfold lessN; omega
            obtain ⟨hxs1, hxs2⟩ := hxs
            rw [HML.out] at hb1 hb2
            obtain ⟨b0, hb0⟩ : ∃ b, b = bytesL (l.take j) := ⟨_, rfl⟩
            obtain ⟨n0, hn0⟩ : ∃ b, b = lessN l key j := ⟨_, rfl⟩
            rw [← hb0] at hby hb1 ⊢
            rw [← hn0] at hle hln hnc
            have HBY := Lib.hid hby
            have HLE := Lib.hid hle
            have HN0 := Lib.hid hn0
            have hw1 : IntKind.i64.wrap ((x.key.size : Int) + (x.val.size : Int)) = (x.key.size : Int) + (x.val.size : Int) := IntWalk.i64_in _ (by omega)
            have hw2 : IntKind.i64.wrap ((b0 : Int) + ((x.key.size : Int) + (x.val.size : Int))) = (b0 : Int) + ((x.key.size : Int) + (x.val.size : Int)) := IntWalk.i64_in _ (by omega)
            clear hx hab hby hle hb0 hn0 hb2
            go_wp2_with fail
            go_quiet (fail)
            have hbv : (b0 : Int) + ((x.key.size : Int) + (x.val.size : Int)) = ((bytesL (l.take (j + 1)) : Nat) : Int) := by rw [HBY.out]; omega
            have HBV := Lib.hid hbv
            clear hw1 hw2 hbv
            cases hl : Op.bytesLess x.key.toList key.toList with
            | true =>
              have hnv : lessN l key (j + 1) = n0 + 1 := by rw [HLE.out, hl]; rfl
              have HNV := Lib.hid hnv
              clear hnv
              go_wp2_with fail
              go_roundw
              case rel => exact ⟨j + 1, congrArg _ HBV.out, by go_num, by omega, (HS.out.drewN _).set_ (HN.out.drewN _) (by decide) (by omega) (by omega) (by omega) _, by rw [HNV.out, show (((n0 + 1 : Nat)) : Int) = (n0 : Int) + 1 from by omega]; exact (HN.out.drewN _).one_ _⟩
              case measure => simp [intOf]; omega
            | false =>
              have hnv : lessN l key (j + 1) = lessN l key j := by rw [HLE.out, hl, ← HN0.out]; rfl
              have HNV := Lib.hid hnv
              clear hnv
              go_wp2_with fail
              go_roundw
              case rel => exact ⟨j + 1, congrArg _ HBV.out, by go_num, by omega, HS.out.drewN _, by rw [HNV.out]; exact HN.out.drewN _⟩
              case measure => simp [intOf]; omega
          · have hje : j = l.length := by have := HML.out; omega
            have hn1 : lessN l key j = fromP l key := by rw [hje]; exact lessN_all HS.out.tbl.ord key
            have hb1 : bytesL (l.take j) = bytesL l := by rw [hje, List.take_of_length_le (Nat.le_refl _)]
            rw [hn1] at HN
            rw [hb1]
            have hm100 : l.length ≤ 100 := by have := HML.out; omega
            clear hn1 hb1 hje
            go_wp2_with fail
            refine (from_any B T l key wr HS.out.tbl (by omega)).mono ?_
            rintro e w6 ⟨gI, rfl, hit, hb⟩
            have HS6 := Lib.hid (HS.out.below hb)
            have hn6 := HN.out.below hb HN.out.lt
            have HN6 := Lib.hid hn6
            have hnl6 : gN < w6.heap.size := hn6.lt
            obtain ⟨S, hS, hseq⟩ := values_stops 5 (by omega) wr.heap.size gI _ w6 hit
            have hnr : gN < wr.heap.size := HN.out.lt
            obtain ⟨p, hp⟩ : ∃ p, p = fromP l key := ⟨_, rfl⟩
            have hpl : p ≤ l.length := by rw [hp]; exact fromP_le l key
            rw [← hp] at HN6 hseq hn6
            clear hit hb HS HN hp
            go_wp2_with fail
            refine (wpIn_wide (n := 6)).1 ?_
            refine wpIn_rangeFunc_box rfl (by omega) (gf := 26) (lb := #[.pointer (some ⟨gI, 0, none⟩)]) rfl trivial (enters_of Try.func26 (by kernel_rfl) rfl)
              hseq KC.trans (KC.put (fun k hk => (hS k hk).2)) (Below.refl _ _) (fun _ => rfl)
              (fun pre W => Upd (fun k => k = gN) w6 W ∧ Blk W gN 3 #[.int .i64 ((p + pre.length : Nat) : Int)] ∧ pre <+: l.drop p)
              (fun c pre _ => c = .ret ∧ ¬ pre <+: l.drop p)
              (fun s W W' row hs hg hr => ⟨hs.1.grown hg (fun k e hk => absurd (hr k e).1 (by omega)), blk_grown hs.2.1 hg hr, hs.2.2⟩)
              (fun _ _ _ _ _ hs _ _ => hs)
              ⟨Upd.refl _ _, hn6, List.nil_prefix⟩ ?a1 28 (fun x => #[.string x.key, .int .i64 x.seq, .bool x.del, .string x.val])
              (fun pre W h => h.1.size) (fun pre W o h => KC.alloc W o (fun k hk => Nat.lt_of_lt_of_le (hS k hk).2 h.1.size))
              ?assign ?body ?dn ?stop
            case assign =>
              intro lr x W Bx K hB hK
              have HB := Lib.hid hB
              clear hB
              gi_wp2
              rw [← HB.out]
              exact hK
            case body =>
              rintro lr pre x W Bx hBx hbx ⟨hu, hn, hpre⟩ hlt
              obtain ⟨q, hq⟩ : ∃ q, q = p + pre.length := ⟨_, rfl⟩
              rw [← hq] at hn
              have hql : q < l.length := by rw [List.length_drop] at hlt; omega
              have hsw := HS6.out.upd hn6 (by decide) (by omega) (by omega) (by omega) hu
              obtain ⟨ad, y, rfl, hab, hy, hc⟩ := hsw.own.reads.ent (k := q) (by have := HML.out; omega)
              have hlc := hsw.bl.c1
              have hrc := hsw.br.c1
              have hnc := hn.c1
              have hxc := hbx.c4
              have hqm : q < m := by have := HML.out; omega
              have hqd : decide (m ≤ q) = false := decide_eq_false (by omega)
              have hq0 : (0 : Int) ≤ (q : Int) := by omega
              have hq2 : (q : Int) ≤ 1000 := by omega
              have heq := ent_neq y x
              unfold Ent.agg at heq
              have hyd : (l.drop p)[pre.length]? = some y := by rw [List.getElem?_drop, ← hq]; exact hy
              have HYD := Lib.hid hyd
              have HN := Lib.hid hn
              have HU := Lib.hid hu
              have HPRE := Lib.hid hpre
              have HQ := Lib.hid hq
              have hsg : ¬ S gN := fun h => by have := (hS gN h).1; omega
              clear hy hab hyd hn hu hpre hq hsw hbx
              cases hd : decide (y = x) with
              | true =>
                rw [hd] at heq
                have HD := Lib.hid hd
                clear hd
                (repeat gi_step)
                refine wpIn_region_quiet_round (by kernel_rfl) (by kernel_rfl) (by kernel_rfl) ?_
                repeat (go_big_quiet_step (fail))
                refine wpQuiet_nil ?_
                rintro _ ⟨nq, rfl⟩
                (repeat gi_step)
                have hxy : y = x := of_decide_eq_true HD.out
                refine ⟨((KeepsOthers.drewN W nq).trans (KeepsOthers.setCell _ _ _)).from _, KC.trans (KC.drewN W nq) (KC.set_ _ _ _ hsg), (HU.out.drewN nq).setCell (p := ⟨gN, 0, none⟩) (fun _ => rfl) _, ?_, prefix_snoc HPRE.out (by rw [← hxy]; exact HYD.out)⟩
                have h9 := (HN.out.drewN nq).one_ (.int .i64 ((q : Int) + 1))
                rw [show ((p + (pre ++ [x]).length : Nat) : Int) = (q : Int) + 1 from by rw [List.length_append, List.length_singleton, HQ.out]; omega]
                exact h9
              | false =>
                rw [hd] at heq
                have HD := Lib.hid hd
                clear hd
                (repeat gi_step)
                refine wpIn_region_quiet_round (by kernel_rfl) (by kernel_rfl) (by kernel_rfl) ?_
                repeat (go_big_quiet_step (fail))
                refine wpQuiet_nil ?_
                rintro _ ⟨nq, rfl⟩
                (repeat gi_step)
                refine ⟨((KeepsOthers.drewN W nq).trans (KeepsOthers.setCell _ _ _)).from _, rfl, fun h => ?_⟩
                have h2 := prefix_at h
                rw [HYD.out] at h2
                injection h2 with h2
                exact of_decide_eq_false HD.out h2
            case dn =>
              rintro D ys W hD rfl ⟨hu, hn, hpre⟩ hK
              have hsw := HS6.out.upd hn6 (by decide) (by omega) (by omega) (by omega) hu
              rw [show ((p + (l.drop p).length : Nat) : Int) = (l.length : Int) from by rw [List.length_drop]; omega] at hn
              have HN := Lib.hid hn
              have HSW := Lib.hid hsw
              have HD := Lib.hid hK
              have hNlt := hn.lt
              have hLlt := hsw.bl.lt
              have hDlt : D < W.heap.size := by
                rcases Nat.lt_or_ge D W.heap.size with h | h
                · exact h
                · rw [Array.getElem?_eq_none h] at hK; cases hK
              have heqm : ((l.length : Int) == (m : Int)) = true := by rw [HML.out]; simp
              have heqb : ((bytesL l : Int) == (bytesL l : Int)) = true := by simp
              have hBW : B ≤ W.heap.size := by omega
              have hgW : gR < W.heap.size := hsw.br.lt
              clear hu hn hpre hsw hK
              go_wp2_with fail
              refine wp_region_noPanic ?_
              refine wp_region_held_drew (S := fun w' => Upd (fun k => k = gR) W w') (by kernel_rfl) ((Upd.refl _ W).drew) (fun hH => ?_)
              refine wpAnyH_take (i := 0) (oi := _) (v := ?_) (by simp only [List.getElem?_toArray, List.getElem?_cons_zero]; rfl) (by kernel_rfl) (by kernel_rfl) (by kernel_rfl) (fun _ _ _ h => h) (Or.inl ⟨by rfl, ?_⟩) (by assumption) ?_
              rotate_left
              · intro w' hSw; (try dsimp only at hSw); have hc1 := (HN.out.upd hSw (by omega)).c1; go_simp; try with_reducible rfl
              try simp only [Act.put, List.setIfInBounds_toArray, List.set_cons_zero, List.set_cons_succ]
              refine wpAnyH_take (i := 1) (oi := _) (v := ?_) (by simp only [List.getElem?_toArray, List.getElem?_cons_zero, List.getElem?_cons_succ]; rfl) (by kernel_rfl) (by kernel_rfl) (by kernel_rfl) (fun _ _ _ h => h) (Or.inl ⟨by rfl, ?_⟩) (by assumption) ?_
              rotate_left
              · intro w' hSw; (try dsimp only at hSw); have hc1 := (HSW.out.bl.upd hSw (by omega)).c1; go_simp; try with_reducible rfl
              try simp only [Act.put, List.setIfInBounds_toArray, List.set_cons_zero, List.set_cons_succ]
              refine wpAnyH_take (i := 2) (oi := _) (v := ?_) (by simp only [List.getElem?_toArray, List.getElem?_cons_zero, List.getElem?_cons_succ]; rfl) (by kernel_rfl) (by kernel_rfl) (by kernel_rfl) (fun _ _ _ h => h) (Or.inl ⟨by rfl, ?_⟩) (by assumption) ?_
              rotate_left
              · intro w' hSw; (try dsimp only at hSw); go_simp; try with_reducible rfl
              try simp only [Act.put, List.setIfInBounds_toArray, List.set_cons_zero, List.set_cons_succ]
              refine wpAnyH_take (i := 3) (oi := _) (v := ?_) (by simp only [List.getElem?_toArray, List.getElem?_cons_zero, List.getElem?_cons_succ]; rfl) (by kernel_rfl) (by kernel_rfl) (by kernel_rfl) (fun _ _ _ h => h) (Or.inl ⟨by rfl, ?_⟩) (by assumption) ?_
              rotate_left
              · intro w' hSw; (try dsimp only at hSw); go_simp; try with_reducible rfl
              try simp only [Act.put, List.setIfInBounds_toArray, List.set_cons_zero, List.set_cons_succ]
              refine wpAnyH_take (i := 4) (oi := _) (v := ?_) (by simp only [List.getElem?_toArray, List.getElem?_cons_zero, List.getElem?_cons_succ]; rfl) (by kernel_rfl) (by kernel_rfl) (by kernel_rfl) (fun _ _ _ h => h) (Or.inl ⟨by rfl, ?_⟩) (by assumption) ?_
              rotate_left
              · intro w' hSw; (try dsimp only at hSw); go_simp; try with_reducible rfl
              try simp only [Act.put, List.setIfInBounds_toArray, List.set_cons_zero, List.set_cons_succ]
              refine wpAnyH_take (i := 5) (oi := _) (v := ?_) (by simp only [List.getElem?_toArray, List.getElem?_cons_zero, List.getElem?_cons_succ]; rfl) (by kernel_rfl) (by kernel_rfl) (by kernel_rfl) (fun _ _ _ h => h) (Or.inl ⟨by rfl, ?_⟩) (by assumption) ?_
              rotate_left
              · intro w' hSw; (try dsimp only at hSw); go_simp; try with_reducible rfl
              try simp only [Act.put, List.setIfInBounds_toArray, List.set_cons_zero, List.set_cons_succ]
              refine wpAnyH_take (i := 7) (oi := _) (v := ?_) (by simp only [List.getElem?_toArray, List.getElem?_cons_zero, List.getElem?_cons_succ]; rfl) (by kernel_rfl) (by kernel_rfl) (by kernel_rfl) (fun _ _ _ h => h) (Or.inl ⟨by rfl, ?_⟩) (by assumption) ?_
              rotate_left
              · intro w' hSw; (try dsimp only at hSw); have hc1 := (HSW.out.bl.upd hSw (by omega)).c1; go_simp; try with_reducible rfl
              try simp only [Act.put, List.setIfInBounds_toArray, List.set_cons_zero, List.set_cons_succ]
              refine wpAnyH_ready (rs := [6]) (by kernel_rfl) (by simp) (AllReadyH.cons (o := _) (by simp only [List.getElem?_toArray, List.getElem?_cons_zero, List.getElem?_cons_succ]; rfl) (fun K hK => ?_) AllReadyH.nil)
              go_simp
              refine (all_b B T l W.drew (HSW.out.below (Below.refl _ W).drew).tbl (by omega)).mono ?_
              rintro e w7 ⟨A7, c7, rfl, ho, hb⟩
              have HK7 := Lib.hid ((((HSW.out.below (Below.refl _ W).drew).below hb).keeps.and ho.keepsR).and (below_keeps (Below.drew (Below.refl W.heap.size W) |>.trans hb) hb.size))
              clear ho hb
              try go_wp2_with fail
              refine hK.out _ _ (Upd.of_below HK7.out.now.2) (fun hHeld => ?_)
              clear hK K hH
              have hH := hHeld
              clear hHeld
              try simp only [Act.put, List.setIfInBounds_toArray, List.set_cons_zero, List.set_cons_succ]
              refine wpAnyH_ready (rs := [8]) (by kernel_rfl) (by simp) (AllReadyH.cons (o := _) (by simp only [List.getElem?_toArray, List.getElem?_cons_zero, List.getElem?_cons_succ]; rfl) (fun K hK => ?_) AllReadyH.nil)
              go_simp
              refine (same_any A7 A' l.length m c7 c' l l w7 HK7.out.now.1.2 HK7.out.now.1.1.own.reads (by omega) (by omega)).mono ?_
              rintro e w8 ⟨rfl, hb⟩
              rw [decide_eq_true rfl]
              have HK8 := Lib.hid (HK7.out.on hb)
              clear hb
              try go_wp2_with fail
              refine hK.out _ _ (Upd.of_below HK8.out.now.2) (fun hHeld => ?_)
              clear hK K hH
              have hH := hHeld
              clear hHeld
              try simp only [Act.put, List.setIfInBounds_toArray, List.set_cons_zero, List.set_cons_succ]
              refine wpAnyH_take (i := 9) (oi := _) (v := ?_) (by simp only [List.getElem?_toArray, List.getElem?_cons_zero, List.getElem?_cons_succ]; rfl) (by kernel_rfl) (by kernel_rfl) (by kernel_rfl) (fun _ _ _ h => h) (Or.inl ⟨by rfl, ?_⟩) (by assumption) ?_
              rotate_left
              · intro w' hSw; (try dsimp only at hSw); go_simp; try with_reducible rfl
              try simp only [Act.put, List.setIfInBounds_toArray, List.set_cons_zero, List.set_cons_succ]
              refine wpAnyH_take (i := 10) (oi := _) (v := ?_) (by simp only [List.getElem?_toArray, List.getElem?_cons_zero, List.getElem?_cons_succ]; rfl) (by kernel_rfl) (by kernel_rfl) (by kernel_rfl) (fun _ _ _ h => h) (Or.inl ⟨by rfl, ?_⟩) (by assumption) ?_
              rotate_left
              · intro w' hSw; (try dsimp only at hSw); go_simp; try with_reducible rfl
              try simp only [Act.put, List.setIfInBounds_toArray, List.set_cons_zero, List.set_cons_succ]
              refine wpAnyH_take (i := 11) (oi := _) (v := ?_) (by simp only [List.getElem?_toArray, List.getElem?_cons_zero, List.getElem?_cons_succ]; rfl) (by kernel_rfl) (by kernel_rfl) (by kernel_rfl) (fun _ _ _ h => h) (Or.inl ⟨by rfl, ?_⟩) (by assumption) ?_
              rotate_left
              · intro w' hSw; (try dsimp only at hSw); go_simp; try with_reducible rfl
              try simp only [Act.put, List.setIfInBounds_toArray, List.set_cons_zero, List.set_cons_succ]
              refine wpAnyH_take (i := 13) (oi := _) (v := ?_) (by simp only [List.getElem?_toArray, List.getElem?_cons_zero, List.getElem?_cons_succ]; rfl) (by kernel_rfl) (by kernel_rfl) (by kernel_rfl) (fun _ _ _ h => h) (Or.inl ⟨by rfl, ?_⟩) (by assumption) ?_
              rotate_left
              · intro w' hSw; (try dsimp only at hSw); go_simp; try with_reducible rfl
              try simp only [Act.put, List.setIfInBounds_toArray, List.set_cons_zero, List.set_cons_succ]
              refine wpAnyH_ready (rs := [12]) (by kernel_rfl) (by simp) (AllReadyH.cons (o := _) (by simp only [List.getElem?_toArray, List.getElem?_cons_zero, List.getElem?_cons_succ]; rfl) (fun K hK => ?_) AllReadyH.nil)
              go_simp
              refine (bytes_b B T l w8 HK8.out.now.1.1.tbl).mono ?_
              rintro e w9 ⟨rfl, rfl⟩
              try go_wp2_with fail
              refine hK.out _ _ (Upd.of_below HK8.out.now.2) (fun hHeld => ?_)
              clear hK K hH
              have hH := hHeld
              clear hHeld
              try simp only [Act.put, List.setIfInBounds_toArray, List.set_cons_zero, List.set_cons_succ]
              refine wpAnyH_take (i := 14) (oi := _) (v := ?_) (by simp only [List.getElem?_toArray, List.getElem?_cons_zero, List.getElem?_cons_succ]; rfl) (by kernel_rfl) (by kernel_rfl) (by kernel_rfl) (fun _ _ _ h => h) (Or.inl ⟨by rfl, ?_⟩) (by assumption) ?_
              rotate_left
              · intro w' hSw; (try dsimp only at hSw); go_simp; try with_reducible rfl
              try simp only [Act.put, List.setIfInBounds_toArray, List.set_cons_zero, List.set_cons_succ]
              refine wpAnyH_take (i := 15) (oi := _) (v := ?_) (by simp only [List.getElem?_toArray, List.getElem?_cons_zero, List.getElem?_cons_succ]; rfl) (by kernel_rfl) (by kernel_rfl) (by kernel_rfl) (fun _ _ _ h => h) (Or.inl ⟨by rfl, ?_⟩) (by assumption) ?_
              rotate_left
              · intro w' hSw; (try dsimp only at hSw); go_simp; try with_reducible rfl
              try simp only [Act.put, List.setIfInBounds_toArray, List.set_cons_zero, List.set_cons_succ]
              have hr8 := HK8.out.now.1.1.br.c1
              refine wpAnyH_ready (rs := [16]) (by kernel_rfl) (by simp) (AllReadyH.cons (o := _) (by simp only [List.getElem?_toArray, List.getElem?_cons_zero, List.getElem?_cons_succ]; rfl) (fun K hK => ?_) AllReadyH.nil)
              go_simp
              skip
              try go_wp2_with fail
              refine hK.out _ _ (Upd.setCell (S := fun k => k = gR) (Upd.of_below HK8.out.now.2) (p := ⟨gR, 0, none⟩) (fun _ => rfl) (.bool true)) (fun hHeld => ?_)
              clear hK K hH
              have hH := hHeld
              clear hHeld
              try simp only [Act.put, List.setIfInBounds_toArray, List.set_cons_zero, List.set_cons_succ]
              refine wpAnyH_done (by kernel_rfl) ?_ _
              refine NoPanic.normal ?_
              have hgT : (w8.setCell ⟨gR, 0, none⟩ (.bool true)).heap[D]? = some (.deferred (some [])) := (Below.heap_setCell w8 ⟨gR, 0, none⟩ _ D (by show D ≠ gR; omega)).trans ((HK8.out.now.2.block D hDlt).trans HD.out)
              have HGT := Lib.hid hgT
              clear hgT
              go_wp2_with fail
              refine ⟨by simp, .inl ⟨_, _, rfl, run_takeDeferred HGT.out, ?_⟩⟩
              have hb8 := HK8.out.now.1.1.br
              have hc5 := cell_kept (hb8.one_ (.bool true)).c1.1 (grownBy_putObj' _ D (.deferred none)) (fun r e => by cases e; exact ⟨_, HGT.out, rfl⟩)
              refine ⟨.bool true, by simp [results, Try.results5, go_sem, hc5], rfl, ?_⟩
              exact (HK8.out.now.1.1.bel.setCell (p := ⟨gR, 0, none⟩) (by show w.heap.size ≤ gR; rw [HGR.out]; exact Nat.le_refl _) (.bool true)).trans (belowK_b (w := w) (Nat.le_refl _) _ D _ _ (by omega) HGT.out rfl rfl)
            case stop =>
              rintro D c pre W hD hpre ⟨_, hno⟩ hK
              exact absurd hpre hno
      · skip
        go_wp2_with fail
        have hml : l.length = m := HS.out.own.ents_length
        have hsm := HS.out.tbl.small
        have HSM := Lib.hid hsm
        have HML := Lib.hid hml
        obtain ⟨w5, hw5⟩ : ∃ v, v = wr.alloc (.cells #[.int .i64 0] 3) := ⟨_, rfl⟩
        obtain ⟨gN, hgN⟩ : ∃ g, g = wr.heap.size := ⟨_, rfl⟩
        rw [← hw5, ← hgN]
        have hb5 : Below wr.heap.size wr w5 := by rw [hw5]; exact (Below.refl _ _).alloc (Nat.le_refl _) _
        have hk5 : Blk w5 gN 3 #[.int .i64 0] := by rw [hw5, hgN]; exact Blk.new _ _ _
        have hNL : gL < gN := by rw [hgN]; exact hllt
        have HS5 := Lib.hid (HS.out.below hb5)
        have HK5 := Lib.hid hk5
        clear hw5 hgN hb5 hk5 HS hkl hllt hml hsm
        go_loopw [7, 51] (fun bv jv wr => ∃ j : Nat, bv = .int .i64 (bytesL (l.take j)) ∧ jv = .int .i64 j ∧ j ≤ m ∧ PlSt w wr B gR gL T l A' m c' ∧ Blk wr gN 3 #[.int .i64 (lessN l key j)]) (fun _ jv _ => m - (intOf jv).toNat)
        case atStart => exact ⟨0, rfl, rfl, by omega, HS5.out, HK5.out⟩
        case round =>
          obtain ⟨j, rfl, rfl, hj, hst, hkn⟩ := hrel
          have HS := Lib.hid hst
          have HN := Lib.hid hkn
          clear hst hkn HS5 HK5
          by_cases hjm : (j : Int) < (m : Int)
          · obtain ⟨ad, x, rfl, hab, hx, hc⟩ := HS.out.own.reads.ent (k := j) (by omega)
            have hj0 : (0 : Int) ≤ (j : Int) := by omega
            have hlc := HS.out.bl.c1
            have hnc := HN.out.c1
            have hby := bytesL_next hx
            have hle := lessN_next (key := key) hx
            have hb1 := bytesL_take_le HSM.out j
            have hb2 := bytesL_take_le HSM.out (j + 1)
            have hxs := HSM.out x (List.mem_of_getElem? hx)
            have hln : lessN l key j ≤ m := by have := List.countP_le_length (p := fun e => Op.bytesLess e.key.toList key.toList) (l := l.take j); rw [List.length_take] at this; unfold lessN; omega
            obtain ⟨hxs1, hxs2⟩ := hxs
            rw [HML.out] at hb1 hb2
            obtain ⟨b0, hb0⟩ : ∃ b, b = bytesL (l.take j) := ⟨_, rfl⟩
            obtain ⟨n0, hn0⟩ : ∃ b, b = lessN l key j := ⟨_, rfl⟩
            rw [← hb0] at hby hb1 ⊢
            rw [← hn0] at hle hln hnc
            have HBY := Lib.hid hby
            have HLE := Lib.hid hle
            have HN0 := Lib.hid hn0
            have hw1 : IntKind.i64.wrap ((x.key.size : Int) + (x.val.size : Int)) = (x.key.size : Int) + (x.val.size : Int) := IntWalk.i64_in _ (by omega)
            have hw2 : IntKind.i64.wrap ((b0 : Int) + ((x.key.size : Int) + (x.val.size : Int))) = (b0 : Int) + ((x.key.size : Int) + (x.val.size : Int)) := IntWalk.i64_in _ (by omega)
            clear hx hab hby hle hb0 hn0 hb2
            go_wp2_with fail
            go_quiet (fail)
            have hbv : (b0 : Int) + ((x.key.size : Int) + (x.val.size : Int)) = ((bytesL (l.take (j + 1)) : Nat) : Int) := by rw [HBY.out]; omega
            have HBV := Lib.hid hbv
            clear hw1 hw2 hbv
            cases hl : Op.bytesLess x.key.toList key.toList with
            | true =>
              have hnv : lessN l key (j + 1) = n0 + 1 := by rw [HLE.out, hl]; rfl
              have HNV := Lib.hid hnv
              clear hnv
              go_wp2_with fail
              go_roundw
              case rel => exact ⟨j + 1, congrArg _ HBV.out, by go_num, by omega, (HS.out.drewN _).set_ (HN.out.drewN _) (by decide) (by omega) (by omega) (by omega) _, by rw [HNV.out, show (((n0 + 1 : Nat)) : Int) = (n0 : Int) + 1 from by omega]; exact (HN.out.drewN _).one_ _⟩
              case measure => simp [intOf]; omega
            | false =>
              have hnv : lessN l key (j + 1) = lessN l key j := by rw [HLE.out, hl, ← HN0.out]; rfl
              have HNV := Lib.hid hnv
              clear hnv
              go_wp2_with fail
              go_roundw
              case rel => exact ⟨j + 1, congrArg _ HBV.out, by go_num, by omega, HS.out.drewN _, by rw [HNV.out]; exact HN.out.drewN _⟩
              case measure => simp [intOf]; omega
          · have hje : j = l.length := by have := HML.out; omega
            have hn1 : lessN l key j = fromP l key := by rw [hje]; exact lessN_all HS.out.tbl.ord key
            have hb1 : bytesL (l.take j) = bytesL l := by rw [hje, List.take_of_length_le (Nat.le_refl _)]
            rw [hn1] at HN
            rw [hb1]
            have hm100 : l.length ≤ 100 := by have := HML.out; omega
            clear hn1 hb1 hje
            go_wp2_with fail
            refine (from_any B T l key wr HS.out.tbl (by omega)).mono ?_
            rintro e w6 ⟨gI, rfl, hit, hb⟩
            have HS6 := Lib.hid (HS.out.below hb)
            have hn6 := HN.out.below hb HN.out.lt
            have HN6 := Lib.hid hn6
            have hnl6 : gN < w6.heap.size := hn6.lt
            obtain ⟨S, hS, hseq⟩ := values_stops 5 (by omega) wr.heap.size gI _ w6 hit
            have hnr : gN < wr.heap.size := HN.out.lt
            obtain ⟨p, hp⟩ : ∃ p, p = fromP l key := ⟨_, rfl⟩
            have hpl : p ≤ l.length := by rw [hp]; exact fromP_le l key
            rw [← hp] at HN6 hseq hn6
            clear hit hb HS HN hp
            go_wp2_with fail
            refine (wpIn_wide (n := 6)).1 ?_
            refine wpIn_rangeFunc_box rfl (by omega) (gf := 26) (lb := #[.pointer (some ⟨gI, 0, none⟩)]) rfl trivial (enters_of Try.func26 (by kernel_rfl) rfl)
              hseq KC.trans (KC.put (fun k hk => (hS k hk).2)) (Below.refl _ _) (fun _ => rfl)
              (fun pre W => Upd (fun k => k = gN) w6 W ∧ Blk W gN 3 #[.int .i64 ((p + pre.length : Nat) : Int)] ∧ pre <+: l.drop p)
              (fun c pre _ => c = .ret ∧ ¬ pre <+: l.drop p)
              (fun s W W' row hs hg hr => ⟨hs.1.grown hg (fun k e hk => absurd (hr k e).1 (by omega)), blk_grown hs.2.1 hg hr, hs.2.2⟩)
              (fun _ _ _ _ _ hs _ _ => hs)
              ⟨Upd.refl _ _, hn6, List.nil_prefix⟩ ?b1 28 (fun x => #[.string x.key, .int .i64 x.seq, .bool x.del, .string x.val])
              (fun pre W h => h.1.size) (fun pre W o h => KC.alloc W o (fun k hk => Nat.lt_of_lt_of_le (hS k hk).2 h.1.size))
              ?assign2 ?body2 ?dn2 ?stop2
            case assign2 =>
              intro lr x W Bx K hB hK
              have HB := Lib.hid hB
              clear hB
              gi_wp2
              rw [← HB.out]
              exact hK
            case body2 =>
              rintro lr pre x W Bx hBx hbx ⟨hu, hn, hpre⟩ hlt
              obtain ⟨q, hq⟩ : ∃ q, q = p + pre.length := ⟨_, rfl⟩
              rw [← hq] at hn
              have hql : q < l.length := by rw [List.length_drop] at hlt; omega
              have hsw := HS6.out.upd hn6 (by decide) (by omega) (by omega) (by omega) hu
              obtain ⟨ad, y, rfl, hab, hy, hc⟩ := hsw.own.reads.ent (k := q) (by have := HML.out; omega)
              have hlc := hsw.bl.c1
              have hrc := hsw.br.c1
              have hnc := hn.c1
              have hxc := hbx.c4
              have hqm : q < m := by have := HML.out; omega
              have hqd : decide (m ≤ q) = false := decide_eq_false (by omega)
              have hq0 : (0 : Int) ≤ (q : Int) := by omega
              have hq2 : (q : Int) ≤ 1000 := by omega
              have heq := ent_neq y x
              unfold Ent.agg at heq
              have hyd : (l.drop p)[pre.length]? = some y := by rw [List.getElem?_drop, ← hq]; exact hy
              have HYD := Lib.hid hyd
              have HN := Lib.hid hn
              have HU := Lib.hid hu
              have HPRE := Lib.hid hpre
              have HQ := Lib.hid hq
              have hsg : ¬ S gN := fun h => by have := (hS gN h).1; omega
              clear hy hab hyd hn hu hpre hq hsw hbx
              cases hd : decide (y = x) with
              | true =>
                rw [hd] at heq
                have HD := Lib.hid hd
                clear hd
                (repeat gi_step)
                refine wpIn_region_quiet_round (by kernel_rfl) (by kernel_rfl) (by kernel_rfl) ?_
                repeat (go_big_quiet_step (fail))
                refine wpQuiet_nil ?_
                rintro _ ⟨nq, rfl⟩
                (repeat gi_step)
                have hxy : y = x := of_decide_eq_true HD.out
                refine ⟨((KeepsOthers.drewN W nq).trans (KeepsOthers.setCell _ _ _)).from _, KC.trans (KC.drewN W nq) (KC.set_ _ _ _ hsg), (HU.out.drewN nq).setCell (p := ⟨gN, 0, none⟩) (fun _ => rfl) _, ?_, prefix_snoc HPRE.out (by rw [← hxy]; exact HYD.out)⟩
                have h9 := (HN.out.drewN nq).one_ (.int .i64 ((q : Int) + 1))
                rw [show ((p + (pre ++ [x]).length : Nat) : Int) = (q : Int) + 1 from by rw [List.length_append, List.length_singleton, HQ.out]; omega]
                exact h9
              | false =>
                rw [hd] at heq
                have HD := Lib.hid hd
                clear hd
                (repeat gi_step)
                refine wpIn_region_quiet_round (by kernel_rfl) (by kernel_rfl) (by kernel_rfl) ?_
                repeat (go_big_quiet_step (fail))
                refine wpQuiet_nil ?_
                rintro _ ⟨nq, rfl⟩
                (repeat gi_step)
                refine ⟨((KeepsOthers.drewN W nq).trans (KeepsOthers.setCell _ _ _)).from _, rfl, fun h => ?_⟩
                have h2 := prefix_at h
                rw [HYD.out] at h2
                injection h2 with h2
                exact of_decide_eq_false HD.out h2
            case dn2 =>
              rintro D ys W hD rfl ⟨hu, hn, hpre⟩ hK
              have hsw := HS6.out.upd hn6 (by decide) (by omega) (by omega) (by omega) hu
              rw [show ((p + (l.drop p).length : Nat) : Int) = (l.length : Int) from by rw [List.length_drop]; omega] at hn
              have HN := Lib.hid hn
              have HSW := Lib.hid hsw
              have HD := Lib.hid hK
              have hNlt := hn.lt
              have hLlt := hsw.bl.lt
              have hDlt : D < W.heap.size := by
                rcases Nat.lt_or_ge D W.heap.size with h | h
                · exact h
                · rw [Array.getElem?_eq_none h] at hK; cases hK
              have heqm : ((l.length : Int) == (m : Int)) = true := by rw [HML.out]; simp
              have heqb : ((bytesL l : Int) == (bytesL l : Int)) = true := by simp
              have hBW : B ≤ W.heap.size := by omega
              have hgW : gR < W.heap.size := hsw.br.lt
              clear hu hn hpre hsw hK
              go_wp2_with fail
              refine wp_region_noPanic ?_
              refine wp_region_held_drew (S := fun w' => Upd (fun k => k = gR) W w') (by kernel_rfl) ((Upd.refl _ W).drew) (fun hH => ?_)
              refine wpAnyH_take (i := 0) (oi := _) (v := ?_) (by simp only [List.getElem?_toArray, List.getElem?_cons_zero]; rfl) (by kernel_rfl) (by kernel_rfl) (by kernel_rfl) (fun _ _ _ h => h) (Or.inl ⟨by rfl, ?_⟩) (by assumption) ?_
              rotate_left
              · intro w' hSw; (try dsimp only at hSw); have hc1 := (HN.out.upd hSw (by omega)).c1; go_simp; try with_reducible rfl
              try simp only [Act.put, List.setIfInBounds_toArray, List.set_cons_zero, List.set_cons_succ]
              refine wpAnyH_take (i := 1) (oi := _) (v := ?_) (by simp only [List.getElem?_toArray, List.getElem?_cons_zero, List.getElem?_cons_succ]; rfl) (by kernel_rfl) (by kernel_rfl) (by kernel_rfl) (fun _ _ _ h => h) (Or.inl ⟨by rfl, ?_⟩) (by assumption) ?_
              rotate_left
              · intro w' hSw; (try dsimp only at hSw); have hc1 := (HSW.out.bl.upd hSw (by omega)).c1; go_simp; try with_reducible rfl
              try simp only [Act.put, List.setIfInBounds_toArray, List.set_cons_zero, List.set_cons_succ]
              refine wpAnyH_take (i := 2) (oi := _) (v := ?_) (by simp only [List.getElem?_toArray, List.getElem?_cons_zero, List.getElem?_cons_succ]; rfl) (by kernel_rfl) (by kernel_rfl) (by kernel_rfl) (fun _ _ _ h => h) (Or.inl ⟨by rfl, ?_⟩) (by assumption) ?_
              rotate_left
              · intro w' hSw; (try dsimp only at hSw); go_simp; try with_reducible rfl
              try simp only [Act.put, List.setIfInBounds_toArray, List.set_cons_zero, List.set_cons_succ]
              refine wpAnyH_take (i := 3) (oi := _) (v := ?_) (by simp only [List.getElem?_toArray, List.getElem?_cons_zero, List.getElem?_cons_succ]; rfl) (by kernel_rfl) (by kernel_rfl) (by kernel_rfl) (fun _ _ _ h => h) (Or.inl ⟨by rfl, ?_⟩) (by assumption) ?_
              rotate_left
              · intro w' hSw; (try dsimp only at hSw); go_simp; try with_reducible rfl
              try simp only [Act.put, List.setIfInBounds_toArray, List.set_cons_zero, List.set_cons_succ]
              refine wpAnyH_take (i := 4) (oi := _) (v := ?_) (by simp only [List.getElem?_toArray, List.getElem?_cons_zero, List.getElem?_cons_succ]; rfl) (by kernel_rfl) (by kernel_rfl) (by kernel_rfl) (fun _ _ _ h => h) (Or.inl ⟨by rfl, ?_⟩) (by assumption) ?_
              rotate_left
              · intro w' hSw; (try dsimp only at hSw); go_simp; try with_reducible rfl
              try simp only [Act.put, List.setIfInBounds_toArray, List.set_cons_zero, List.set_cons_succ]
              refine wpAnyH_take (i := 5) (oi := _) (v := ?_) (by simp only [List.getElem?_toArray, List.getElem?_cons_zero, List.getElem?_cons_succ]; rfl) (by kernel_rfl) (by kernel_rfl) (by kernel_rfl) (fun _ _ _ h => h) (Or.inl ⟨by rfl, ?_⟩) (by assumption) ?_
              rotate_left
              · intro w' hSw; (try dsimp only at hSw); go_simp; try with_reducible rfl
              try simp only [Act.put, List.setIfInBounds_toArray, List.set_cons_zero, List.set_cons_succ]
              refine wpAnyH_take (i := 7) (oi := _) (v := ?_) (by simp only [List.getElem?_toArray, List.getElem?_cons_zero, List.getElem?_cons_succ]; rfl) (by kernel_rfl) (by kernel_rfl) (by kernel_rfl) (fun _ _ _ h => h) (Or.inl ⟨by rfl, ?_⟩) (by assumption) ?_
              rotate_left
              · intro w' hSw; (try dsimp only at hSw); have hc1 := (HSW.out.bl.upd hSw (by omega)).c1; go_simp; try with_reducible rfl
              try simp only [Act.put, List.setIfInBounds_toArray, List.set_cons_zero, List.set_cons_succ]
              refine wpAnyH_ready (rs := [6]) (by kernel_rfl) (by simp) (AllReadyH.cons (o := _) (by simp only [List.getElem?_toArray, List.getElem?_cons_zero, List.getElem?_cons_succ]; rfl) (fun K hK => ?_) AllReadyH.nil)
              go_simp
              refine (all_b B T l W.drew (HSW.out.below (Below.refl _ W).drew).tbl (by omega)).mono ?_
              rintro e w7 ⟨A7, c7, rfl, ho, hb⟩
              have HK7 := Lib.hid ((((HSW.out.below (Below.refl _ W).drew).below hb).keeps.and ho.keepsR).and (below_keeps (Below.drew (Below.refl W.heap.size W) |>.trans hb) hb.size))
              clear ho hb
              try go_wp2_with fail
              refine hK.out _ _ (Upd.of_below HK7.out.now.2) (fun hHeld => ?_)
              clear hK K hH
              have hH := hHeld
              clear hHeld
              try simp only [Act.put, List.setIfInBounds_toArray, List.set_cons_zero, List.set_cons_succ]
              refine wpAnyH_ready (rs := [8]) (by kernel_rfl) (by simp) (AllReadyH.cons (o := _) (by simp only [List.getElem?_toArray, List.getElem?_cons_zero, List.getElem?_cons_succ]; rfl) (fun K hK => ?_) AllReadyH.nil)
              go_simp
              refine (same_any A7 A' l.length m c7 c' l l w7 HK7.out.now.1.2 HK7.out.now.1.1.own.reads (by omega) (by omega)).mono ?_
              rintro e w8 ⟨rfl, hb⟩
              rw [decide_eq_true rfl]
              have HK8 := Lib.hid (HK7.out.on hb)
              clear hb
              try go_wp2_with fail
              refine hK.out _ _ (Upd.of_below HK8.out.now.2) (fun hHeld => ?_)
              clear hK K hH
              have hH := hHeld
              clear hHeld
              try simp only [Act.put, List.setIfInBounds_toArray, List.set_cons_zero, List.set_cons_succ]
              refine wpAnyH_take (i := 9) (oi := _) (v := ?_) (by simp only [List.getElem?_toArray, List.getElem?_cons_zero, List.getElem?_cons_succ]; rfl) (by kernel_rfl) (by kernel_rfl) (by kernel_rfl) (fun _ _ _ h => h) (Or.inl ⟨by rfl, ?_⟩) (by assumption) ?_
              rotate_left
              · intro w' hSw; (try dsimp only at hSw); go_simp; try with_reducible rfl
              try simp only [Act.put, List.setIfInBounds_toArray, List.set_cons_zero, List.set_cons_succ]
              refine wpAnyH_take (i := 10) (oi := _) (v := ?_) (by simp only [List.getElem?_toArray, List.getElem?_cons_zero, List.getElem?_cons_succ]; rfl) (by kernel_rfl) (by kernel_rfl) (by kernel_rfl) (fun _ _ _ h => h) (Or.inl ⟨by rfl, ?_⟩) (by assumption) ?_
              rotate_left
              · intro w' hSw; (try dsimp only at hSw); go_simp; try with_reducible rfl
              try simp only [Act.put, List.setIfInBounds_toArray, List.set_cons_zero, List.set_cons_succ]
              refine wpAnyH_take (i := 11) (oi := _) (v := ?_) (by simp only [List.getElem?_toArray, List.getElem?_cons_zero, List.getElem?_cons_succ]; rfl) (by kernel_rfl) (by kernel_rfl) (by kernel_rfl) (fun _ _ _ h => h) (Or.inl ⟨by rfl, ?_⟩) (by assumption) ?_
              rotate_left
              · intro w' hSw; (try dsimp only at hSw); go_simp; try with_reducible rfl
              try simp only [Act.put, List.setIfInBounds_toArray, List.set_cons_zero, List.set_cons_succ]
              refine wpAnyH_take (i := 13) (oi := _) (v := ?_) (by simp only [List.getElem?_toArray, List.getElem?_cons_zero, List.getElem?_cons_succ]; rfl) (by kernel_rfl) (by kernel_rfl) (by kernel_rfl) (fun _ _ _ h => h) (Or.inl ⟨by rfl, ?_⟩) (by assumption) ?_
              rotate_left
              · intro w' hSw; (try dsimp only at hSw); go_simp; try with_reducible rfl
              try simp only [Act.put, List.setIfInBounds_toArray, List.set_cons_zero, List.set_cons_succ]
              refine wpAnyH_ready (rs := [12]) (by kernel_rfl) (by simp) (AllReadyH.cons (o := _) (by simp only [List.getElem?_toArray, List.getElem?_cons_zero, List.getElem?_cons_succ]; rfl) (fun K hK => ?_) AllReadyH.nil)
              go_simp
              refine (bytes_b B T l w8 HK8.out.now.1.1.tbl).mono ?_
              rintro e w9 ⟨rfl, rfl⟩
              try go_wp2_with fail
              refine hK.out _ _ (Upd.of_below HK8.out.now.2) (fun hHeld => ?_)
              clear hK K hH
              have hH := hHeld
              clear hHeld
              try simp only [Act.put, List.setIfInBounds_toArray, List.set_cons_zero, List.set_cons_succ]
              refine wpAnyH_take (i := 14) (oi := _) (v := ?_) (by simp only [List.getElem?_toArray, List.getElem?_cons_zero, List.getElem?_cons_succ]; rfl) (by kernel_rfl) (by kernel_rfl) (by kernel_rfl) (fun _ _ _ h => h) (Or.inl ⟨by rfl, ?_⟩) (by assumption) ?_
              rotate_left
              · intro w' hSw; (try dsimp only at hSw); go_simp; try with_reducible rfl
              try simp only [Act.put, List.setIfInBounds_toArray, List.set_cons_zero, List.set_cons_succ]
              refine wpAnyH_take (i := 15) (oi := _) (v := ?_) (by simp only [List.getElem?_toArray, List.getElem?_cons_zero, List.getElem?_cons_succ]; rfl) (by kernel_rfl) (by kernel_rfl) (by kernel_rfl) (fun _ _ _ h => h) (Or.inl ⟨by rfl, ?_⟩) (by assumption) ?_
              rotate_left
              · intro w' hSw; (try dsimp only at hSw); go_simp; try with_reducible rfl
              try simp only [Act.put, List.setIfInBounds_toArray, List.set_cons_zero, List.set_cons_succ]
              have hr8 := HK8.out.now.1.1.br.c1
              refine wpAnyH_ready (rs := [16]) (by kernel_rfl) (by simp) (AllReadyH.cons (o := _) (by simp only [List.getElem?_toArray, List.getElem?_cons_zero, List.getElem?_cons_succ]; rfl) (fun K hK => ?_) AllReadyH.nil)
              go_simp
              skip
              try go_wp2_with fail
              refine hK.out _ _ (Upd.setCell (S := fun k => k = gR) (Upd.of_below HK8.out.now.2) (p := ⟨gR, 0, none⟩) (fun _ => rfl) (.bool true)) (fun hHeld => ?_)
              clear hK K hH
              have hH := hHeld
              clear hHeld
              try simp only [Act.put, List.setIfInBounds_toArray, List.set_cons_zero, List.set_cons_succ]
              refine wpAnyH_done (by kernel_rfl) ?_ _
              refine NoPanic.normal ?_
              have hgT : (w8.setCell ⟨gR, 0, none⟩ (.bool true)).heap[D]? = some (.deferred (some [])) := (Below.heap_setCell w8 ⟨gR, 0, none⟩ _ D (by show D ≠ gR; omega)).trans ((HK8.out.now.2.block D hDlt).trans HD.out)
              have HGT := Lib.hid hgT
              clear hgT
              go_wp2_with fail
              refine ⟨by simp, .inl ⟨_, _, rfl, run_takeDeferred HGT.out, ?_⟩⟩
              have hb8 := HK8.out.now.1.1.br
              have hc5 := cell_kept (hb8.one_ (.bool true)).c1.1 (grownBy_putObj' _ D (.deferred none)) (fun r e => by cases e; exact ⟨_, HGT.out, rfl⟩)
              refine ⟨.bool true, by simp [results, Try.results5, go_sem, hc5], rfl, ?_⟩
              exact (HK8.out.now.1.1.bel.setCell (p := ⟨gR, 0, none⟩) (by show w.heap.size ≤ gR; rw [HGR.out]; exact Nat.le_refl _) (.bool true)).trans (belowK_b (w := w) (Nat.le_refl _) _ D _ _ (by omega) HGT.out rfl rfl)
            case stop2 =>
              rintro D c pre W hD hpre ⟨_, hno⟩ hK
              exact absurd hpre hno

theorem plays_vals (W : World) (args : Array Value) (hv : Vals Try.prog W [22, 9] args.toList) (_ : Smalls Try.prog [22, 9] args.toList) :
    Calls Try.prog 5 args W fun e W' => e = .returned (.bool true) ∧ Below W.heap.size W W' := by
  obtain ⟨v0, r0, e0, h0, v1, r1, rfl, h1, rfl⟩ := hv
  obtain rfl : args = #[v0, v1] := by cases args; simp_all
  obtain ⟨A, n, c, l, rfl, hr, hnc, hc⟩ := val_ops h0
  obtain ⟨key, rfl, _⟩ := val_string Try.underlying9 h1
  exact plays_walk A n c l key W hr (by omega)

set_option maxRecDepth 100000 in
theorem plays_lifted (os : Os) (started : os.Started) (H : Type) (enc : TypeId × Value → H) (F : Stop.Interp) :
    ReturnsInHanded {} Try.checked os 5 .any ((Rows.OpenSpec.upto Rows.memPlaysSpec).pre6 enc Try.prog Try.f5 Rows.memPlaysUptoRow.domain false) (((Rows.OpenSpec.upto Rows.memPlaysSpec).at F).post enc Try.prog Try.f5 false true false false) :=
  lift_upto (C := Try.checked) #[22, 9] (by kernel_rfl) (by kernel_rfl) started (by kernel_rfl) Try.func5
    (OpenSpec.witness (enc := enc) (C := Try.checked) (s := Rows.OpenSpec.upto Rows.memPlaysSpec) (k := Rows.uptoSmall) rfl false ⟨#[], #[.slice none 0 0, .string .empty], []⟩ 8 (by kernel_rfl) (by kernel_rfl) (by kernel_rfl)
      (x := ([.nil, .lit (.string [])], [], [])) (by kernel_rfl) rfl (by kernel_rfl))
    Try.params5 (by kernel_rfl) rfl rfl Try.underlying4 (fun ds hl => match ds, hl with | [_, _], _ => rfl) (fun W args hv hs => plays_vals W args hv hs)

theorem plays_holds : Rows.MemPlaysUptoSaid :=
  OpenClaim.holds_of_cond 5 Try.f5 rfl rfl rfl rfl rfl rfl rfl ⟨rfl, rfl, rfl, rfl, rfl⟩ rfl rfl rfl rfl rfl (by kernel_rfl) Try.func5 (by kernel_rfl)
    (of_decide_eq_true (by kernel_rfl)) (by unfold Func.isWrapper; rw [if_neg (of_decide_eq_false (by kernel_rfl))]; exact ⟨rfl, rfl⟩)
    (fun os started H enc _ F => plays_lifted os started H enc F)
end Go.Proofs.Ytgcnodbinmgobaa
