/- walk: convoylaw04.play -/
import Derived.Test.YtgcnodbinmgobaaMemK
import Derived.Test.YtgcnodbinmgobaaMemI
namespace Go.Proofs.Ytgcnodbinmgobaa
open Go.RowKit

theorem PastB.trans {a b c : World} (h : PastB a b) (k : PastB b c) : PastB a c := fun g t cs h1 h2 h3 hb => k g t cs h1 h2 h3 (h g t cs h1 h2 h3 hb)
theorem PastB.of_below {a b : World} (h : Below a.heap.size a b) : PastB a b := fun _ _ _ _ _ _ hb => hb.below h hb.lt
theorem TblB.set_ {w : World} {B T g t i : Nat} {l : List Ent} {cs : Array Value} (h : TblB w B T l) (hg : Blk w g t cs) (h1 : t ≠ 53) (h2 : t ≠ 54) (h3 : t ≠ 51) (v : Value) : TblB (w.setCell ⟨g, i, none⟩ v) B T l := by
  obtain ⟨F, h, hF⟩ := h
  refine ⟨F, h.upd (S := fun k => k = g) ((Upd.refl (fun k => k = g) w).setCell (p := ⟨g, i, none⟩) (fun _ => rfl) v) (fun k hk e => ?_), hF⟩
  obtain ⟨hb, ns, h, rfl, rfl⟩ := h
  subst e
  exact h.tab.notFoot hg h1 h2 h3 hk
theorem put_c (B T : Nat) (l : List Ent) (x : Ent) (height : Int) (w : World) (h : TblB w B T l) (hlen : l.length ≤ 1000) (hB : B ≤ w.heap.size) :
    Calls Try.prog 9 #[.pointer (some ⟨T, 0, none⟩), .agg #[.string x.key, .int .i64 x.seq, .bool x.del, .string x.val], .int .i64 height] w fun r w' =>
      r = .returned (.int .i64 (putL l x).2) ∧ TblB w' B T (putL l x).1 ∧ Below B w w' ∧ Past w w' ∧ PastB w w' := by
  obtain ⟨F, h, h2⟩ := h
  refine (put_t T l F x height w h hlen).mono ?_
  rintro r w' ⟨h1, F', h3, h4, h5⟩
  exact ⟨h1, ⟨F', h3, fun k hk => (h4 k hk).elim (h2 k) (fun h => by omega)⟩, h5.to_below hB fun k hk hF => by have := h2 k hF; omega, h.past h5, h.pastB h5⟩

/-- The list behind a call. -/
def stepL (l : List Ent) (o : Ope) : List Ent := if o.ask then l else (putL l o.e).1
theorem step_length (l : List Ent) (o : Ope) : (stepL l o).length ≤ l.length + 1 := by
  unfold stepL
  split
  · omega
  · exact put_length l o.e
set_option maxRecDepth 100000 in
set_option maxHeartbeats 4000000 in
theorem play_any (B T : Nat) (A : Option Addr) (n c : Nat) (l : List Ent) (o : Ope) (w : World) (ht : TblB w B T l) (ho : Own w B 28 4 A n c (ents l)) (hn : n ≤ 900) (hB : B ≤ w.heap.size) :
    Calls Try.prog 15 #[.pointer (some ⟨T, 0, none⟩), .slice A n c, .agg #[.bool o.ask, .string o.e.key, .int .i64 o.e.seq, .bool o.e.del, .string o.e.val, .int .i64 o.h]] w fun e w' =>
      ∃ A' m c', e = .returned (.tuple #[.slice A' m c', .bool true]) ∧ TblB w' B T (stepL l o) ∧ Own w' B 28 4 A' m c' (ents (stepL l o)) ∧ m ≤ n + 1 ∧ Below B w w' ∧ PastB w w' := by
  have hln := ho.ents_length
  have hord := ht.ord
  have HO := Lib.hid ho
  have HT := Lib.hid ht
  have HLN := Lib.hid hln
  have HORD := Lib.hid hord
  obtain ⟨l', hl'⟩ : ∃ l', l' = stepL l o := ⟨_, rfl⟩
  rw [← hl']
  have HL' := Lib.hid hl'
  clear hln hord ho ht hl'
  go_enter Try.func15, Try.ntmps15
  cases hask : o.ask with
  | true =>
    have he : l' = l := by rw [HL'.out]; unfold stepL; rw [hask]; rfl
    have HE := Lib.hid he
    clear hask he
    go_wp2_with fail
    obtain ⟨w1, hw1⟩ : ∃ v, v = w.alloc (.cells #[.bool true, .string o.e.key, .int .i64 o.e.seq, .bool o.e.del, .string o.e.val, .int .i64 o.h] 30) := ⟨_, rfl⟩
    obtain ⟨g, hg⟩ : ∃ g, g = w.heap.size := ⟨_, rfl⟩
    rw [← hw1, ← hg]
    have hb1 : Below w.heap.size w w1 := by rw [hw1]; exact (Below.refl _ _).alloc (Nat.le_refl _) _
    have hk1 : Blk w1 g 30 #[.bool true, .string o.e.key, .int .i64 o.e.seq, .bool o.e.del, .string o.e.val, .int .i64 o.h] := by rw [hw1, hg]; exact Blk.new _ _ _
    have HK := Lib.hid (((hk1.keeps.and (fun w' hb => (HT.out.below hb1).below hb : Keeps w1 (fun w => TblB w B T l))).and (HO.out.below hb1 (Nat.le_refl _)).keeps).and (below_keeps hb1 hb1.size))
    clear hw1 hb1 hk1 hg HT HO
    refine (get_b B T l o.e.key o.e.seq w1 HK.out.now.1.1.2).mono ?_
    rintro e w2 ⟨rfl, -, hb⟩
    have HK2 := Lib.hid (HK.out.on hb)
    clear hb HK
    obtain ⟨G, hG⟩ : ∃ G, G = getL l o.e.key o.e.seq := ⟨_, rfl⟩
    obtain ⟨OK, hOK⟩ : ∃ OK, OK = G.isSome := ⟨_, rfl⟩
    obtain ⟨E, hE⟩ : ∃ E, E = getE G := ⟨_, rfl⟩
    rw [← hG, ← hOK, ← hE]
    unfold Ent.agg
    have HG := Lib.hid hG
    have HOK := Lib.hid hOK
    have HEE := Lib.hid hE
    have hkc := HK2.out.now.1.1.1.c6
    have hgl := HK2.out.now.1.1.1.lt
    clear hG hOK hE
    go_wp2_with fail
    obtain ⟨w3, hw3⟩ : ∃ v, v = w2.alloc (.cells #[.string E.key, .int .i64 E.seq, .bool E.del, .string E.val] 28) := ⟨_, rfl⟩
    obtain ⟨g2, hg2⟩ : ∃ g, g = w2.heap.size := ⟨_, rfl⟩
    rw [← hw3, ← hg2]
    have hb3 : Below w2.heap.size w2 w3 := by rw [hw3]; exact (Below.refl _ _).alloc (Nat.le_refl _) _
    have hk3 : Blk w3 g2 28 #[.string E.key, .int .i64 E.seq, .bool E.del, .string E.val] := by rw [hw3, hg2]; exact Blk.new _ _ _
    have HK3 := Lib.hid ((HK2.out.on hb3).and hk3.keeps)
    clear hw3 hg2 hb3 hk3 HK2 hkc hgl
    refine (refget_any B A n c l o.e.key o.e.seq w3 HK3.out.now.1.1.2 HORD.out (by omega)).mono ?_
    rintro e w4 ⟨rfl, hb⟩
    have HK4 := Lib.hid (HK3.out.on hb)
    clear hb HK3
    rw [← HG.out, ← HOK.out, ← HEE.out]
    unfold Ent.agg
    have hq := ent_eql E E
    rw [decide_eq_true rfl] at hq
    unfold Ent.agg at hq
    have hc4 := HK4.out.now.2.c4
    have hgl := HK4.out.now.2.lt
    cases OK
    all_goals
      go_wp2_with fail
      go_ret2
      have HK5 := Lib.hid (HK4.out.alloc (.cells #[.string E.key, .int .i64 E.seq, .bool E.del, .string E.val] 28))
      exact ⟨A, n, c, rfl, by rw [HE.out]; exact HK5.out.now.1.1.1.2, by rw [HE.out]; exact HK5.out.now.1.1.2, by omega, HK5.out.now.1.2.mono hB, PastB.of_below HK5.out.now.1.2⟩
  | false =>
    have he : l' = (putL l o.e).1 := by rw [HL'.out]; unfold stepL; rw [hask]; rfl
    have HE := Lib.hid he
    clear hask he
    go_wp2_with fail
    obtain ⟨w1, hw1⟩ : ∃ v, v = w.alloc (.cells #[.bool false, .string o.e.key, .int .i64 o.e.seq, .bool o.e.del, .string o.e.val, .int .i64 o.h] 30) := ⟨_, rfl⟩
    obtain ⟨g, hg⟩ : ∃ g, g = w.heap.size := ⟨_, rfl⟩
    rw [← hw1, ← hg]
    have hb1 : Below w.heap.size w w1 := by rw [hw1]; exact (Below.refl _ _).alloc (Nat.le_refl _) _
    have hk1 : Blk w1 g 30 #[.bool false, .string o.e.key, .int .i64 o.e.seq, .bool o.e.del, .string o.e.val, .int .i64 o.h] := by rw [hw1, hg]; exact Blk.new _ _ _
    have HO1 := Lib.hid (HO.out.below hb1 (Nat.le_refl _))
    have HK := Lib.hid ((hk1.keeps.and (fun w' hb => (HT.out.below hb1).below hb : Keeps w1 (fun w => TblB w B T l))).and (below_keeps hb1 hb1.size))
    have hB1 : B ≤ w1.heap.size := Nat.le_trans hB hb1.size
    clear hw1 hb1 hk1 hg HT HO
    refine (refput_any B A n c l o.e w1 HO1.out (by omega) hB1).mono ?_
    rintro e w2 ⟨A', m, c', rfl, ho, hm, hb⟩
    obtain ⟨code, hcode⟩ : ∃ code, code = (putL l o.e).2 := ⟨_, rfl⟩
    rw [← HE.out] at ho
    rw [← hcode]
    have HCO := Lib.hid hcode
    have HO2 := Lib.hid ho
    have HK2 := Lib.hid (HK.out.on hb)
    have hB2 : B ≤ w2.heap.size := Nat.le_trans hB1 hb.size
    clear hb HK HO1 ho hcode
    have hkc := HK2.out.now.1.1.c6
    have hgl := HK2.out.now.1.1.lt
    go_wp2_with fail
    refine (put_c B T l o.e o.h w2 HK2.out.now.1.2 (by have := HLN.out; omega) hB2).mono ?_
    rintro e w3 ⟨rfl, ht, hb, hp, hpb⟩
    rw [← HCO.out]
    rw [← HE.out] at ht
    have HO3 := Lib.hid (hp _ _ _ _ _ _ HO2.out)
    have HT3 := Lib.hid ht
    have HB3 := Lib.hid ((HK2.out.now.2.mono hB).trans hb)
    have HPB := Lib.hid ((PastB.of_below HK2.out.now.2).trans hpb)
    have hcc : ((code : Int) == (code : Int)) = true := by simp
    clear ht hb hp hpb hkc hgl
    go_wp2_with fail
    go_ret2
    exact ⟨A', m, c', rfl, HT3.out, HO3.out, hm, HB3.out, HPB.out⟩
end Go.Proofs.Ytgcnodbinmgobaa
