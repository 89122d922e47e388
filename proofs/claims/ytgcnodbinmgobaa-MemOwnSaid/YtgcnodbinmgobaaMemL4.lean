/-
  PROVED HERE: MemOwn: for every input the law of layer 4 answers true and its input reads as before: answered lists are new memory, and an iterator gives what there was when it was asked for, each time. No conditions.
-/
import Derived.Test.YtgcnodbinmgobaaMemV
import Derived.Test.YtgcnodbinmgobaaMemI
import Derived.Test.YtgcnodbinmgobaaLibE
import Derived.Test.YtgcnodbinmgobaaLibI
import Derived.Test.YtgcnodbinmgobaaLibR
import Derived.ControlIn
import Derived.LoopN
import Derived.Deep.DeepCutAuto
namespace Go.Proofs.Ytgcnodbinmgobaa
open Go.ChangeShapes Go.WideShapes Go.ChangeAt Go.RowKit Go.Shelf
attribute [local go_sem] Oper.semAt_some

theorem Reads.entAt {w : World} {B n : Nat} {ad : Addr} {l : List Ent} {e : Ent} (h : Reads w B 4 (some ad) n (ents l)) {k : Nat} (hk : k < n) (he : l[k]? = some e) :
    w.cell? (ad.add (k * 4)) = some (.string e.key) ∧ w.cell? ⟨(ad.add (k * 4)).block, (ad.add (k * 4)).off + 1, none⟩ = some (.int .i64 e.seq) ∧ w.cell? ⟨(ad.add (k * 4)).block, (ad.add (k * 4)).off + 2, none⟩ = some (.bool e.del) ∧ w.cell? ⟨(ad.add (k * 4)).block, (ad.add (k * 4)).off + 3, none⟩ = some (.string e.val) := by
  obtain ⟨ad', e', h1, _, he', hc⟩ := h.ent hk
  injection h1 with h1
  subst h1
  rw [he] at he'
  injection he' with he'
  subst he'
  exact hc
/-- Of the first j those from the key on. -/
def wantL (l : List Ent) (key : ByteArray) (j : Nat) : List Ent := (l.take j).filter fun e => !Op.bytesLess e.key.toList key.toList
theorem wantL_next {l : List Ent} {key : ByteArray} {j : Nat} {x : Ent} (h : l[j]? = some x) : wantL l key (j + 1) = wantL l key j ++ if Op.bytesLess x.key.toList key.toList = true then [] else [x] := by
  unfold wantL
  rw [List.take_add_one, h, List.filter_append]
  cases hx : Op.bytesLess x.key.toList key.toList <;> simp [hx]
theorem filter_sorted {α : Type} {p : α → Bool} : ∀ {l : List α}, (∀ (i j : Nat) (a b : α), i < j → l[i]? = some a → l[j]? = some b → p b = true → p a = true) → (l.filter fun a => !p a) = l.drop (l.takeWhile p).length
  | [], _ => rfl
  | x :: l, h => by
    rw [List.takeWhile_cons]
    have ih := filter_sorted (l := l) fun i j a b hij ha hb => h (i + 1) (j + 1) a b (by omega) (by simpa using ha) (by simpa using hb)
    by_cases hx : p x = true
    · rw [if_pos hx, List.filter_cons, if_neg (by simp [hx]), List.length_cons, List.drop_succ_cons, ih]
    · rw [if_neg hx, List.length_nil, List.drop_zero, List.filter_eq_self.2]
      intro y hy
      rcases List.mem_cons.1 hy with rfl | hy
      · simpa using hx
      · obtain ⟨j, hj⟩ := List.mem_iff_getElem?.1 hy
        cases hpy : p y with
        | false => rfl
        | true => exact absurd (h 0 (j + 1) x y (by omega) (by simp) (by simpa using hj) hpy) hx
theorem wantL_all {l : List Ent} (ho : Ordered l) (key : ByteArray) : wantL l key l.length = l.drop (fromP l key) := by
  unfold wantL fromP
  rw [List.take_of_length_le (Nat.le_refl _)]
  refine filter_sorted fun i j a b hij ha hb h => ?_
  have := ordered_at ho ha hb hij
  simp only [bfor, Bool.or_eq_true, Bool.and_eq_true, beq_iff_eq] at this
  rcases this with h1 | ⟨h1, _⟩
  · exact less_trans h1 h
  · rw [h1]; exact h
/-- Between two calls of the script. -/
structure OwSt (w0 w : World) (B gR gS T : Nat) (stop : Int) (l : List Ent) (A : Option Addr) (m c : Nat) : Prop where
  tbl : TblB w B T l
  own : Own w B 28 4 A m c (ents l)
  br : Blk w gR 4 #[.bool false]
  bs : Blk w gS 3 #[.int .i64 stop]
  bel : Below w0.heap.size w0 w
theorem OwSt.below {w0 w w' : World} {B gR gS T : Nat} {stop : Int} {l : List Ent} {A : Option Addr} {m c : Nat} (h : OwSt w0 w B gR gS T stop l A m c) (hb : Below w.heap.size w w') : OwSt w0 w' B gR gS T stop l A m c :=
  ⟨h.tbl.below hb, h.own.below hb (Nat.le_refl _), h.br.below hb h.br.lt, h.bs.below hb h.bs.lt, h.bel.trans (hb.mono h.bel.size)⟩

theorem Iter.below {w w' : World} {base g : Nat} {l : List Ent} (h : Iter w base g l) (hb : Below w.heap.size w w') : Iter w' base g l := by
  obtain ⟨A0, m, c0, l0, p, A, c, h1, h2, h3, h4, h5, h6, h7⟩ := h
  exact ⟨A0, m, c0, l0, p, A, c, h1.below hb (Nat.le_refl _), h2, h3, h4, h5, h6.below hb h6.lt, h7⟩
theorem Iter.past {w w' : World} {base g : Nat} {l : List Ent} (h : Iter w base g l) (hp : Past w w') (hpb : PastB w w') : Iter w' base g l := by
  obtain ⟨A0, m, c0, l0, p, A, c, h1, h2, h3, h4, h5, h6, h7⟩ := h
  exact ⟨A0, m, c0, l0, p, A, c, hp _ _ _ _ _ _ h1, h2, h3, h4, h5, hpb _ _ _ (by decide) (by decide) (by decide) h6, h7⟩
/-- All that stays behind the answers. -/
structure OwAll (w0 w : World) (B gR gS gW gI bI T : Nat) (stop : Int) (l : List Ent) (A : Option Addr) (m c : Nat) (Aw : Option Addr) (mw cw : Nat) (want : List Ent) : Prop where
  st : OwSt w0 w B gR gS T stop l A m c
  kw : Blk w gW 26 #[.slice Aw mw cw]
  ow : Own w gW 28 4 Aw mw cw (ents want)
  it : Iter w bI gI want
theorem OwAll.below {w0 w w' : World} {B gR gS gW gI bI T : Nat} {stop : Int} {l : List Ent} {A : Option Addr} {m c : Nat} {Aw : Option Addr} {mw cw : Nat} {want : List Ent} (h : OwAll w0 w B gR gS gW gI bI T stop l A m c Aw mw cw want) (hb : Below w.heap.size w w') : OwAll w0 w' B gR gS gW gI bI T stop l A m c Aw mw cw want :=
  ⟨h.st.below hb, h.kw.below hb h.kw.lt, h.ow.below hb (Nat.le_refl _), h.it.below hb⟩
theorem OwAll.keeps {w0 w : World} {B gR gS gW gI bI T : Nat} {stop : Int} {l : List Ent} {A : Option Addr} {m c : Nat} {Aw : Option Addr} {mw cw : Nat} {want : List Ent} (h : OwAll w0 w B gR gS gW gI bI T stop l A m c Aw mw cw want) : Keeps w (fun w' => OwAll w0 w' B gR gS gW gI bI T stop l A m c Aw mw cw want) := fun _ hb => h.below hb
/-- Behind the last Put. -/
structure OwEnd (w0 w : World) (B gR gS gW gI bI T : Nat) (stop : Int) (tl : List Ent) (Aw : Option Addr) (mw cw : Nat) (want : List Ent) : Prop where
  tbl : TblB w B T tl
  br : Blk w gR 4 #[.bool false]
  bs : Blk w gS 3 #[.int .i64 stop]
  bel : Below w0.heap.size w0 w
  kw : Blk w gW 26 #[.slice Aw mw cw]
  ow : Own w gW 28 4 Aw mw cw (ents want)
  it : Iter w bI gI want
theorem OwEnd.below {w0 w w' : World} {B gR gS gW gI bI T : Nat} {stop : Int} {tl : List Ent} {Aw : Option Addr} {mw cw : Nat} {want : List Ent} (h : OwEnd w0 w B gR gS gW gI bI T stop tl Aw mw cw want) (hb : Below w.heap.size w w') : OwEnd w0 w' B gR gS gW gI bI T stop tl Aw mw cw want :=
  ⟨h.tbl.below hb, h.br.below hb h.br.lt, h.bs.below hb h.bs.lt, h.bel.trans (hb.mono h.bel.size), h.kw.below hb h.kw.lt, h.ow.below hb (Nat.le_refl _), h.it.below hb⟩
theorem KeepsOthers.drewN (W : World) (n : Nat) : KeepsOthers W (W.drewN n) := ⟨Nat.le_refl _, fun _ _ h _ => h⟩
theorem prefix_snoc {α : Type} {pre l : List α} {x : α} (h : pre <+: l) (hx : l[pre.length]? = some x) : pre ++ [x] <+: l := by
  have e := List.prefix_iff_eq_take.1 h
  have h2 : l.take (pre.length + 1) = pre ++ [x] := by
    rw [List.take_add_one, hx, ← e]
    rfl
  rw [← h2]
  exact List.take_prefix _ _
theorem prefix_at {α : Type} {pre l : List α} {x : α} (h : pre ++ [x] <+: l) : l[pre.length]? = some x := by
  obtain ⟨t, rfl⟩ := h
  simp
theorem Blk.one_ {w : World} {g t : Nat} {u : Value} (h : Blk w g t #[u]) (v : Value) : Blk (w.setCell ⟨g, 0, none⟩ v) g t #[v] := by
  have := h.set_ 0 v
  simpa using this
/-- What an iterator's turn may change: the count's box. -/
theorem OwEnd.upd {w0 w w' : World} {B gR gS gW gI bI T g : Nat} {v : Value} {stop : Int} {tl : List Ent} {Aw : Option Addr} {mw cw : Nat} {want : List Ent} (h : OwEnd w0 w B gR gS gW gI bI T stop tl Aw mw cw want) (hg : Blk w g 3 #[v]) (h1 : gR ≠ g) (h2 : gS ≠ g) (h3 : w0.heap.size ≤ g) (hu : Upd (fun k => k = g) w w') : OwEnd w0 w' B gR gS gW gI bI T stop tl Aw mw cw want := by
  refine ⟨?_, h.br.upd hu h1, h.bs.upd hu h2, h.bel.trans (hu.to_below h.bel.size (fun k hk e => by omega)), h.kw.upd hu (h.kw.ne_ hg (by decide)), h.ow.upd hu (fun k hk e => h.ow.apartBlk hg (by decide) (by rw [hk, e])), ?_⟩
  · obtain ⟨F, hT, hF⟩ := h.tbl
    refine ⟨F, hT.upd hu fun k hk e => ?_, hF⟩
    obtain ⟨hb, ns, hM, rfl, rfl⟩ := hT
    subst e
    exact hM.tab.notFoot hg (by decide) (by decide) (by decide) hk
  · obtain ⟨A0, m, c0, l0, p, A, c, k1, k2, k3, k4, k5, k6, k7⟩ := h.it
    exact ⟨A0, m, c0, l0, p, A, c, k1.upd hu (fun k hk e => k1.apartBlk hg (by decide) (by rw [hk, e])), k2, k3, k4, k5, k6.upd hu (k6.ne_ hg (by decide)), k7⟩
theorem mark_after {W : World} {D g : Nat} (h : W.heap[D]? = some (.deferred (some []))) (hlt : D < W.heap.size) (hne : D ≠ g) (v : Value) (o : Obj) : D < ((W.setCell ⟨g, 0, none⟩ v).alloc o).heap.size ∧ ((W.setCell ⟨g, 0, none⟩ v).alloc o).heap[D]? = some (.deferred (some [])) :=
  ⟨by simp [World.setCell]; omega, (Below.heap_alloc _ o D (by simpa [World.setCell] using hlt)).trans ((Below.heap_setCell W ⟨g, 0, none⟩ v D hne).trans h)⟩
theorem marked_two {W : World} {B D2 D : Nat} (hne : D2 ≠ D) (h2 : D2 < W.heap.size ∧ W.heap[D2]? = some (.deferred (some []))) (h1 : D < W.heap.size ∧ W.heap[D]? = some (.deferred (some []))) (hb2 : B ≤ D2) (hb1 : B ≤ D) : Marked B [D2, D] W := by
  refine ⟨by simpa using hne, fun E hE => ?_⟩
  rcases List.mem_cons.1 hE with rfl | hE
  · exact ⟨hb2, h2.1, h2.2⟩
  · rw [List.mem_singleton.1 hE]
    exact ⟨hb1, h1.1, h1.2⟩
set_option maxRecDepth 100000 in
set_option maxHeartbeats 16000000 in
theorem own_walk (A : Option Addr) (n c : Nat) (ops : List Ope) (A2 : Option Addr) (n2 c2 : Nat) (ops2 : List Ope) (key : ByteArray) (stop : Int) (w : World) (hr : Reads w w.heap.size 6 A n (flat Ope.cells ops)) (hn : n ≤ 140737488355328) (hr2 : Reads w w.heap.size 6 A2 n2 (flat Ope.cells ops2)) (hn2 : n2 ≤ 140737488355328) :
    Calls Try.prog 6 #[.slice A n c, .slice A2 n2 c2, .agg #[.string key, .int .i64 stop]] w fun e w' => e = .returned (.bool true) ∧ Below w.heap.size w w' := by
  have HX := Lib.hid (hr.keeps (Nat.le_refl _))
  have HX2 := Lib.hid (hr2.keeps (Nat.le_refl _))
  have hn' := hn
  have hn2' := hn2
  clear hr hn hr2 hn2
  refine (callsIn_wide (n := 6)).1 ?_
  refine callsIn_of_wp_marks Try.func6 rfl trivial ?_ rfl
  simp only [Try.ntmps6, List.size_toArray, List.length_cons, List.length_nil, Nat.reduceAdd, Nat.reduceSub, Array.replicate_succ, Array.replicate_zero, List.push_toArray, List.append_toArray, List.nil_append, List.cons_append]
  refine wpIn_wide.2 ?_
  go_wp2_with fail
  go_region
  go_wp2_with fail
  obtain ⟨w1, hw1⟩ : ∃ v, v = (((w.alloc (.cells #[.string key, .int .i64 stop] 47)).alloc (.cells #[.bool false] 4)).alloc (.cells #[.int .i64 stop] 3)).drew := ⟨_, rfl⟩
  rw [← hw1]
  have hb1 : Below w.heap.size w w1 := by rw [hw1]; exact ((((Below.refl _ w).alloc (Nat.le_refl _) _).alloc (by simp) _).alloc (by simp; omega) _).drew
  have hkR : Blk w1 (w.heap.size + 1) 4 #[.bool false] := by rw [hw1]; exact ((Blk.new_ (by simp) _ _).alloc _).drew
  have hkS : Blk w1 (w.heap.size + 1 + 1) 3 #[.int .i64 stop] := by rw [hw1]; exact (Blk.new_ (by simp) _ _).drew
  obtain ⟨gR, hgR⟩ : ∃ g, g = w.heap.size + 1 := ⟨_, rfl⟩
  obtain ⟨gS, hgS⟩ : ∃ g, g = w.heap.size + 1 + 1 := ⟨_, rfl⟩
  rw [← hgS] at hkS ⊢
  rw [← hgR] at hkR ⊢
  obtain ⟨B, hB⟩ : ∃ B, B = w1.heap.size := ⟨_, rfl⟩
  have hRB : gR < B := by rw [hB]; exact hkR.lt
  have hSB : gS < B := by rw [hB]; exact hkS.lt
  have hwR : w.heap.size ≤ gR := by omega
  have hwB : w.heap.size ≤ B := by omega
  have hne : gR ≠ gS := by omega
  have HK := Lib.hid ((hkR.keeps.and hkS.keeps).and (below_keeps hb1 hb1.size))
  clear hw1 hb1 hkR hkS hgR hgS
  refine (new_b w1).mono ?_
  rintro e w2 ⟨T, rfl, ht, hb⟩
  rw [← hB] at ht
  have hB2 : B ≤ w2.heap.size := by rw [hB]; exact hb.size
  have HK2 := Lib.hid ((HK.out.on hb).and (fun w' hb => ht.below hb : Keeps w2 (fun w => TblB w B T [])))
  clear ht hb HK hB
  go_wp2_with fail
  refine (awake_any w2).mono ?_
  rintro e w3 ⟨rfl, hb⟩
  have HK3 := Lib.hid (HK2.out.on hb)
  have hB3 : B ≤ w3.heap.size := Nat.le_trans hB2 hb.size
  have HST := Lib.hid (⟨HK3.out.now.2, Own.nil_ _ _ _ _, HK3.out.now.1.1.1, HK3.out.now.1.1.2, HK3.out.now.1.2⟩ : OwSt w w3 B gR gS T stop [] none 0 0)
  clear hb HK2 hB2 HK3
  go_wp2_with fail
  go_loopw [10, 11] (fun lv iv wr => ∃ (k : Nat) (l : List Ent) (A' : Option Addr) (m c' : Nat), lv = .slice A' m c' ∧ iv = .int .i64 k ∧ k ≤ 100 ∧ m ≤ k ∧ B ≤ wr.heap.size ∧ OwSt w wr B gR gS T stop l A' m c') (fun _ iv _ => 100 - (intOf iv).toNat)
  case atStart => exact ⟨0, [], none, 0, 0, rfl, rfl, by omega, by omega, hB3, HST.out⟩
  case round =>
    obtain ⟨k, l, A', m, c', rfl, rfl, hk, hmk, hBw, hst⟩ := hrel
    have HS := Lib.hid hst
    clear hst HST
    by_cases hin : (k : Int) < (n : Int) ∧ (k : Int) < 100
    · obtain ⟨hkn, hk100⟩ := hin
      obtain ⟨ad, o, rfl, hab, hol, hc⟩ := (HX.out.at_ HS.out.bel).ope (k := k) (by omega)
      have hk0 : (0 : Int) ≤ (k : Int) := by omega
      clear hol hab
      go_wp2_with fail
      refine (play_any B T A' m c' l o wr HS.out.tbl HS.out.own (by omega) hBw).mono ?_
      rintro e w5 ⟨A5, m5, c5, rfl, ht, ho, hm, hb, hpb⟩
      have HS5 := Lib.hid (⟨ht, ho, HS.out.br.below hb hRB, HS.out.bs.below hb hSB, HS.out.bel.trans (hb.mono hwB)⟩ : OwSt w w5 B gR gS T stop (stepL l o) A5 m5 c5)
      have hB5 : B ≤ w5.heap.size := Nat.le_trans hBw hb.size
      clear ht ho hb hpb hc
      go_wp2_with fail
      go_roundw
      case rel => exact ⟨k + 1, stepL l o, A5, m5, c5, rfl, by go_num, by omega, by omega, hB5, HS5.out⟩
      case measure => simp [intOf]; omega
    · go_upto_region 7 with fail
      go_cut [40] from 33 to 40 (fun cv wx => cv = .bool false ∧ B ≤ wx.heap.size ∧ OwSt w wx B gR gS T stop l A' m c')
      case first =>
        have hor : ¬ (k : Int) < n ∨ ((k : Int) < n ∧ ¬ (k : Int) < 100) := by omega
        clear hin
        rcases hor with h1 | ⟨h1, h2⟩
        all_goals
          go_wp2_with fail
          go_meet
          exact ⟨rfl, hBw, HS.out⟩
      case rest =>
        obtain ⟨rfl, hBx, hsx⟩ := hcut
        clear hin HS hBw
        obtain ⟨w4, hw4⟩ : ∃ v, v = wc := ⟨_, rfl⟩
        rw [← hw4] at hBx hsx ⊢
        clear hw4
        have HS := Lib.hid hsx
        clear hsx
        have hml : l.length = m := HS.out.own.ents_length
        have HML := Lib.hid hml
        clear hml
        go_wp2_with fail
        obtain ⟨w5, hw5⟩ : ∃ v, v = w4.alloc (.cells #[.slice none 0 0] 26) := ⟨_, rfl⟩
        obtain ⟨gW, hgW⟩ : ∃ g, g = w4.heap.size := ⟨_, rfl⟩
        rw [← hw5, ← hgW]
        have hb5 : Below w4.heap.size w4 w5 := by rw [hw5]; exact (Below.refl _ _).alloc (Nat.le_refl _) _
        have hk5 : Blk w5 gW 26 #[.slice none 0 0] := by rw [hw5, hgW]; exact Blk.new _ _ _
        have hBW : B ≤ gW := by rw [hgW]; exact hBx
        rw [← hgW] at hb5
        have HB5 := Lib.hid hb5
        have HK5 := Lib.hid hk5
        have HGW := Lib.hid hgW
        have hgl := hk5.lt
        clear hw5 hgW hb5 hk5
        go_loopw [55] (fun jv wr => ∃ (j : Nat) (Aw : Option Addr) (mw cw : Nat), jv = .int .i64 j ∧ j ≤ m ∧ mw ≤ j ∧ Blk wr gW 26 #[.slice Aw mw cw] ∧ Own wr gW 28 4 Aw mw cw (ents (wantL l key j)) ∧ Below w4.heap.size w4 wr) (fun jv _ => m - (intOf jv).toNat)
        case atStart => exact ⟨0, none, 0, 0, rfl, by omega, by omega, HK5.out, Own.nil_ _ _ _ _, by rw [← HGW.out]; exact HB5.out⟩
        case round =>
          obtain ⟨j, Aw, mw, cw, rfl, hj, hmw, hkw, how, hb⟩ := hrel
          have HKW := Lib.hid hkw
          have HOW := Lib.hid how
          have HB := Lib.hid hb
          clear hkw how hb
          by_cases hjm : (j : Int) < (m : Int)
          · obtain ⟨ad, x, rfl, hab, hx, hc⟩ := (HS.out.below HB.out).own.reads.ent (k := j) (by omega)
            have hj0 : (0 : Int) ≤ (j : Int) := by omega
            have hnx := wantL_next (key := key) hx
            have HXX := Lib.hid hx
            clear hx hab
            cases hl : Op.bytesLess x.key.toList key.toList with
            | true =>
              rw [hl] at hnx
              have HNX := Lib.hid (hnx.trans (by simp : _ = wantL l key j))
              clear hnx
              go_wp2_with fail
              go_roundw
              case rel => exact ⟨j + 1, Aw, mw, cw, by go_num, by omega, by omega, HKW.out, by rw [HNX.out]; exact HOW.out, HB.out⟩
              case measure => simp [intOf]; omega
            | false =>
              rw [hl] at hnx
              have HNX := Lib.hid (hnx.trans (by simp : _ = wantL l key j ++ [x]))
              have hkc := HKW.out.c1
              have hgl2 := HKW.out.lt
              clear hnx
              go_wp2_with fail
              have hszW : gW ≤ wr.heap.size := Nat.le_of_lt hgl2
              have hsz4 : w4.heap.size ≤ wr.heap.size := HB.out.size
              refine wp_region_noPanic ?_
              refine wp_region_held_drew (S := fun w' => Below w4.heap.size w4 w') (by kernel_rfl) (HB.out.drew) (fun hH => ?_)
              refine wpAnyH_take (i := 1) (oi := _) (v := ?_) (by simp only [List.getElem?_toArray, List.getElem?_cons_zero, List.getElem?_cons_succ]; rfl) (by kernel_rfl) (by kernel_rfl) (by kernel_rfl) (fun _ _ _ h => h) (Or.inl ⟨by rfl, ?_⟩) (by assumption) ?_
              rotate_left
              · intro w' hSw; (try dsimp only at hSw); go_simp; try with_reducible rfl
              try simp only [Act.put, List.setIfInBounds_toArray, List.set_cons_zero, List.set_cons_succ]
              refine wpAnyH_take (i := 2) (oi := _) (v := ?_) (by simp only [List.getElem?_toArray, List.getElem?_cons_zero, List.getElem?_cons_succ]; rfl) (by kernel_rfl) (by kernel_rfl) (by kernel_rfl) (fun _ _ _ h => h) (Or.inl ⟨by rfl, ?_⟩) (by assumption) ?_
              rotate_left
              · intro w' hSw; (try dsimp only at hSw); go_simp; try with_reducible rfl
              try simp only [Act.put, List.setIfInBounds_toArray, List.set_cons_zero, List.set_cons_succ]
              refine wpAnyH_take (i := 3) (oi := _) (v := ?_) (by simp only [List.getElem?_toArray, List.getElem?_cons_zero, List.getElem?_cons_succ]; rfl) (by kernel_rfl) (by kernel_rfl) (by kernel_rfl) (fun _ _ _ h => h) (Or.inl ⟨by rfl, ?_⟩) (by assumption) ?_
              rotate_left
              · intro w' hSw; (try dsimp only at hSw); go_simp; try with_reducible rfl
              try simp only [Act.put, List.setIfInBounds_toArray, List.set_cons_zero, List.set_cons_succ]
              refine wpAnyH_take (i := 4) (oi := _) (v := ?_) (by simp only [List.getElem?_toArray, List.getElem?_cons_zero, List.getElem?_cons_succ]; rfl) (by kernel_rfl) (by kernel_rfl) (by kernel_rfl) (fun _ _ _ h => h) (Or.inl ⟨by rfl, ?_⟩) (by assumption) ?_
              rotate_left
              · intro w' hSw; (try dsimp only at hSw); have hcc := (HS.out.below hSw).own.reads.entAt (by omega) HXX.out; go_simp; try with_reducible rfl
              try simp only [Act.put, List.setIfInBounds_toArray, List.set_cons_zero, List.set_cons_succ]
              refine wpAnyH_ready (rs := [0, 5]) (by kernel_rfl) (by simp) (AllReadyH.cons (o := _) (by simp only [List.getElem?_toArray, List.getElem?_cons_zero]; rfl) (fun K hK => ?_) (AllReadyH.cons (o := _) (by simp only [List.getElem?_toArray, List.getElem?_cons_zero, List.getElem?_cons_succ]; rfl) (fun K hK => ?_) AllReadyH.nil))
              · skip
                go_simp
                skip
                try go_wp2_with fail
                refine hK.out _ _ (HB.out.drew) (fun hHeld => ?_)
                clear hK K hH
                have hH := hHeld
                clear hHeld
                try simp only [Act.put, List.setIfInBounds_toArray, List.set_cons_zero, List.set_cons_succ]
                refine wpAnyH_ready (rs := [5]) (by kernel_rfl) (by simp) (AllReadyH.cons (o := _) (by simp only [List.getElem?_toArray, List.getElem?_cons_zero, List.getElem?_cons_succ]; rfl) (fun K hK => ?_) AllReadyH.nil)
                go_simp
                skip
                try go_wp2_with fail
                refine hK.out _ _ (HB.out.drew.alloc hsz4 _) (fun hHeld => ?_)
                clear hK K hH
                have hH := hHeld
                clear hHeld
                try simp only [Act.put, List.setIfInBounds_toArray, List.set_cons_zero, List.set_cons_succ]
                refine wpAnyH_ready (rs := [6]) (by kernel_rfl) (by simp) (AllReadyH.cons (o := _) (by simp only [List.getElem?_toArray, List.getElem?_cons_zero, List.getElem?_cons_succ]; rfl) (fun K hK => ?_) AllReadyH.nil)
                refine step_app elem_ent (HOW.out.drew.alloc _) (reads_new (size := 4) (cs := #[.string x.key, .int .i64 x.seq, .bool x.del, .string x.val]) wr.drew 28 1 rfl) (by simp [Value.oneCell']) (by omega) (by simp; omega) _ _ rfl rfl rfl rfl ?_
                intro A6 c6 w6 ho6 hu6 hat6
                have hb6 := below_app (HB.out.drew.alloc hsz4 (.cells #[.string x.key, .int .i64 x.seq, .bool x.del, .string x.val] 28)) (by simp; omega) (HOW.out.drew.alloc _) (by rw [← HGW.out]; exact Nat.le_refl _) hu6
                have hk6 := (HKW.out.drew.alloc (.cells #[.string x.key, .int .i64 x.seq, .bool x.del, .string x.val] 28)).upd hu6 (HOW.out.apartBlk HKW.out (by decide))
                have HB6 := Lib.hid hb6
                have HK6 := Lib.hid hk6
                have HO6 := Lib.hid ho6
                clear hb6 hk6 ho6 hu6 hat6
                refine hK.out _ _ (HB6.out) (fun hHeld => ?_)
                clear hK K hH
                have hH := hHeld
                clear hHeld
                try simp only [Act.put, List.setIfInBounds_toArray, List.set_cons_zero, List.set_cons_succ]
                have hkc6 := HK6.out.c1
                refine wpAnyH_ready (rs := [7]) (by kernel_rfl) (by simp) (AllReadyH.cons (o := _) (by simp only [List.getElem?_toArray, List.getElem?_cons_zero, List.getElem?_cons_succ]; rfl) (fun K hK => ?_) AllReadyH.nil)
                go_simp
                skip
                try go_wp2_with fail
                refine hK.out _ _ (HB6.out.setCell (p := ⟨gW, 0, none⟩) (by show w4.heap.size ≤ gW; rw [← HGW.out]; exact Nat.le_refl _) (.slice A6 (mw + 1) c6)) (fun hHeld => ?_)
                clear hK K hH
                have hH := hHeld
                clear hHeld
                try simp only [Act.put, List.setIfInBounds_toArray, List.set_cons_zero, List.set_cons_succ]
                refine wpAnyH_done (by kernel_rfl) ?_ _
                refine NoPanic.normal ?_
                have hkn := (HK6.out.set_ 0 (.slice A6 (mw + 1) c6))
                have HKN := Lib.hid hkn
                have HON := Lib.hid (HO6.out.far (p := ⟨gW, 0, none⟩) (HO6.out.apartBlk HK6.out (by decide)) (.slice A6 (mw + 1) c6))
                have HBN := Lib.hid hH
                clear hkn hH hkc6 hkc hc
                go_wp2_with fail
                go_roundw
                case rel => exact ⟨j + 1, A6, mw + 1, c6, by go_num, by omega, by omega, by simpa using HKN.out, by rw [HNX.out, ents_append, ents_sing]; exact HON.out, HBN.out⟩
                case measure => simp [intOf]; omega
              · skip
                go_simp
                skip
                try go_wp2_with fail
                refine hK.out _ _ (HB.out.drew.alloc hsz4 _) (fun hHeld => ?_)
                clear hK K hH
                have hH := hHeld
                clear hHeld
                try simp only [Act.put, List.setIfInBounds_toArray, List.set_cons_zero, List.set_cons_succ]
                refine wpAnyH_ready (rs := [0]) (by kernel_rfl) (by simp) (AllReadyH.cons (o := _) (by simp only [List.getElem?_toArray, List.getElem?_cons_zero]; rfl) (fun K hK => ?_) AllReadyH.nil)
                go_simp
                skip
                try go_wp2_with fail
                refine hK.out _ _ (HB.out.drew.alloc hsz4 _) (fun hHeld => ?_)
                clear hK K hH
                have hH := hHeld
                clear hHeld
                try simp only [Act.put, List.setIfInBounds_toArray, List.set_cons_zero, List.set_cons_succ]
                refine wpAnyH_ready (rs := [6]) (by kernel_rfl) (by simp) (AllReadyH.cons (o := _) (by simp only [List.getElem?_toArray, List.getElem?_cons_zero, List.getElem?_cons_succ]; rfl) (fun K hK => ?_) AllReadyH.nil)
                refine step_app elem_ent (HOW.out.drew.alloc _) (reads_new (size := 4) (cs := #[.string x.key, .int .i64 x.seq, .bool x.del, .string x.val]) wr.drew 28 1 rfl) (by simp [Value.oneCell']) (by omega) (by simp; omega) _ _ rfl rfl rfl rfl ?_
                intro A6 c6 w6 ho6 hu6 hat6
                have hb6 := below_app (HB.out.drew.alloc hsz4 (.cells #[.string x.key, .int .i64 x.seq, .bool x.del, .string x.val] 28)) (by simp; omega) (HOW.out.drew.alloc _) (by rw [← HGW.out]; exact Nat.le_refl _) hu6
                have hk6 := (HKW.out.drew.alloc (.cells #[.string x.key, .int .i64 x.seq, .bool x.del, .string x.val] 28)).upd hu6 (HOW.out.apartBlk HKW.out (by decide))
                have HB6 := Lib.hid hb6
                have HK6 := Lib.hid hk6
                have HO6 := Lib.hid ho6
                clear hb6 hk6 ho6 hu6 hat6
                refine hK.out _ _ (HB6.out) (fun hHeld => ?_)
                clear hK K hH
                have hH := hHeld
                clear hHeld
                try simp only [Act.put, List.setIfInBounds_toArray, List.set_cons_zero, List.set_cons_succ]
                have hkc6 := HK6.out.c1
                refine wpAnyH_ready (rs := [7]) (by kernel_rfl) (by simp) (AllReadyH.cons (o := _) (by simp only [List.getElem?_toArray, List.getElem?_cons_zero, List.getElem?_cons_succ]; rfl) (fun K hK => ?_) AllReadyH.nil)
                go_simp
                skip
                try go_wp2_with fail
                refine hK.out _ _ (HB6.out.setCell (p := ⟨gW, 0, none⟩) (by show w4.heap.size ≤ gW; rw [← HGW.out]; exact Nat.le_refl _) (.slice A6 (mw + 1) c6)) (fun hHeld => ?_)
                clear hK K hH
                have hH := hHeld
                clear hHeld
                try simp only [Act.put, List.setIfInBounds_toArray, List.set_cons_zero, List.set_cons_succ]
                refine wpAnyH_done (by kernel_rfl) ?_ _
                refine NoPanic.normal ?_
                have hkn := (HK6.out.set_ 0 (.slice A6 (mw + 1) c6))
                have HKN := Lib.hid hkn
                have HON := Lib.hid (HO6.out.far (p := ⟨gW, 0, none⟩) (HO6.out.apartBlk HK6.out (by decide)) (.slice A6 (mw + 1) c6))
                have HBN := Lib.hid hH
                clear hkn hH hkc6 hkc hc
                go_wp2_with fail
                go_roundw
                case rel => exact ⟨j + 1, A6, mw + 1, c6, by go_num, by omega, by omega, by simpa using HKN.out, by rw [HNX.out, ents_append, ents_sing]; exact HON.out, HBN.out⟩
                case measure => simp [intOf]; omega
          · have hje : j = l.length := by have := HML.out; omega
            have hwl : wantL l key j = l.drop (fromP l key) := by rw [hje]; exact wantL_all HS.out.tbl.ord key
            rw [hwl] at HOW
            obtain ⟨w6, hw6⟩ : ∃ v, v = wr := ⟨_, rfl⟩
            rw [← hw6] at HKW HOW HB ⊢
            have HS6 := Lib.hid (HS.out.below HB.out)
            have hl100 : l.length ≤ 100 := by have := HML.out; omega
            clear hw6 hwl hje HS HB5 HK5
            go_wp2_with fail
            refine (from_any B T l key w6 HS6.out.tbl (by omega)).mono ?_
            rintro e w7 ⟨gI, rfl, hit, hb⟩
            obtain ⟨p, hp⟩ : ∃ p, p = fromP l key := ⟨_, rfl⟩
            have hpl : p ≤ l.length := by rw [hp]; exact fromP_le l key
            rw [← hp] at hit HOW
            obtain ⟨want, hwant⟩ : ∃ v, v = l.drop p := ⟨_, rfl⟩
            rw [← hwant] at hit HOW
            have HA7 := Lib.hid (⟨HS6.out.below hb, HKW.out.below hb HKW.out.lt, HOW.out.below hb (Nat.le_refl _), hit⟩ : OwAll w w7 B gR gS gW gI w6.heap.size T stop l A' m c' Aw mw cw want)
            have hmw : want.length = mw := HA7.out.ow.ents_length
            have HMW := Lib.hid hmw
            have hIB : gW < w6.heap.size := HKW.out.lt
            clear hit hb HKW HOW HB hp hwant hpl hmw HS6
            go_wp2_with fail
            refine (all_b B T l w7 HA7.out.st.tbl (by omega)).mono ?_
            rintro e w8 ⟨A1, c1, rfl, ho, hb⟩
            have HO1 := Lib.hid ho
            have HB8 := Lib.hid hb
            obtain ⟨n1, hn1⟩ : ∃ v, v = l.length := ⟨_, rfl⟩
            rw [← hn1] at HO1 ⊢
            have HN1 := Lib.hid hn1
            have hn100 : n1 ≤ 100 := by omega
            clear ho hb hn1
            have hfn := fun w => run_eql_func_nil (P := Try.prog) Try.underlying43 (.func 26) #[] #[.pointer (some ⟨gI, 0, none⟩)] w
            go_wp2_with fail
            go_loopw [82] (fun iv wr => ∃ (i : Nat) (xs : List Value), iv = .int .i64 i ∧ i ≤ n1 ∧ Own wr w7.heap.size 28 4 A1 n1 c1 xs ∧ Below w7.heap.size w7 wr) (fun iv _ => n1 - (intOf iv).toNat)
            case atStart => exact ⟨0, ents l, rfl, by omega, HO1.out, HB8.out⟩
            case round =>
              obtain ⟨i, xs, rfl, hi, ho, hb⟩ := hrel
              have HO := Lib.hid ho
              have HB := Lib.hid hb
              clear ho hb HO1 HB8
              by_cases hin : (i : Int) < (n1 : Int)
              · obtain ⟨g1, rfl, hg1, hg2, _, _⟩ := HO.out.some_ (by omega)
                have hxl := HO.out.length
                have hcell : ∀ j, j < 4 → ∃ u, wr.cell? ⟨g1, i * 4 + j, none⟩ = some u := fun j hj => ⟨_, HO.out.cell rfl (List.getElem?_eq_getElem (by omega))⟩
                obtain ⟨u0, hu0⟩ : ∃ u, wr.cell? ⟨g1, i * 4, none⟩ = some u := hcell 0 (by omega)
                obtain ⟨u1, hu1⟩ := hcell 1 (by omega)
                obtain ⟨u2, hu2⟩ := hcell 2 (by omega)
                obtain ⟨u3, hu3⟩ := hcell 3 (by omega)
                have hf0 := HO.out.frozen rfl (i * 4)
                have hf1 := HO.out.frozen rfl (i * 4 + 1)
                have hf2 := HO.out.frozen rfl (i * 4 + 2)
                have hf3 := HO.out.frozen rfl (i * 4 + 3)
                have hi0 : (0 : Int) ≤ (i : Int) := by omega
                clear hcell hxl
                go_wp2_with fail
                go_roundw
                case rel => exact ⟨i + 1, _, by go_num, by omega, (((HO.out.set_ rfl (.string ⟨#[63]⟩)).set_ rfl (.int .i64 0)).set_ rfl (.bool false)).set_ rfl (.string ⟨#[]⟩), (((HB.out.setCell (p := ⟨g1, i * 4, none⟩) hg1 _).setCell (p := ⟨g1, i * 4 + 1, none⟩) hg1 _).setCell (p := ⟨g1, i * 4 + 2, none⟩) hg1 _).setCell (p := ⟨g1, i * 4 + 3, none⟩) hg1 _⟩
                case measure => simp [intOf]; omega
              · go_wp2_with fail
                go_loopw [15, 17] (fun ov iv wr => ∃ (i : Nat) (A9 : Option Addr) (c9 : Nat) (xs : List Value), ov = .slice A9 (n1 + i) c9 ∧ iv = .int .i64 i ∧ i ≤ 20 ∧ Own wr w7.heap.size 28 4 A9 (n1 + i) c9 xs ∧ Below w7.heap.size w7 wr) (fun _ iv _ => 20 - (intOf iv).toNat)
                case atStart => exact ⟨0, A1, c1, xs, rfl, rfl, by omega, HO.out, HB.out⟩
                case round =>
                  obtain ⟨i, A9, c9, xs, rfl, rfl, hi, ho, hb⟩ := hrel
                  have HO9 := Lib.hid ho
                  have HB9 := Lib.hid hb
                  clear ho hb HO HB
                  have hsz : w7.heap.size ≤ wr.heap.size := HB9.out.size
                  by_cases hi20 : (i : Int) < 20
                  · obtain ⟨q, hq⟩ : ∃ q, q = n1 + i := ⟨_, rfl⟩
                    rw [← hq] at HO9 ⊢
                    have HQ := Lib.hid hq
                    have hq1 : q ≤ 200 := by omega
                    clear hq
                    go_wp2_with (at_builtin; refine halt_ ?_)
                    refine unhalt ?_
                    refine wpList_app elem_ent (HO9.out.alloc _) (reads_new (size := 4) (cs := #[.string ⟨#[33]⟩, .int .i64 0, .bool false, .string ⟨#[]⟩]) wr 28 1 rfl) (by simp [Value.oneCell']) (by omega) (by simp; omega) _ _ rfl rfl rfl rfl ?_
                    intro A6 c6 w6 ho6 hu6 hat6
                    have HB10 := Lib.hid (below_app (HB9.out.alloc hsz (.cells #[.string ⟨#[33]⟩, .int .i64 0, .bool false, .string ⟨#[]⟩] 28)) (by simp; omega) (HO9.out.alloc _) (Nat.le_refl _) hu6)
                    have HO10 := Lib.hid ho6
                    clear ho6 hu6 hat6
                    go_wp2_with fail
                    go_roundw
                    case rel => exact ⟨i + 1, A6, c6, _, by rw [HQ.out]; rfl, by go_num, by omega, by rw [← Nat.add_assoc, ← HQ.out]; exact HO10.out, HB10.out⟩
                    case measure => simp [intOf]; omega
                  · obtain rfl : i = 20 := by omega
                    have HA9 := Lib.hid (HA7.out.keeps.at_ HB9.out)
                    clear HA7 HO9 HB9
                    go_wp2_with fail
                    refine (all_b B T l wr HA9.out.st.tbl (by omega)).mono ?_
                    rintro e w10 ⟨A10, c10, rfl, ho, hb⟩
                    have HO10 := Lib.hid ho
                    have HA10 := Lib.hid (HA9.out.below hb)
                    clear ho hb HA9
                    go_wp2_with fail
                    refine (same_any A10 A' l.length m c10 c' l l w10 HO10.out.reads HA10.out.st.own.reads (by omega) (by omega)).mono ?_
                    rintro e w11 ⟨rfl, hb⟩
                    rw [decide_eq_true rfl]
                    have ha := HA10.out.below hb
                    have HE := Lib.hid (⟨ha.st.tbl, ha.st.br, ha.st.bs, ha.st.bel, ha.kw, ha.ow, ha.it⟩ : OwEnd w w11 B gR gS gW gI w6.heap.size T stop l Aw mw cw want)
                    have hB11 : B ≤ w11.heap.size := Nat.le_of_lt (Nat.lt_of_le_of_lt hBW ha.kw.lt)
                    clear hb ha HA10 HO10
                    go_wp2_with fail
                    go_loopw [18] (fun iv wr => ∃ (k : Nat) (tl : List Ent), iv = .int .i64 k ∧ k ≤ 100 ∧ tl.length ≤ 100 + k ∧ B ≤ wr.heap.size ∧ OwEnd w wr B gR gS gW gI w6.heap.size T stop tl Aw mw cw want) (fun iv _ => 100 - (intOf iv).toNat)
                    case atStart => exact ⟨0, l, rfl, by omega, by omega, hB11, HE.out⟩
                    case round =>
                      obtain ⟨k, tl, rfl, hk, htl, hBw, he⟩ := hrel
                      have HE := Lib.hid he
                      clear he hB11
                      by_cases hin : (k : Int) < (n2 : Int) ∧ (k : Int) < 100
                      · obtain ⟨hkn, hk100⟩ := hin
                        obtain ⟨ad, o, rfl, hab, hol, hc⟩ := (HX2.out.at_ HE.out.bel).ope (k := k) (by omega)
                        have hk0 : (0 : Int) ≤ (k : Int) := by omega
                        clear hol hab
                        go_wp2_with fail
                        go_still_tail 11, (by kernel_rfl)
                        change wpList _ _ _ _ _ wr.drew
                        go_wp2_with fail
                        have hed := HE.out.below (Below.refl _ wr).drew
                        refine (put_c B T tl o.e o.h wr.drew hed.tbl (by omega) hBw).mono ?_
                        rintro e w12 ⟨rfl, ht, hb, hp, hpb⟩
                        have hpl := put_length tl o.e
                        have HE2 := Lib.hid (⟨ht, hed.br.below hb hRB, hed.bs.below hb hSB, hed.bel.trans (hb.mono hwB), hpb _ _ _ (by decide) (by decide) (by decide) hed.kw, hp _ _ _ _ _ _ hed.ow, hed.it.past hp hpb⟩ : OwEnd w w12 B gR gS gW gI w6.heap.size T stop (putL tl o.e).1 Aw mw cw want)
                        have hB12 : B ≤ w12.heap.size := Nat.le_trans hBw hb.size
                        clear ht hb hp hpb hed hc
                        go_wp2_with fail
                        go_roundw
                        case rel => exact ⟨k + 1, (putL tl o.e).1, by go_num, by omega, by omega, hB12, HE2.out⟩
                        case measure => simp [intOf]; omega
                      · go_upto_region 32 with fail
                        go_cut [110] from 103 to 110 (fun cv wx => cv = .bool false ∧ B ≤ wx.heap.size ∧ OwEnd w wx B gR gS gW gI w6.heap.size T stop tl Aw mw cw want)
                        case first =>
                          have hor : ¬ (k : Int) < n2 ∨ ((k : Int) < n2 ∧ ¬ (k : Int) < 100) := by omega
                          clear hin
                          rcases hor with h1 | ⟨h1, h2⟩
                          all_goals
                            go_wp2_with fail
                            go_meet
                            exact ⟨rfl, hBw, HE.out⟩
                        case rest =>
                          obtain ⟨rfl, hBx, hsx⟩ := hcut
                          clear hin HE hBw
                          obtain ⟨w13, hw13⟩ : ∃ v, v = wc := ⟨_, rfl⟩
                          rw [← hw13] at hBx hsx ⊢
                          have HE := Lib.hid hsx
                          clear hsx hw13
                          go_wp2_with fail
                          refine wp_loop_rounds 3 ?_
                          rw [rounds_succ]
                          obtain ⟨w14, hw14⟩ : ∃ v, v = w13.alloc (.cells #[.int .i64 0] 3) := ⟨_, rfl⟩
                          obtain ⟨gT, hgT⟩ : ∃ g, g = w13.heap.size := ⟨_, rfl⟩
                          rw [← hw14, ← hgT]
                          have hb14 : Below w13.heap.size w13 w14 := by rw [hw14]; exact (Below.refl _ _).alloc (Nat.le_refl _) _
                          have hkT : Blk w14 gT 3 #[.int .i64 0] := by rw [hw14, hgT]; exact Blk.new _ _ _
                          have HE14 := Lib.hid (HE.out.below hb14)
                          have hBT : B ≤ gT := by rw [hgT]; exact hBx
                          have HT14 := Lib.hid hkT
                          clear hw14 hgT hb14 hkT HE
                          have htc := HT14.out.c1
                          have htl := HT14.out.lt
                          go_wp2_with fail
                          obtain ⟨w15, hw15⟩ : ∃ v, v = w14.alloc (.cells #[.int .i64 0] 3) := ⟨_, rfl⟩
                          obtain ⟨gN, hgN⟩ : ∃ g, g = w14.heap.size := ⟨_, rfl⟩
                          rw [← hw15, ← hgN]
                          have hb15 : Below w14.heap.size w14 w15 := by rw [hw15]; exact (Below.refl _ _).alloc (Nat.le_refl _) _
                          have hn15 : Blk w15 gN 3 #[.int .i64 0] := by rw [hw15, hgN]; exact Blk.new _ _ _
                          have HE15 := Lib.hid (HE14.out.below hb15)
                          have HTN := Lib.hid (HT14.out.below hb15 htl)
                          have hneT : gT ≠ gN := by omega
                          have hneR : gR ≠ gN := by omega
                          have hneS : gS ≠ gN := by omega
                          have hwN : w.heap.size ≤ gN := by omega
                          have hBN : B ≤ gN := by omega
                          have HN15 := Lib.hid hn15
                          have hnl15 : gN < w15.heap.size := hn15.lt
                          obtain ⟨S, hS, hSt, hseq⟩ := values_stops2 5 (by omega) _ gI _ w15 HE15.out.it
                          have hsg : ¬ S gN := fun h => by
                            obtain ⟨cs, h | h⟩ := hSt gN h
                            · exact HN15.out.ne_ h (by decide) rfl
                            · exact HN15.out.ne_ h (by decide) rfl
                          clear hb15 hn15 HE14 HT14 htc hw15 hgN
                          refine (wpIn_wide (n := 6)).1 ?_
                          refine wpIn_rangeFunc_box rfl (by omega) (gf := 26) (lb := #[.pointer (some ⟨gI, 0, none⟩)]) rfl trivial (enters_of Try.func26 (by kernel_rfl) rfl)
                            hseq KC.trans (KC.put (fun k hk => (hS k hk).2)) (Below.refl _ _) (fun _ => rfl)
                            (fun pre W => Upd (fun k => k = gN) w15 W ∧ Blk W gN 3 #[.int .i64 ((pre.length : Nat) : Int)] ∧ pre <+: want)
                            (fun c pre W => (c = .ret ∧ ¬ pre <+: want) ∨ (c = .exit 12 ∧ Upd (fun k => k = gN) w15 W ∧ Blk W gN 3 #[.int .i64 stop] ∧ True))
                            (fun s W W' row hs hg hr => ⟨hs.1.grown hg (fun k e hk => absurd (hr k e).1 (by omega)), blk_grown hs.2.1 hg hr, hs.2.2⟩)
                            (fun c s W W' row hs hg hr => hs.imp id fun h => ⟨h.1, h.2.1.grown hg (fun k e hk => absurd (hr k e).1 (by omega)), blk_grown h.2.2.1 hg hr, trivial⟩)
                            ⟨Upd.refl _ _, HN15.out, List.nil_prefix⟩ ?a1 28 (fun x => #[.string x.key, .int .i64 x.seq, .bool x.del, .string x.val])
                            (fun pre W h => h.1.size) (fun pre W o h => KC.alloc W o (fun k hk => Nat.lt_of_lt_of_le (hS k hk).2 h.1.size))
                            ?assign ?body ?dn ?stop
                          case assign =>
                            intro lr x W Bx K hB hK
                            have HB := Lib.hid hB
                            clear hB
                            gi_wp2
                            rw [← HB.out]
                            exact hK
                          case body =>
                            rintro lr pre x W Bx hBx hbx ⟨hu, hn, hpre⟩ hlt
                            obtain ⟨q, hq⟩ : ∃ q, q = pre.length := ⟨_, rfl⟩
                            rw [← hq] at hn hlt
                            have hew := HE15.out.upd HN15.out hneR hneS hwN hu
                            obtain ⟨ad, y, rfl, hab, hy, hc⟩ := hew.ow.reads.ent (k := q) (by have := HMW.out; omega)
                            have hkc := hew.kw.c1
                            have hrc := hew.br.c1
                            have hsc := hew.bs.c1
                            have hnc := hn.c1
                            have hxc := hbx.c4
                            have htc := (HTN.out.upd hu hneT).c1
                            have hqm : q < mw := by have := HMW.out; omega
                            have hqd : decide (mw ≤ q) = false := decide_eq_false (by omega)
                            have hq0 : (0 : Int) ≤ (q : Int) := by omega
                            have hq2 : (q : Int) ≤ 1000 := by omega
                            have heq := ent_neq y x
                            unfold Ent.agg at heq
                            have hyd : want[pre.length]? = some y := by rw [← hq]; exact hy
                            have HYD := Lib.hid hyd
                            have HN := Lib.hid hn
                            have HU := Lib.hid hu
                            have HPRE := Lib.hid hpre
                            have HQ := Lib.hid hq
                            clear hy hab hyd hn hu hpre hq hew hbx
                            cases hd : decide (y = x) with
                            | true =>
                              rw [hd] at heq
                              have HD := Lib.hid hd
                              clear hd
                              have hxy : y = x := of_decide_eq_true HD.out
                              have hpre2 := prefix_snoc (x := x) HPRE.out (by rw [← hxy]; exact HYD.out)
                              have HP2 := Lib.hid hpre2
                              have HXY := Lib.hid hxy
                              clear hxy hpre2
                              by_cases hst : (q : Int) + 1 = stop
                              · have hsb : ((q : Int) + 1 == stop) = true := by simpa using hst
                                have HSTP := Lib.hid hst
                                clear hst
                                (repeat gi_step)
                                refine wpIn_region_quiet_round (by kernel_rfl) (by kernel_rfl) (by kernel_rfl) ?_
                                repeat (go_big_quiet_step (fail))
                                refine wpQuiet_nil ?_
                                rintro _ ⟨nq, rfl⟩
                                (repeat gi_step)
                                have hk9 := (HN.out.drewN nq).one_ (.int .i64 ((q : Int) + 1))
                                have e9 : (((pre ++ [x]).length : Nat) : Int) = (q : Int) + 1 := by rw [List.length_append, List.length_singleton, HQ.out]; omega
                                exact ⟨((KeepsOthers.drewN W nq).trans (KeepsOthers.setCell _ _ _)).from _, .inr ⟨rfl, (HU.out.drewN nq).setCell (p := ⟨gN, 0, none⟩) (fun _ => rfl) _, by rw [show Value.int .i64 stop = Value.int .i64 ((q : Int) + 1) from by rw [HSTP.out]]; exact hk9, trivial⟩⟩
                              · have hsb : ((q : Int) + 1 == stop) = false := by simpa using hst
                                (repeat gi_step)
                                refine wpIn_region_quiet_round (by kernel_rfl) (by kernel_rfl) (by kernel_rfl) ?_
                                repeat (go_big_quiet_step (fail))
                                refine wpQuiet_nil ?_
                                rintro _ ⟨nq, rfl⟩
                                (repeat gi_step)
                                have hk9 := (HN.out.drewN nq).one_ (.int .i64 ((q : Int) + 1))
                                have e9 : (((pre ++ [x]).length : Nat) : Int) = (q : Int) + 1 := by rw [List.length_append, List.length_singleton, HQ.out]; omega
                                refine ⟨((KeepsOthers.drewN W nq).trans (KeepsOthers.setCell _ _ _)).from _, KC.trans (KC.drewN W nq) (KC.set_ _ _ _ hsg), (HU.out.drewN nq).setCell (p := ⟨gN, 0, none⟩) (fun _ => rfl) _, by rw [e9]; exact hk9, HP2.out⟩
                            | false =>
                              rw [hd] at heq
                              have HD := Lib.hid hd
                              clear hd
                              (repeat gi_step)
                              refine wpIn_region_quiet_round (by kernel_rfl) (by kernel_rfl) (by kernel_rfl) ?_
                              repeat (go_big_quiet_step (fail))
                              refine wpQuiet_nil ?_
                              rintro _ ⟨nq, rfl⟩
                              (repeat gi_step)
                              refine ⟨((KeepsOthers.drewN W nq).trans (KeepsOthers.setCell _ _ _)).from _, .inl ⟨rfl, fun h => ?_⟩⟩
                              have h2 := prefix_at h
                              rw [HYD.out] at h2
                              injection h2 with h2
                              exact of_decide_eq_false HD.out h2
                          case dn =>
                            rintro D ys W hD hys ⟨hu, hn, hpre⟩ hK
                            rw [hys, HMW.out] at hn
                            clear hys hpre
                            have hew := HE15.out.upd HN15.out hneR hneS hwN hu
                            have hkc := hew.kw.c1
                            have hsc := hew.bs.c1
                            have hnc := hn.c1
                            have htn := HTN.out.upd hu hneT
                            have htc := htn.c1
                            have htl := htn.lt
                            have HEW := Lib.hid hew
                            have HMK := Lib.hid hK
                            clear hew htn hu hn hK
                            have hnn : ((mw : Int) != (mw : Int)) = false := by simp
                            go_wp2_with fail
                            rw [rounds_succ]
                            have hDl : D < W.heap.size := by
                              have h := HMK.out
                              rcases Nat.lt_or_ge D W.heap.size with h2 | h2
                              · exact h2
                              · rw [Array.getElem?_eq_none h2] at h; cases h
                            have hwD : w.heap.size ≤ D := by omega
                            have hRD : gR < D := by omega
                            obtain ⟨w24, hw24⟩ : ∃ v, v = W.alloc (.cells #[.int .i64 1] 3) := ⟨_, rfl⟩
                            obtain ⟨gT2, hgT2⟩ : ∃ g, g = W.heap.size := ⟨_, rfl⟩
                            rw [← hw24, ← hgT2]
                            have hb24 : Below W.heap.size W w24 := by rw [hw24]; exact (Below.refl _ _).alloc (Nat.le_refl _) _
                            have hkT2 : Blk w24 gT2 3 #[.int .i64 1] := by rw [hw24, hgT2]; exact Blk.new _ _ _
                            have HE24 := Lib.hid (HEW.out.below hb24)
                            have HT24 := Lib.hid hkT2
                            have HM24 := Lib.hid ((hb24.block D hDl).trans HMK.out)
                            have hDl2 : D < gT2 := by omega
                            have hBT2 : B ≤ gT2 := by omega
                            clear hw24 hgT2 hb24 hkT2 hkc hsc hnc htc HEW HMK HE15 HN15 HTN hseq hS hSt hsg hneT hneR hneS hwN
                            have htc := HT24.out.c1
                            have htl2 := HT24.out.lt
                            go_wp2_with fail
                            obtain ⟨w15, hw15⟩ : ∃ v, v = w24.alloc (.cells #[.int .i64 0] 3) := ⟨_, rfl⟩
                            obtain ⟨gN, hgN⟩ : ∃ g, g = w24.heap.size := ⟨_, rfl⟩
                            rw [← hw15, ← hgN]
                            have hb15 : Below w24.heap.size w24 w15 := by rw [hw15]; exact (Below.refl _ _).alloc (Nat.le_refl _) _
                            have hn15 : Blk w15 gN 3 #[.int .i64 0] := by rw [hw15, hgN]; exact Blk.new _ _ _
                            have HE15 := Lib.hid (HE24.out.below hb15)
                            obtain ⟨gT, hgT⟩ : ∃ g, g = gT2 := ⟨_, rfl⟩
                            rw [← hgT] at HT24 htl2 hDl2 hBT2 ⊢
                            have HTN := Lib.hid (HT24.out.below hb15 htl2)
                            have hneT : gT ≠ gN := by omega
                            have hneR : gR ≠ gN := by omega
                            have hneS : gS ≠ gN := by omega
                            have hwN : w.heap.size ≤ gN := by omega
                            have hBN : B ≤ gN := by omega
                            have HN15 := Lib.hid hn15
                            have hnl15 : gN < w15.heap.size := hn15.lt
                            have hDN : D < gN := by omega
                            have HM15 := Lib.hid ((hb15.block D (by omega)).trans HM24.out)
                            obtain ⟨S, hS, hSt, hseq⟩ := values_stops2 5 (by omega) _ gI _ w15 HE15.out.it
                            have hsg : ¬ S gN := fun h => by
                              obtain ⟨cs, h | h⟩ := hSt gN h
                              · exact HN15.out.ne_ h (by decide) rfl
                              · exact HN15.out.ne_ h (by decide) rfl
                            clear hb15 hn15 HE24 HT24 HM24 htc hw15 hgN hgT
                            refine (wpIn_wide (n := 6)).1 ?_
                            refine wpIn_rangeFunc_box rfl (by omega) (gf := 26) (lb := #[.pointer (some ⟨gI, 0, none⟩)]) rfl trivial (enters_of Try.func26 (by kernel_rfl) rfl)
                              hseq KC.trans (KC.put (fun k hk => (hS k hk).2)) (Below.refl _ _) (fun _ => rfl)
                              (fun pre W => Upd (fun k => k = gN) w15 W ∧ Blk W gN 3 #[.int .i64 ((pre.length : Nat) : Int)] ∧ pre <+: want)
                              (fun c pre W => (c = .ret ∧ ¬ pre <+: want) ∨ False)
                              (fun s W W' row hs hg hr => ⟨hs.1.grown hg (fun k e hk => absurd (hr k e).1 (by omega)), blk_grown hs.2.1 hg hr, hs.2.2⟩)
                              (fun c s W W' row hs hg hr => hs)
                              ⟨Upd.refl _ _, HN15.out, List.nil_prefix⟩ ?a2 28 (fun x => #[.string x.key, .int .i64 x.seq, .bool x.del, .string x.val])
                              (fun pre W h => h.1.size) (fun pre W o h => KC.alloc W o (fun k hk => Nat.lt_of_lt_of_le (hS k hk).2 h.1.size))
                              ?assign2 ?body2 ?dn2 ?stop2
                            case assign2 =>
                              intro lr x W Bx K hB hK
                              have HB := Lib.hid hB
                              clear hB
                              gi_wp2
                              rw [← HB.out]
                              exact hK
                            case body2 =>
                              rintro lr pre x W Bx hBx hbx ⟨hu, hn, hpre⟩ hlt
                              obtain ⟨q, hq⟩ : ∃ q, q = pre.length := ⟨_, rfl⟩
                              rw [← hq] at hn hlt
                              have hew := HE15.out.upd HN15.out hneR hneS hwN hu
                              obtain ⟨ad, y, rfl, hab, hy, hc⟩ := hew.ow.reads.ent (k := q) (by have := HMW.out; omega)
                              have hkc := hew.kw.c1
                              have hrc := hew.br.c1
                              have hsc := hew.bs.c1
                              have hnc := hn.c1
                              have hxc := hbx.c4
                              have htc := (HTN.out.upd hu hneT).c1
                              have hqm : q < mw := by have := HMW.out; omega
                              have hqd : decide (mw ≤ q) = false := decide_eq_false (by omega)
                              have hq0 : (0 : Int) ≤ (q : Int) := by omega
                              have hq2 : (q : Int) ≤ 1000 := by omega
                              have heq := ent_neq y x
                              unfold Ent.agg at heq
                              have hyd : want[pre.length]? = some y := by rw [← hq]; exact hy
                              have HYD := Lib.hid hyd
                              have HN := Lib.hid hn
                              have HU := Lib.hid hu
                              have HPRE := Lib.hid hpre
                              have HQ := Lib.hid hq
                              clear hy hab hyd hn hu hpre hq hew hbx
                              cases hd : decide (y = x) with
                              | true =>
                                rw [hd] at heq
                                have HD := Lib.hid hd
                                clear hd
                                have hxy : y = x := of_decide_eq_true HD.out
                                have hpre2 := prefix_snoc (x := x) HPRE.out (by rw [← hxy]; exact HYD.out)
                                have HP2 := Lib.hid hpre2
                                have HXY := Lib.hid hxy
                                clear hxy hpre2
                                (repeat gi_step)
                                refine wpIn_region_quiet_round (by kernel_rfl) (by kernel_rfl) (by kernel_rfl) ?_
                                repeat (go_big_quiet_step (fail))
                                refine wpQuiet_nil ?_
                                rintro _ ⟨nq, rfl⟩
                                (repeat gi_step)
                                have hk9 := (HN.out.drewN nq).one_ (.int .i64 ((q : Int) + 1))
                                have e9 : (((pre ++ [x]).length : Nat) : Int) = (q : Int) + 1 := by rw [List.length_append, List.length_singleton, HQ.out]; omega
                                refine ⟨((KeepsOthers.drewN W nq).trans (KeepsOthers.setCell _ _ _)).from _, KC.trans (KC.drewN W nq) (KC.set_ _ _ _ hsg), (HU.out.drewN nq).setCell (p := ⟨gN, 0, none⟩) (fun _ => rfl) _, by rw [e9]; exact hk9, HP2.out⟩
                              | false =>
                                rw [hd] at heq
                                have HD := Lib.hid hd
                                clear hd
                                (repeat gi_step)
                                refine wpIn_region_quiet_round (by kernel_rfl) (by kernel_rfl) (by kernel_rfl) ?_
                                repeat (go_big_quiet_step (fail))
                                refine wpQuiet_nil ?_
                                rintro _ ⟨nq, rfl⟩
                                (repeat gi_step)
                                refine ⟨((KeepsOthers.drewN W nq).trans (KeepsOthers.setCell _ _ _)).from _, .inl ⟨rfl, fun h => ?_⟩⟩
                                have h2 := prefix_at h
                                rw [HYD.out] at h2
                                injection h2 with h2
                                exact of_decide_eq_false HD.out h2
                            case stop2 =>
                              rintro D2 c pre W2 hD2 hpre (⟨_, hno⟩ | hF) hK
                              · exact absurd hpre hno
                              · exact hF.elim
                            case dn2 =>
                              rintro D2 ys W2 hD2 hys ⟨hu, hn, hpre⟩ hK
                              rw [hys, HMW.out] at hn
                              have HMD := Lib.hid ((hu.block D (by omega) (by omega)).trans HM15.out)
                              clear hys hpre
                              have hew := HE15.out.upd HN15.out hneR hneS hwN hu
                              have hkc := hew.kw.c1
                              have hsc := hew.bs.c1
                              have hnc := hn.c1
                              have htn := HTN.out.upd hu hneT
                              have htc := htn.c1
                              have htl := htn.lt
                              have HEW := Lib.hid hew
                              have HMK := Lib.hid hK
                              clear hew htn hu hn hK
                              have hnn : ((mw : Int) != (mw : Int)) = false := by simp
                              go_wp2_with fail
                              rw [rounds_succ]
                              have hDl3 : D2 < W2.heap.size := by
                                have h := HMK.out
                                rcases Nat.lt_or_ge D2 W2.heap.size with h2 | h2
                                · exact h2
                                · rw [Array.getElem?_eq_none h2] at h; cases h
                              have hDl4 : D < W2.heap.size := by omega
                              have hrc := HEW.out.br.c1
                              have hrl := HEW.out.br.lt
                              have hnm : n1 = m := HN1.out.trans HML.out
                              have heq49 : (((n1 : Int) + 20) == ((m : Int) + 20)) = true := by rw [hnm]; simp
                              clear hnm
                              go_wp2_with fail
                              have hDR : D ≠ gR := by omega
                              have hDR2 : D2 ≠ gR := by omega
                              have hDD : D2 ≠ D := by omega
                              have hwD2 : w.heap.size ≤ D2 := by omega
                              have hblk := (HEW.out.br.one_ (.bool true)).alloc (.cells #[.int .i64 2] 3)
                              refine leaves_marks w.heap.size [D2, D] _ (marked_two hDD (mark_after HMK.out hDl3 hDR2 _ _) (mark_after HMD.out hDl4 hDR _ _) hwD2 hwD) (fun w2' hb2 hc2 => ?_)
                              have hc5 := (show Blk w2' gR 4 #[.bool true] from hc2 _ _ _ _ hblk).c1.1
                              refine ⟨.bool true, by simp [results, Try.results6, go_sem, hc5], rfl, ?_⟩
                              exact ((HEW.out.bel.setCell (p := ⟨gR, 0, none⟩) hwR (.bool true)).alloc (by show w.heap.size ≤ _; have := HEW.out.bel.size; simpa [World.setCell] using this) _).trans hb2
                          case stop =>
                            rintro D c pre W hD hpre (⟨_, hno⟩ | ⟨rfl, hu, hn, -⟩) hK
                            · exact absurd hpre hno
                            · clear hpre
                              have hew := HE15.out.upd HN15.out hneR hneS hwN hu
                              have hkc := hew.kw.c1
                              have hsc := hew.bs.c1
                              have hnc := hn.c1
                              have htn := HTN.out.upd hu hneT
                              have htc := htn.c1
                              have htl := htn.lt
                              have HEW := Lib.hid hew
                              have HMK := Lib.hid hK
                              clear hew htn hu hn hK
                              refine wpIn_wide.2 ?_
                              have hss : (stop != stop) = false := by simp
                              go_upto_region 45 with fail
                              go_cut [164] from 152 to 164 (fun cv wx => cv = .bool false ∧ wx = W)
                              case first =>
                                cases hsm : (stop != (mw : Int))
                                all_goals
                                  go_wp2_with fail
                                  go_meet
                                  exact ⟨rfl, rfl⟩
                              case rest =>
                                obtain ⟨rfl, hwc⟩ := hcut
                                rw [hwc]
                                clear hwc
                                go_wp2_with fail
                                rw [rounds_succ]
                                have hDl : D < W.heap.size := by
                                  have h := HMK.out
                                  rcases Nat.lt_or_ge D W.heap.size with h2 | h2
                                  · exact h2
                                  · rw [Array.getElem?_eq_none h2] at h; cases h
                                have hwD : w.heap.size ≤ D := by omega
                                have hRD : gR < D := by omega
                                obtain ⟨w24, hw24⟩ : ∃ v, v = W.alloc (.cells #[.int .i64 1] 3) := ⟨_, rfl⟩
                                obtain ⟨gT2, hgT2⟩ : ∃ g, g = W.heap.size := ⟨_, rfl⟩
                                rw [← hw24, ← hgT2]
                                have hb24 : Below W.heap.size W w24 := by rw [hw24]; exact (Below.refl _ _).alloc (Nat.le_refl _) _
                                have hkT2 : Blk w24 gT2 3 #[.int .i64 1] := by rw [hw24, hgT2]; exact Blk.new _ _ _
                                have HE24 := Lib.hid (HEW.out.below hb24)
                                have HT24 := Lib.hid hkT2
                                have HM24 := Lib.hid ((hb24.block D hDl).trans HMK.out)
                                have hDl2 : D < gT2 := by omega
                                have hBT2 : B ≤ gT2 := by omega
                                clear hw24 hgT2 hb24 hkT2 hkc hsc hnc htc HEW HMK HE15 HN15 HTN hseq hS hSt hsg hneT hneR hneS hwN
                                have htc := HT24.out.c1
                                have htl2 := HT24.out.lt
                                go_wp2_with fail
                                obtain ⟨w15, hw15⟩ : ∃ v, v = w24.alloc (.cells #[.int .i64 0] 3) := ⟨_, rfl⟩
                                obtain ⟨gN, hgN⟩ : ∃ g, g = w24.heap.size := ⟨_, rfl⟩
                                rw [← hw15, ← hgN]
                                have hb15 : Below w24.heap.size w24 w15 := by rw [hw15]; exact (Below.refl _ _).alloc (Nat.le_refl _) _
                                have hn15 : Blk w15 gN 3 #[.int .i64 0] := by rw [hw15, hgN]; exact Blk.new _ _ _
                                have HE15 := Lib.hid (HE24.out.below hb15)
                                obtain ⟨gT, hgT⟩ : ∃ g, g = gT2 := ⟨_, rfl⟩
                                rw [← hgT] at HT24 htl2 hDl2 hBT2 ⊢
                                have HTN := Lib.hid (HT24.out.below hb15 htl2)
                                have hneT : gT ≠ gN := by omega
                                have hneR : gR ≠ gN := by omega
                                have hneS : gS ≠ gN := by omega
                                have hwN : w.heap.size ≤ gN := by omega
                                have hBN : B ≤ gN := by omega
                                have HN15 := Lib.hid hn15
                                have hnl15 : gN < w15.heap.size := hn15.lt
                                have hDN : D < gN := by omega
                                have HM15 := Lib.hid ((hb15.block D (by omega)).trans HM24.out)
                                obtain ⟨S, hS, hSt, hseq⟩ := values_stops2 5 (by omega) _ gI _ w15 HE15.out.it
                                have hsg : ¬ S gN := fun h => by
                                  obtain ⟨cs, h | h⟩ := hSt gN h
                                  · exact HN15.out.ne_ h (by decide) rfl
                                  · exact HN15.out.ne_ h (by decide) rfl
                                clear hb15 hn15 HE24 HT24 HM24 htc hw15 hgN hgT
                                refine (wpIn_wide (n := 6)).1 ?_
                                refine wpIn_rangeFunc_box rfl (by omega) (gf := 26) (lb := #[.pointer (some ⟨gI, 0, none⟩)]) rfl trivial (enters_of Try.func26 (by kernel_rfl) rfl)
                                  hseq KC.trans (KC.put (fun k hk => (hS k hk).2)) (Below.refl _ _) (fun _ => rfl)
                                  (fun pre W => Upd (fun k => k = gN) w15 W ∧ Blk W gN 3 #[.int .i64 ((pre.length : Nat) : Int)] ∧ pre <+: want)
                                  (fun c pre W => (c = .ret ∧ ¬ pre <+: want) ∨ False)
                                  (fun s W W' row hs hg hr => ⟨hs.1.grown hg (fun k e hk => absurd (hr k e).1 (by omega)), blk_grown hs.2.1 hg hr, hs.2.2⟩)
                                  (fun c s W W' row hs hg hr => hs)
                                  ⟨Upd.refl _ _, HN15.out, List.nil_prefix⟩ ?a3 28 (fun x => #[.string x.key, .int .i64 x.seq, .bool x.del, .string x.val])
                                  (fun pre W h => h.1.size) (fun pre W o h => KC.alloc W o (fun k hk => Nat.lt_of_lt_of_le (hS k hk).2 h.1.size))
                                  ?assign3 ?body3 ?dn3 ?stop3
                                case assign3 =>
                                  intro lr x W Bx K hB hK
                                  have HB := Lib.hid hB
                                  clear hB
                                  gi_wp2
                                  rw [← HB.out]
                                  exact hK
                                case body3 =>
                                  rintro lr pre x W Bx hBx hbx ⟨hu, hn, hpre⟩ hlt
                                  obtain ⟨q, hq⟩ : ∃ q, q = pre.length := ⟨_, rfl⟩
                                  rw [← hq] at hn hlt
                                  have hew := HE15.out.upd HN15.out hneR hneS hwN hu
                                  obtain ⟨ad, y, rfl, hab, hy, hc⟩ := hew.ow.reads.ent (k := q) (by have := HMW.out; omega)
                                  have hkc := hew.kw.c1
                                  have hrc := hew.br.c1
                                  have hsc := hew.bs.c1
                                  have hnc := hn.c1
                                  have hxc := hbx.c4
                                  have htc := (HTN.out.upd hu hneT).c1
                                  have hqm : q < mw := by have := HMW.out; omega
                                  have hqd : decide (mw ≤ q) = false := decide_eq_false (by omega)
                                  have hq0 : (0 : Int) ≤ (q : Int) := by omega
                                  have hq2 : (q : Int) ≤ 1000 := by omega
                                  have heq := ent_neq y x
                                  unfold Ent.agg at heq
                                  have hyd : want[pre.length]? = some y := by rw [← hq]; exact hy
                                  have HYD := Lib.hid hyd
                                  have HN := Lib.hid hn
                                  have HU := Lib.hid hu
                                  have HPRE := Lib.hid hpre
                                  have HQ := Lib.hid hq
                                  clear hy hab hyd hn hu hpre hq hew hbx
                                  cases hd : decide (y = x) with
                                  | true =>
                                    rw [hd] at heq
                                    have HD := Lib.hid hd
                                    clear hd
                                    have hxy : y = x := of_decide_eq_true HD.out
                                    have hpre2 := prefix_snoc (x := x) HPRE.out (by rw [← hxy]; exact HYD.out)
                                    have HP2 := Lib.hid hpre2
                                    have HXY := Lib.hid hxy
                                    clear hxy hpre2
                                    (repeat gi_step)
                                    refine wpIn_region_quiet_round (by kernel_rfl) (by kernel_rfl) (by kernel_rfl) ?_
                                    repeat (go_big_quiet_step (fail))
                                    refine wpQuiet_nil ?_
                                    rintro _ ⟨nq, rfl⟩
                                    (repeat gi_step)
                                    have hk9 := (HN.out.drewN nq).one_ (.int .i64 ((q : Int) + 1))
                                    have e9 : (((pre ++ [x]).length : Nat) : Int) = (q : Int) + 1 := by rw [List.length_append, List.length_singleton, HQ.out]; omega
                                    refine ⟨((KeepsOthers.drewN W nq).trans (KeepsOthers.setCell _ _ _)).from _, KC.trans (KC.drewN W nq) (KC.set_ _ _ _ hsg), (HU.out.drewN nq).setCell (p := ⟨gN, 0, none⟩) (fun _ => rfl) _, by rw [e9]; exact hk9, HP2.out⟩
                                  | false =>
                                    rw [hd] at heq
                                    have HD := Lib.hid hd
                                    clear hd
                                    (repeat gi_step)
                                    refine wpIn_region_quiet_round (by kernel_rfl) (by kernel_rfl) (by kernel_rfl) ?_
                                    repeat (go_big_quiet_step (fail))
                                    refine wpQuiet_nil ?_
                                    rintro _ ⟨nq, rfl⟩
                                    (repeat gi_step)
                                    refine ⟨((KeepsOthers.drewN W nq).trans (KeepsOthers.setCell _ _ _)).from _, .inl ⟨rfl, fun h => ?_⟩⟩
                                    have h2 := prefix_at h
                                    rw [HYD.out] at h2
                                    injection h2 with h2
                                    exact of_decide_eq_false HD.out h2
                                case stop3 =>
                                  rintro D2 c pre W2 hD2 hpre (⟨_, hno⟩ | hF) hK
                                  · exact absurd hpre hno
                                  · exact hF.elim
                                case dn3 =>
                                  rintro D2 ys W2 hD2 hys ⟨hu, hn, hpre⟩ hK
                                  rw [hys, HMW.out] at hn
                                  have HMD := Lib.hid ((hu.block D (by omega) (by omega)).trans HM15.out)
                                  clear hys hpre
                                  have hew := HE15.out.upd HN15.out hneR hneS hwN hu
                                  have hkc := hew.kw.c1
                                  have hsc := hew.bs.c1
                                  have hnc := hn.c1
                                  have htn := HTN.out.upd hu hneT
                                  have htc := htn.c1
                                  have htl := htn.lt
                                  have HEW := Lib.hid hew
                                  have HMK := Lib.hid hK
                                  clear hew htn hu hn hK
                                  have hnn : ((mw : Int) != (mw : Int)) = false := by simp
                                  go_wp2_with fail
                                  rw [rounds_succ]
                                  have hDl3 : D2 < W2.heap.size := by
                                    have h := HMK.out
                                    rcases Nat.lt_or_ge D2 W2.heap.size with h2 | h2
                                    · exact h2
                                    · rw [Array.getElem?_eq_none h2] at h; cases h
                                  have hDl4 : D < W2.heap.size := by omega
                                  have hrc := HEW.out.br.c1
                                  have hrl := HEW.out.br.lt
                                  have hnm : n1 = m := HN1.out.trans HML.out
                                  have heq49 : (((n1 : Int) + 20) == ((m : Int) + 20)) = true := by rw [hnm]; simp
                                  clear hnm
                                  go_wp2_with fail
                                  have hDR : D ≠ gR := by omega
                                  have hDR2 : D2 ≠ gR := by omega
                                  have hDD : D2 ≠ D := by omega
                                  have hwD2 : w.heap.size ≤ D2 := by omega
                                  have hblk := (HEW.out.br.one_ (.bool true)).alloc (.cells #[.int .i64 2] 3)
                                  refine leaves_marks w.heap.size [D2, D] _ (marked_two hDD (mark_after HMK.out hDl3 hDR2 _ _) (mark_after HMD.out hDl4 hDR _ _) hwD2 hwD) (fun w2' hb2 hc2 => ?_)
                                  have hc5 := (show Blk w2' gR 4 #[.bool true] from hc2 _ _ _ _ hblk).c1.1
                                  refine ⟨.bool true, by simp [results, Try.results6, go_sem, hc5], rfl, ?_⟩
                                  exact ((HEW.out.bel.setCell (p := ⟨gR, 0, none⟩) hwR (.bool true)).alloc (by show w.heap.size ≤ _; have := HEW.out.bel.size; simpa [World.setCell] using this) _).trans hb2

theorem val_at {w : World} {v : Value} (h : Val Try.prog w 47 v) : ∃ (key : ByteArray) (stop : Int), v = .agg #[.string key, .int .i64 stop] := by
  obtain ⟨cs, rfl, hl, m, hf⟩ := val_struct Try.underlying47 h
  have e : Try.prog.cellsOf 47 = 2 := by kernel_rfl
  have e1 : Try.prog.cellsOf 9 = 1 := by kernel_rfl
  have e2 : Try.prog.cellsOf 3 = 1 := by kernel_rfl
  rw [e] at hl
  obtain ⟨l⟩ := cs
  match l, hl with
  | [a, b], _ =>
    simp only [List.forall_mem_cons, e1, e2, List.drop_zero, List.drop_succ_cons, List.take_succ_cons, List.take_zero] at hf
    obtain ⟨h1, h2, _⟩ := hf
    obtain ⟨k, e1, _⟩ := cel_string Try.underlying9 h1
    obtain ⟨s, e2, _⟩ := cel_int Try.underlying3 h2
    simp only [List.cons.injEq, and_true] at e1 e2
    subst e1 e2
    exact ⟨k, s, rfl⟩
theorem own_vals (W : World) (args : Array Value) (hv : Vals Try.prog W [22, 22, 47] args.toList) :
    Calls Try.prog 6 args W fun e W' => e = .returned (.bool true) ∧ Below W.heap.size W W' := by
  obtain ⟨v0, r0, e0, h0, v1, r1, rfl, h1, v2, r2, rfl, h2, rfl⟩ := hv
  obtain rfl : args = #[v0, v1, v2] := by cases args; simp_all
  obtain ⟨A, n, c, l, rfl, hr, hnc, hc⟩ := val_ops h0
  obtain ⟨A2, n2, c2, l2, rfl, hr2, hnc2, hc2⟩ := val_ops h1
  obtain ⟨key, stop, rfl⟩ := val_at h2
  exact own_walk A n c l A2 n2 c2 l2 key stop W hr (by omega) hr2 (by omega)

set_option maxRecDepth 100000 in
theorem own_lifted (os : Os) (started : os.Started) (H : Type) (enc : TypeId × Value → H) :
    ReturnsInHanded {} Try.checked os 6 .any (Rows.memOwnSpec.pre6 enc Try.prog Try.f6 Rows.memOwnRow.domain false) (Rows.memOwnSpec.post enc Try.prog Try.f6 false true false false) :=
  lift_law (C := Try.checked) #[22, 22, 47] (by kernel_rfl) (by kernel_rfl) started (by kernel_rfl) Try.func6
    (ChangeSpec.witness6 (enc := enc) (C := Try.checked) false ⟨#[], #[.slice none 0 0, .slice none 0 0, .agg #[.string .empty, .int .i64 0]], []⟩ 8 (by kernel_rfl) (by kernel_rfl) (by kernel_rfl) (by kernel_rfl))
    Try.params6 (by kernel_rfl) rfl rfl Try.underlying4 (fun ds hl => match ds, hl with | [_, _, _], _ => rfl) (fun W args hv => own_vals W args hv)

theorem own_holds : Rows.MemOwnSaid :=
  OpenClaim.holds_of_wide 6 Try.f6 rfl rfl rfl rfl rfl rfl rfl ⟨rfl, rfl, rfl, rfl, rfl⟩ rfl rfl rfl rfl rfl (by kernel_rfl) Try.func6 (by kernel_rfl)
    (of_decide_eq_true (by kernel_rfl)) (by unfold Func.isWrapper; rw [if_neg (of_decide_eq_false (by kernel_rfl))]; exact ⟨rfl, rfl⟩)
    (fun os started H enc _ => own_lifted os started H enc)
end Go.Proofs.Ytgcnodbinmgobaa
