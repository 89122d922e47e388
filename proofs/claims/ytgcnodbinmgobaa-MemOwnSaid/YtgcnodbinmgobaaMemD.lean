/- walk: Put -/
import Derived.Test.YtgcnodbinmgobaaMemC
import Derived.Test.YtgcnodbinmgobaaLibE
import Derived.StillTailTactics
import Derived.Deep.DeepCutAuto
import Derived.BigRegion
namespace Go.Proofs.Ytgcnodbinmgobaa
open Go.RowKit

theorem putL_err {l : List Ent} {x : Ent} {c : Nat} (h : errL x = c) (hc : c ≠ 0) : putL l x = (l, c) := by
  unfold putL
  rw [h, if_pos hc]
theorem Mem.below {w w' : World} {T hb : Nat} {ns : List Nd} (h : Mem w T hb ns) (hb' : Below w.heap.size w w') : Mem w' T hb ns := ⟨h.tab.below hb', h.ord, h.small⟩
theorem Mem.upd {w w' : World} {S : Nat → Prop} {T hb : Nat} {ns : List Nd} (h : Mem w T hb ns) (hu : Upd S w w') (hs : ∀ k, Foot T hb ns k → ¬ S k) : Mem w' T hb ns := ⟨h.tab.upd hu hs, h.ord, h.small⟩
theorem Mem.keeps {w : World} {T hb : Nat} {ns : List Nd} (h : Mem w T hb ns) : Keeps w (fun w => Mem w T hb ns) := fun _ hb' => h.below hb'

theorem Tab.place2 {w : World} {T hb : Nat} {ns : List Nd} {nx : Nat → Nat → Value} {cnt byt : Int} (h : Tab w T hb ns nx cnt byt) {j L : Nat} (hL : L < 12) (hj : 0 < j → ∃ n, ns[j - 1]? = some n ∧ L < n.h) :
    ∃ b hh, at_ T ns j = ptr b ∧ w.cell? ⟨b, 4, none⟩ = some (.slice (some ⟨rowAt hb ns j, 0, none⟩) hh hh) ∧ w.cell? ⟨rowAt hb ns j, L, none⟩ = some (nx j L) ∧ w.frozen? ⟨rowAt hb ns j, L, none⟩ = false ∧ L < hh ∧ Foot T hb ns (rowAt hb ns j) := by
  cases j with
  | zero => exact ⟨T, 12, rfl, h.top.cell 4, (h.row0.cell L).trans (row_get _ _ _ hL), h.row0.frozen L, hL, .inr (.inl rfl)⟩
  | succ j =>
    obtain ⟨n, hn, hh⟩ := hj (by omega)
    rw [Nat.add_sub_cancel] at hn
    obtain ⟨h1, h2, _⟩ := h.node j n hn
    have e : rowAt hb ns (j + 1) = n.nb := by simp [rowAt, hn]
    rw [e]
    exact ⟨n.b, n.h, by simp [at_, hn], h1.cell 4, (h2.cell L).trans (row_get _ _ _ hh), h2.frozen L, hh, .inr (.inr ⟨n, List.mem_of_getElem? hn, .inr rfl⟩)⟩
theorem at_ins {T p j : Nat} {ns : List Nd} (x : Nd) (hp : p ≤ ns.length) (hj : j ≤ p) : at_ T (ins ns p x) j = at_ T ns j := by
  cases j with
  | zero => rfl
  | succ j => simp only [at_]; rw [ins_lt x hp (by omega)]
theorem rowAt_ins {hb p j : Nat} {ns : List Nd} (x : Nd) (hp : p ≤ ns.length) (hj : j ≤ p) : rowAt hb (ins ns p x) j = rowAt hb ns j := by
  cases j with
  | zero => rfl
  | succ j => simp only [rowAt]; rw [ins_lt x hp (by omega)]
theorem Tab.drew {w : World} {T hb : Nat} {ns : List Nd} {nx : Nat → Nat → Value} {cnt byt : Int} (h : Tab w T hb ns nx cnt byt) : Tab w.drew T hb ns nx cnt byt := ⟨h.top, h.row0, h.node, h.apart⟩
theorem foot_rowAt {T hb : Nat} {ns : List Nd} {j : Nat} (hj : j ≤ ns.length) : Foot T hb ns (rowAt hb ns j) := by
  cases j with
  | zero => exact .inr (.inl rfl)
  | succ j =>
    have hn : ns[j]? = some ns[j] := List.getElem?_eq_getElem (by omega)
    exact .inr (.inr ⟨ns[j], List.mem_of_getElem? hn, .inr (by simp [rowAt, hn])⟩)
theorem nxv_ptr (ns : List Nd) (j L : Nat) : ∃ o, nxv ns j L = .pointer o := by
  rcases nxv_cases ns j L with ⟨e, _⟩ | ⟨_, _, _, _, _, e, _⟩
  · exact ⟨_, e⟩
  · exact ⟨_, e⟩
theorem Tab.setTop {w : World} {T hb : Nat} {ns : List Nd} {nx : Nat → Nat → Value} {cnt byt cnt' byt' : Int} (h : Tab w T hb ns nx cnt byt) (i : Nat) (v : Value) (e : (tops hb cnt byt).setIfInBounds i v = tops hb cnt' byt') : Tab (w.setCell ⟨T, i, none⟩ v) T hb ns nx cnt' byt' :=
  ⟨by have := h.top.set_ i v; rwa [e] at this, h.row0.far (h.row0.ne_ h.top (by decide)) v,
    fun k n hn => by
      obtain ⟨h1, h2, h3⟩ := h.node k n hn
      exact ⟨h1.far (h1.ne_ h.top (by decide)) v, h2.far (h2.ne_ h.top (by decide)) v, h3⟩, h.apart⟩
theorem sum_ins (a b : List Nat) (x : Nat) : (a ++ x :: b).sum = (a ++ b).sum + x := by
  rw [List.sum_append, List.sum_cons, List.sum_append]; omega
theorem bytesL_ins (l : List Ent) (x : Ent) : bytesL (insL l x) = bytesL l + (x.key.size + x.val.size) := by
  unfold bytesL insL
  rw [List.map_append, List.map_cons, sum_ins, ← List.map_append, List.take_append_drop]
theorem bytesL_le {l : List Ent} (h : ∀ e ∈ l, e.key.size ≤ 64 ∧ e.val.size ≤ 1024) : bytesL l ≤ 1088 * l.length := by
  induction l with
  | nil => simp [bytesL]
  | cons a l ih =>
    have h1 := h a (List.mem_cons_self ..)
    have h2 := ih fun e he => h e (List.mem_cons_of_mem _ he)
    unfold bytesL at h2 ⊢
    rw [List.map_cons, List.sum_cons, List.length_cons]
    omega
theorem Tab.notFoot {w : World} {T hb : Nat} {ns : List Nd} {nx : Nat → Nat → Value} {cnt byt : Int} (h : Tab w T hb ns nx cnt byt) {g t : Nat} {cs : Array Value} (hg : Blk w g t cs) (h1 : t ≠ 53) (h2 : t ≠ 54) (h3 : t ≠ 51) : ¬ Foot T hb ns g := by
  rintro (e | e | ⟨n, hn, hk⟩)
  · exact hg.ne_ h.top h1 e
  · exact hg.ne_ h.row0 h2 e
  · obtain ⟨j, hj⟩ := List.mem_iff_getElem?.1 hn
    obtain ⟨k1, k2, _⟩ := h.node j n hj
    rcases hk with e | e
    · exact hg.ne_ k1 h3 e
    · exact hg.ne_ k2 h2 e

set_option maxRecDepth 100000 in
set_option maxHeartbeats 4000000 in
theorem put_any (T hb : Nat) (ns : List Nd) (x : Ent) (height : Int) (w : World) (h : Mem w T hb ns) (hlen : ns.length ≤ 1000) :
    Calls Try.prog 9 #[ptr T, x.agg, .int .i64 height] w fun r w' =>
      r = .returned (.int .i64 (putL (ns.map (·.e)) x).2) ∧ (∃ ns', ns'.map (·.e) = (putL (ns.map (·.e)) x).1 ∧ Mem w' T hb ns' ∧ ∀ k, Foot T hb ns' k → Foot T hb ns k ∨ w.heap.size ≤ k) ∧ Upd (Foot T hb ns) w w' := by
  unfold ptr Ent.agg
  go_enter Try.func9, Try.ntmps9
  by_cases h1 : (64 : Int) < (x.key.size : Int)
  · skip
    have herr := putL_err (l := ns.map (·.e)) (x := x) (c := 3) (by unfold errL; simp_all; try omega) (by decide)
    have HE := Lib.hid herr
    have HM := Lib.hid h
    clear herr h
    go_wp2_with fail
    go_ret
    exact ⟨by rw [HE.out]; rfl, ⟨ns, by rw [HE.out], HM.out.below ((Below.refl w.heap.size w).alloc (Nat.le_refl _) _), fun k hk => .inl hk⟩, (Upd.refl _ w).alloc _⟩
  by_cases h2 : (1024 : Int) < (x.val.size : Int)
  · skip
    have herr := putL_err (l := ns.map (·.e)) (x := x) (c := 3) (by unfold errL; simp_all; try omega) (by decide)
    have HE := Lib.hid herr
    have HM := Lib.hid h
    clear herr h
    go_wp2_with fail
    go_ret
    exact ⟨by rw [HE.out]; rfl, ⟨ns, by rw [HE.out], HM.out.below ((Below.refl w.heap.size w).alloc (Nat.le_refl _) _), fun k hk => .inl hk⟩, (Upd.refl _ w).alloc _⟩
  go_upto_region 3 with fail
  go_cut [1, 22] (fun _ c wx => c = .bool (decide (x.seq < 1 ∨ 4611686018427387904 < x.seq ∨ (x.del = true ∧ x.val.toList ≠ []))) ∧ wx = w.alloc (.cells #[.string x.key, .int .i64 x.seq, .bool x.del, .string x.val] 28))
  case first =>
    by_cases h3 : x.seq < 1
    · go_wp2_with fail
      go_meet
      exact ⟨by simp [h3], rfl⟩
    by_cases h4 : (4611686018427387904 : Int) < x.seq
    · go_wp2_with fail
      go_meet
      exact ⟨by simp [h4], rfl⟩
    by_cases h5 : x.del = true
    · by_cases h6 : x.val.toList = []
      · have h7 : (x.val.toList == []) = true := by simpa using h6
        have h9 : x.val = ⟨#[]⟩ := toList_inj (by rw [h6, ByteArray.toList_eq])
        go_wp2_with fail
        go_meet
        exact ⟨by simp [h3, h4, h5, h6], by rw [h5, h9]⟩
      · have h7 : (x.val.toList == []) = false := by simpa using h6
        have h8 : (x.val.toList == (⟨#[]⟩ : ByteArray).toList) = false := by rw [ByteArray.toList_eq]; simpa [ByteArray.toList_eq] using h6
        have h9 : ¬ x.val = ⟨#[]⟩ := fun e => h6 (by rw [e, ByteArray.toList_eq])
        go_wp2_with fail
        go_meet
        exact ⟨by simp [h5, h6], by rw [h5]⟩
    · have h5 : x.del = false := by simpa using h5
      go_wp2_with fail
      go_meet
      exact ⟨by simp [h5]; omega, by rw [h5]⟩
  case rest =>
    obtain ⟨rfl, rfl⟩ := hcut
    by_cases hbad : x.seq < 1 ∨ 4611686018427387904 < x.seq ∨ (x.del = true ∧ x.val.toList ≠ [])
    · rw [decide_eq_true hbad]
      have herr := putL_err (l := ns.map (·.e)) (x := x) (c := 1) (by unfold errL; rw [if_neg (by omega), if_pos hbad]) (by decide)
      have HE := Lib.hid herr
      have HM := Lib.hid h
      clear herr h hbad
      go_wp2_with fail
      go_ret
      exact ⟨by rw [HE.out]; rfl, ⟨ns, by rw [HE.out], HM.out.below ((Below.refl w.heap.size w).alloc (Nat.le_refl _) _), fun k hk => .inl hk⟩, (Upd.refl _ w).alloc _⟩
    · rw [decide_eq_false hbad]
      have he0 : errL x = 0 := by unfold errL; rw [if_neg (by omega), if_neg hbad]
      have HE0 := Lib.hid he0
      have hsq : 1 ≤ x.seq ∧ x.seq ≤ 4611686018427387904 := by omega
      clear he0 hbad
      obtain ⟨p, hpe⟩ : ∃ p, p = posOf (ns.map (·.e)) x.key x.seq := ⟨_, rfl⟩
      have hp : p ≤ ns.length := by have := posOf_le (ns.map (·.e)) x.key x.seq; rw [List.length_map] at this; omega
      have hmap : ∀ (k : Nat) (n : Nd), ns[k]? = some n → (ns.map (·.e))[k]? = some n.e := fun k n hk => by rw [List.getElem?_map, hk]; rfl
      have hlt : ∀ (k : Nat) (n : Nd), ns[k]? = some n → k < p → bfor n.e x.key x.seq = true := fun k n hk hkp => posOf_lt (hmap k n hk) (by omega)
      have hge : ∀ (k : Nat) (n : Nd), ns[k]? = some n → p ≤ k → bfor n.e x.key x.seq = false := fun k n hk hkp => posOf_ge h.ord (hmap k n hk) (by omega)
      have hsm : x.key.size ≤ 64 ∧ x.val.size ≤ 1024 := by omega
      have HPE := Lib.hid hpe
      have HM := Lib.hid h
      have HSM := Lib.hid hsm
      clear hpe hsm hmap
      go_wp2_with fail
      obtain ⟨w1, hw1⟩ : ∃ v, v = w.alloc (.cells #[.string x.key, .int .i64 x.seq, .bool x.del, .string x.val] 28) := ⟨_, rfl⟩
      rw [← hw1]
      have hb1 : Below w.heap.size w w1 := by rw [hw1]; exact (Below.refl w.heap.size w).alloc (Nat.le_refl _) _
      have hk1 : Blk w1 w.heap.size 28 #[.string x.key, .int .i64 x.seq, .bool x.del, .string x.val] := by rw [hw1]; exact Blk.new w _ _
      obtain ⟨g, hg⟩ : ∃ g, g = w.heap.size := ⟨_, rfl⟩
      rw [← hg] at hk1 ⊢
      have HG := Lib.hid hg
      have HB1 := Lib.hid hb1
      clear hw1 hb1 hg
      refine (ahead_any T hb ns _ _ x.key x.seq p w1 (HM.out.tab.below HB1.out) hlt hge).mono ?_
      clear hlt hge
      rintro r w2 ⟨js, hjs, rfl, hb⟩
      have HB2 := Lib.hid (HB1.out.trans (hb.mono HB1.out.size))
      have HK2 := Lib.hid (hk1.below hb hk1.lt)
      have HJS := Lib.hid hjs
      have hgs : g < w2.heap.size := HK2.out.lt
      clear hk1 hb hjs
      go_wp2_with (refine wpList_store_row rfl 55 (.tmp 7) (.tmp 45) rfl w2.heap.size _ rfl rfl 55 _ (Blk.new w2 _ _) (by rw [row_size]; kernel_rfl) (by rw [row_size]; rfl) (row_one _ _ fun i _ => by obtain ⟨b, hb⟩ := at_ptr T ns (js i); rw [hb]; rfl) (halt_ ?_))
      refine unhalt ?_
      obtain ⟨w3, hw3⟩ : ∃ v, v = (w2.alloc (.cells #[.pointer none, .pointer none, .pointer none, .pointer none, .pointer none, .pointer none, .pointer none, .pointer none, .pointer none, .pointer none, .pointer none, .pointer none] 55)).setRow w2.heap.size (row (fun L => at_ T ns (js L)) 12) := ⟨_, rfl⟩
      rw [← hw3]
      have hb3 : Below w2.heap.size w2 w3 := by
        rw [hw3]
        exact Upd.none_ ((((Upd.refl (fun _ => False) w2).alloc _).setRow (g := w2.heap.size) (fun k h1 h2 => by omega) _))
      have hk3 : Blk w3 w2.heap.size 55 (row (fun L => at_ T ns (js L)) 12) := by rw [hw3]; exact setRow_heap _ _ _ _ _ _ (Blk.new w2 _ _)
      obtain ⟨g3, hg3⟩ : ∃ g3, g3 = w2.heap.size := ⟨_, rfl⟩
      rw [← hg3] at hk3 hgs ⊢
      have HK3 := Lib.hid hk3
      have HG3 := Lib.hid hg3
      have HK2 := Lib.hid (HK2.out.below hb3 HK2.out.lt)
      have HB3 := Lib.hid (HB2.out.trans (hb3.mono HB2.out.size))
      have hsz3 : g3 < w3.heap.size := hk3.lt
      clear hw3 hb3 hk3 hg3 HB1 HB2
      have htab := HM.out.tab.below HB3.out
      have hjs0 : js 0 = p := by
        obtain ⟨q1, q2, q3⟩ := HJS.out 0 (by omega)
        rcases Nat.lt_or_ge (js 0) p with hq | hq
        · have := q3 (js 0) (Nat.le_refl _) hq _ (List.getElem?_eq_getElem (by omega))
          have := (htab.node (js 0) _ (List.getElem?_eq_getElem (by omega))).2.2.1
          omega
        · omega
      obtain ⟨b0, nb0, hh0, hat0, hc04, hc0L, hL0⟩ := htab.place (j := p) (L := 0) (by omega) (fun hp0 => ⟨ns[p - 1]'(by omega), List.getElem?_eq_getElem (by omega), (htab.node (p - 1) _ (List.getElem?_eq_getElem (by omega))).2.2.1⟩)
      have hcr := HK3.out.cell 0
      rw [row_get _ _ _ (by omega), hjs0, hat0] at hcr
      unfold ptr at hcr
      have HJ0 := Lib.hid hjs0
      have hL0' : (0 : Int) < (hh0 : Int) := by omega
      clear hjs0 hat0 htab
      go_wp2_with fail
      have hkc := HK2.out.c4
      obtain ⟨bad, hbad⟩ : ∃ bad, bad = sameAt (ns.map (·.e))[p]? x := ⟨_, rfl⟩
      have HBAD := Lib.hid hbad
      clear hbad
      go_cut [8, 74] (fun _ c wx => c = .bool bad ∧ ∃ q, wx = w3.drewN q)
      case first =>
        rcases nxv_cases ns p 0 with ⟨hnx, hno⟩ | ⟨k, n, hpk, hn, hn0, hnx, hno⟩
        · have hpl : p = ns.length := by
            rcases Nat.lt_or_ge p ns.length with hl | hl
            · have := hno p (Nat.le_refl _) _ (List.getElem?_eq_getElem hl)
              have := ((HM.out.tab.below HB3.out).node p _ (List.getElem?_eq_getElem hl)).2.2.1
              omega
            · omega
          have hsame : bad = false := by rw [HBAD.out, hpl, List.getElem?_eq_none (by simp)]; rfl
          rw [hnx]
          clear hnx hno hpl
          have HSA := Lib.hid hsame
          clear hsame
          go_quiet (fail)
          go_wp2_with fail
          go_meet
          exact ⟨by rw [HSA.out], _, rfl⟩
        · have htab := HM.out.tab.below HB3.out
          have hkp : k = p := by
            rcases Nat.lt_or_ge p k with hl | hl
            · have hpl : p < ns.length := by have := (List.getElem?_eq_some_iff.1 hn).1; omega
              have := hno p (Nat.le_refl _) hl _ (List.getElem?_eq_getElem hpl)
              have := (htab.node p _ (List.getElem?_eq_getElem hpl)).2.2.1
              omega
            · omega
          subst hkp
          have hbe : bad = decide (n.e.key.toList = x.key.toList ∧ n.e.seq = x.seq) := by rw [HBAD.out, List.getElem?_map, hn]; rfl
          have hent := htab.ent hn
          rw [hnx]
          unfold ptr
          have HBE := Lib.hid hbe
          clear htab hno hnx hbe hn hn0
          by_cases hke : n.e.key.toList = x.key.toList
          · rw [toList_inj hke] at hent
            by_cases hse : n.e.seq = x.seq
            · rw [hse] at hent
              have HSA := Lib.hid (And.intro hke hse)
              clear hke hse
              go_quiet (fail)
              go_wp2_with fail
              go_meet
              exact ⟨by rw [HBE.out, decide_eq_true HSA.out], _, rfl⟩
            · have hse' : (n.e.seq == x.seq) = false := by simpa using hse
              have HSA := Lib.hid (fun hh : n.e.key.toList = x.key.toList ∧ n.e.seq = x.seq => hse hh.2)
              clear hke
              go_quiet (fail)
              go_wp2_with fail
              go_meet
              exact ⟨by rw [HBE.out, decide_eq_false HSA.out], _, rfl⟩
          · have hke' : (n.e.key.toList == x.key.toList) = false := by simpa using hke
            have HSA := Lib.hid (fun hh : n.e.key.toList = x.key.toList ∧ n.e.seq = x.seq => hke hh.1)
            go_quiet (fail)
            go_wp2_with fail
            go_meet
            exact ⟨by rw [HBE.out, decide_eq_false HSA.out], _, rfl⟩
      case rest =>
        obtain ⟨rfl, q, rfl⟩ := hcut
        clear hkc hc04 hc0L hL0 hcr hL0'
        obtain ⟨w4, hw4⟩ : ∃ v, v = w3.drewN q := ⟨_, rfl⟩
        rw [← hw4]
        have hb4 : Below w.heap.size w w4 := by rw [hw4]; exact below_drewN HB3.out q
        have hk4 : Blk w4 g3 55 (row (fun L => at_ T ns (js L)) 12) := by rw [hw4]; exact HK3.out
        have hk4x : Blk w4 g 28 #[.string x.key, .int .i64 x.seq, .bool x.del, .string x.val] := by rw [hw4]; exact HK2.out
        have HB4 := Lib.hid hb4
        have HK4 := Lib.hid hk4
        have HKX := Lib.hid hk4x
        have hsz4 : g3 < w4.heap.size := hk4.lt
        clear hb4 hk4 hk4x hw4 HK2 HK3 HB3 hsz3 HG3
        by_cases hbt : bad = true
        · rw [hbt]
          have hput : putL (ns.map (·.e)) x = (ns.map (·.e), 2) := by
            unfold putL
            rw [HE0.out, if_neg (by simp), ← HPE.out, ← HBAD.out, if_pos hbt]
          have HP := Lib.hid hput
          clear hput hbt
          go_wp2_with fail
          go_ret
          exact ⟨by rw [HP.out]; rfl, ⟨ns, by rw [HP.out], HM.out.below HB4.out, fun k hk => .inl hk⟩, (Upd.of_below HB4.out).mono fun k hk hS => by omega⟩
        · have hbf : bad = false := by simpa using hbt
          rw [hbf]
          have hput : putL (ns.map (·.e)) x = (insL (ns.map (·.e)) x, 0) := by
            unfold putL
            rw [HE0.out, if_neg (by simp), ← HPE.out, ← HBAD.out, if_neg hbt]
          have hord := ordered_ins HM.out.ord x (by rw [← HPE.out, ← HBAD.out, hbf])
          have HP := Lib.hid hput
          have HO := Lib.hid hord
          clear hput hord hbt hbf HBAD HE0
          go_wp2_with fail
          have hkc := HKX.out.c4
          obtain ⟨M1, hM1⟩ : ∃ M1 : Int, M1 = max height 1 := ⟨_, rfl⟩
          obtain ⟨H, hH1, hH2, hH3⟩ : ∃ H : Nat, (H : Int) = min M1 12 ∧ 1 ≤ H ∧ H ≤ 12 := ⟨(min M1 12).toNat, by omega, by omega, by omega⟩
          have hm1 : (if height < 1 then (1 : Int) else height) = M1 := by omega
          have hm2 : (if (12 : Int) < M1 then (12 : Int) else M1) = (H : Int) := by omega
          clear hM1 hH1
          have hmk := make_nd H hH3
          refine wp_region_noPanic ?_
          refine wp_region_held_drew (S := fun w' => Below w4.heap.size w4 w') (by kernel_rfl) (below_drew w4) (fun hH => ?_)
          refine wpAnyH_take (i := 0) (oi := _) (v := ?_) (by simp only [List.getElem?_toArray, List.getElem?_cons_zero]; rfl) (by kernel_rfl) (by kernel_rfl) (by kernel_rfl) (fun _ _ _ h => h) (Or.inl ⟨by rfl, ?_⟩) (by assumption) ?_
          rotate_left
          · intro w' hSw; (try dsimp only at hSw); obtain ⟨k0, k1, k2, k3⟩ := ((HKX.out.below hSw HKX.out.lt).c4); go_simp; try with_reducible rfl
          try simp only [Act.put, List.setIfInBounds_toArray, List.set_cons_zero, List.set_cons_succ]
          refine wpAnyH_take (i := 1) (oi := _) (v := ?_) (by simp only [List.getElem?_toArray, List.getElem?_cons_zero, List.getElem?_cons_succ]; rfl) (by kernel_rfl) (by kernel_rfl) (by kernel_rfl) (fun _ _ _ h => h) (Or.inl ⟨by rfl, ?_⟩) (by assumption) ?_
          rotate_left
          · intro w' hSw; (try dsimp only at hSw); go_simp; try with_reducible rfl
          try simp only [Act.put, List.setIfInBounds_toArray, List.set_cons_zero, List.set_cons_succ]
          refine wpAnyH_take (i := 2) (oi := _) (v := ?_) (by simp only [List.getElem?_toArray, List.getElem?_cons_zero, List.getElem?_cons_succ]; rfl) (by kernel_rfl) (by kernel_rfl) (by kernel_rfl) (fun _ _ _ h => h) (Or.inl ⟨by rfl, ?_⟩) (by assumption) ?_
          rotate_left
          · intro w' hSw; (try dsimp only at hSw); go_simp; try with_reducible rfl
          try simp only [Act.put, List.setIfInBounds_toArray, List.set_cons_zero, List.set_cons_succ]
          refine wpAnyH_take (i := 3) (oi := _) (v := ?_) (by simp only [List.getElem?_toArray, List.getElem?_cons_zero, List.getElem?_cons_succ]; rfl) (by kernel_rfl) (by kernel_rfl) (by kernel_rfl) (fun _ _ _ h => h) (Or.inl ⟨by rfl, ?_⟩) (by assumption) ?_
          rotate_left
          · intro w' hSw; (try dsimp only at hSw); go_simp; try with_reducible rfl
          try simp only [Act.put, List.setIfInBounds_toArray, List.set_cons_zero, List.set_cons_succ]
          refine wpAnyH_ready (rs := [4]) (by kernel_rfl) (by simp) (AllReadyH.cons (o := _) (by simp only [List.getElem?_toArray, List.getElem?_cons_zero, List.getElem?_cons_succ]; rfl) (fun K hK => ?_) AllReadyH.nil)
          go_simp
          skip
          try go_wp2_with fail
          refine hK.out _ _ ((below_drew w4).alloc (by simp) _) (fun hHeld => ?_)
          clear hK K hH
          have hH := hHeld
          clear hHeld
          try simp only [Act.put, List.setIfInBounds_toArray, List.set_cons_zero, List.set_cons_succ]
          refine wpAnyH_take (i := 5) (oi := _) (v := ?_) (by simp only [List.getElem?_toArray, List.getElem?_cons_zero, List.getElem?_cons_succ]; rfl) (by kernel_rfl) (by kernel_rfl) (by kernel_rfl) (fun _ _ _ h => h) (Or.inl ⟨by rfl, ?_⟩) (by assumption) ?_
          rotate_left
          · intro w' hSw; (try dsimp only at hSw); go_simp; try with_reducible rfl
          try simp only [Act.put, List.setIfInBounds_toArray, List.set_cons_zero, List.set_cons_succ]
          refine wpAnyH_ready (rs := [6]) (by kernel_rfl) (by simp) (AllReadyH.cons (o := _) (by simp only [List.getElem?_toArray, List.getElem?_cons_zero, List.getElem?_cons_succ]; rfl) (fun K hK => ?_) AllReadyH.nil)
          go_simp
          skip
          try go_wp2_with fail
          refine hK.out _ _ (((below_drew w4).alloc (by simp) _).alloc (by simp) _) (fun hHeld => ?_)
          clear hK K hH
          have hH := hHeld
          clear hHeld
          try simp only [Act.put, List.setIfInBounds_toArray, List.set_cons_zero, List.set_cons_succ]
          refine wpAnyH_take (i := 7) (oi := _) (v := ?_) (by simp only [List.getElem?_toArray, List.getElem?_cons_zero, List.getElem?_cons_succ]; rfl) (by kernel_rfl) (by kernel_rfl) (by kernel_rfl) (fun _ _ _ h => h) (Or.inl ⟨by rfl, ?_⟩) (by assumption) ?_
          rotate_left
          · intro w' hSw; (try dsimp only at hSw); go_simp; try with_reducible rfl
          try simp only [Act.put, List.setIfInBounds_toArray, List.set_cons_zero, List.set_cons_succ]
          refine wpAnyH_done (by kernel_rfl) ?_ _
          refine NoPanic.normal ?_
          obtain ⟨w5, hw5⟩ : ∃ v, v = ((w4.alloc (.cells (row (fun _ => .pointer none) H) 54)).alloc (.cells #[.string x.key, .int .i64 x.seq, .bool x.del, .string x.val, .slice (some ⟨w4.heap.size, 0, none⟩) H H] 51)).drew := ⟨_, rfl⟩
          rw [← hw5] at hH ⊢
          have hn2 : Blk w5 w4.heap.size 54 (row (fun _ => .pointer none) H) := by rw [hw5]; exact ((Blk.new w4 _ _).alloc _).drew
          have hn1 : Blk w5 (w4.heap.size + 1) 51 #[.string x.key, .int .i64 x.seq, .bool x.del, .string x.val, .slice (some ⟨w4.heap.size, 0, none⟩) H H] := by rw [hw5]; exact (Blk.new_ (by simp) _ _).drew
          have hb5 := HB4.out.trans (hH.mono HB4.out.size)
          have hsz5 := hH.size
          obtain ⟨g4, hg4⟩ : ∃ g4, g4 = w4.heap.size := ⟨_, rfl⟩
          rw [← hg4] at hn1 hn2 hsz4 hsz5 ⊢
          have hgw : w.heap.size ≤ g4 := by rw [hg4]; exact HB4.out.size
          have hfo : ∀ k, Foot T hb ns k → k < g4 := fun k hk => by have := HM.out.tab.foot_lt k hk; omega
          obtain ⟨nd, hnd1, hnd2, hnd3, hnd4⟩ : ∃ nd : Nd, nd.b = g4 + 1 ∧ nd.nb = g4 ∧ nd.h = H ∧ nd.e = x := ⟨⟨g4 + 1, g4, H, x⟩, rfl, rfl, rfl, rfl⟩
          have htab := (HM.out.tab.below hb5).ins_ hp (x := nd) (by rw [hnd1]; unfold Nd.cells; rw [hnd2, hnd3, hnd4]; exact hn1) (by rw [hnd2, hnd3]; exact hn2) (by omega) (by omega) (fun k hk => by have := hfo k hk; omega)
          have hk5 := HK4.out.below hH HK4.out.lt
          have hkx5 := HKX.out.below hH HKX.out.lt
          have hc4 := hn1.cell 4
          have HT5 := Lib.hid htab
          have HK5 := Lib.hid hk5
          have HKX5 := Lib.hid hkx5
          have HB5 := Lib.hid hb5
          have HND := Lib.hid (And.intro hnd1 (And.intro hnd2 (And.intro hnd3 hnd4)))
          have HFO := Lib.hid hfo
          clear hH hw5 hkc hk5 hkx5 hn1 hn2 hb5 hm1 hm2 hmk htab hg4 hnd1 hnd2 hnd3 hnd4 hfo HK4 HKX HB4
          go_wp2_with fail
          clear hc4
          go_loopw [87] (fun iv wr => ∃ m : Nat, iv = .int .i64 m ∧ m ≤ H ∧ Tab wr T hb (ins ns p nd) (mix ns p nd m) ns.length (bytesL (ns.map (·.e))) ∧ Upd (Foot T hb (ins ns p nd)) w5 wr) (fun iv _ => H - (intOf iv).toNat)
          case atStart => exact ⟨0, rfl, by omega, HT5.out, Upd.refl _ _⟩
          case round =>
            obtain ⟨m, rfl, hm, ht, hu⟩ := hrel
            have HT := Lib.hid ht
            have HU := Lib.hid hu
            clear ht hu
            by_cases hmH : (m : Int) < (H : Int)
            · obtain ⟨hnd1, hnd2, hnd3, hnd4⟩ := HND.out
              have hq := HJS.out m (by omega)
              have hca := ((HK5.out.upd HU.out (HT5.out.notFoot HK5.out (by decide) (by decide) (by decide))).cell m).trans (row_get _ _ _ (by omega : m < 12))
              obtain ⟨q, hqe⟩ : ∃ q, q = js m := ⟨_, rfl⟩
              rw [← hqe] at hq hca
              obtain ⟨b, hh, hat, hcb, hcv, hfv, hmh, hft⟩ := HT.out.place2 (j := q) (L := m) (by omega) (fun h0 => by
                obtain ⟨n, hn, hl⟩ := hq.2.1 h0
                exact ⟨n, by rw [ins_lt nd hp (by have := hq.1; omega)]; exact hn, hl⟩)
              rw [at_ins nd hp hq.1] at hat
              rw [hat] at hca
              unfold ptr at hca
              obtain ⟨hx1, hx2, -, -, -⟩ := HT.out.node p nd (ins_at nd hp)
              have hcx0 := hx1.cell 4
              have hxv := (hx2.cell m).trans (row_get _ _ _ (by omega))
              have hxf := hx2.frozen m
              rw [hnd1] at hcx0
              rw [hnd2] at hxv hxf
              have hcx : wr.cell? ⟨g4 + 1, 4, none⟩ = some (.slice (some ⟨g4, 0, none⟩) H H) := by rw [hcx0, ← hnd2, ← hnd3]; rfl
              have hmix : mix ns p nd m q m = nxv ns q m := by have := hq.1; unfold mix; rw [if_neg (by omega), if_neg (by omega), if_pos hq.1]
              obtain ⟨o, hov⟩ := nxv_ptr ns q m
              rw [hmix, hov] at hcv
              have HOV := Lib.hid hov
              clear hov
              have hm0 : (0 : Int) ≤ (m : Int) := by omega
              have hm12 : (m : Int) < 12 := by omega
              have hmhh : (m : Int) < (hh : Int) := by omega
              have hnext := fun j i (hj : Has (ins ns p nd) j i) => mix_next hp (by omega : m < nd.h) hq hj
              have HNX := Lib.hid hnext
              have HQ := Lib.hid hq
              have HFT := Lib.hid hft
              have HN1 := Lib.hid hnd1
              obtain ⟨nb, hnb⟩ : ∃ nb, nb = rowAt hb (ins ns p nd) q := ⟨_, rfl⟩
              rw [← hnb] at hcb hcv hfv
              have hnlt : nb < g4 := by rw [hnb, rowAt_ins nd hp hq.1]; exact HFO.out _ (foot_rowAt (by have := hq.1; omega))
              have HNB := Lib.hid hnb
              have hxn : rowAt hb (ins ns p nd) (p + 1) = g4 := by simp [rowAt, ins_at nd hp, hnd2]
              have HXN := Lib.hid hxn
              clear hcx0 hnext hq hft hnd1 hnd2 hnd3 hnd4 hnb hx1 hx2 hat hmix hmh hxn hqe
              go_wp2_with fail
              have hne : nb ≠ g4 := by omega
              have hne2 : g4 ≠ nb := by omega
              go_region
              go_wp2_with fail
              go_roundw
              case rel =>
                have h1 := (HT.out.drew.set_ (j := p + 1) (i := m) (fun _ => ⟨nd, ins_at nd hp⟩) (.pointer o)).set_ (j := q) (i := m) (fun h0 => by
                  obtain ⟨n, hn, hl⟩ := HQ.out.2.1 h0
                  exact ⟨n, by rw [ins_lt nd hp (by have := HQ.out.1; omega)]; exact hn⟩) (.pointer (some ⟨g4 + 1, 0, none⟩))
                rw [HXN.out, ← HNB.out] at h1
                refine ⟨m + 1, by go_num, by omega, h1.congr fun j i hj => ?_, ?_⟩
                · rw [HNX.out j i hj, HN1.out, HOV.out]; rfl
                · have hf1 : Foot T hb (ins ns p nd) g4 := by rw [← HXN.out]; exact foot_rowAt (by unfold ins; rw [List.length_append, List.length_take, List.length_cons, List.length_drop]; omega)
                  have hf2 := HFT.out
                  rw [← HNB.out] at hf2
                  exact (HU.out.drew.setCell (p := ⟨g4, m, none⟩) (fun _ => hf1) _).setCell (p := ⟨nb, m, none⟩) (fun _ => hf2) _
              case measure => simp [intOf]; omega
            · have hmH2 : m = H := by omega
              subst hmH2
              obtain ⟨hnd1, hnd2, hnd3, hnd4⟩ := HND.out
              have htab : Tab wr T hb (ins ns p nd) (nxv (ins ns p nd)) ns.length (bytesL (ns.map (·.e))) := HT.out.congr fun j i hj => by rw [← hnd3]; exact mix_end hp hj
              have hxk := HKX5.out.upd HU.out (HT5.out.notFoot HKX5.out (by decide) (by decide) (by decide))
              obtain ⟨kx0, -, -, kx3, -⟩ := hxk.c4
              have hc5 := htab.top.cell 5
              have hc6 := htab.top.cell 6
              have hf5 := htab.top.frozen 5
              have hf6 := htab.top.frozen 6
              rw [show (tops hb ns.length (bytesL (ns.map (·.e))))[5]? = some (.int .i64 ns.length) from rfl] at hc5
              rw [show (tops hb ns.length (bytesL (ns.map (·.e))))[6]? = some (.int .i64 (bytesL (ns.map (·.e)))) from rfl] at hc6
              have hbl := bytesL_le (l := ns.map (·.e)) (fun e he => by obtain ⟨n, hn, rfl⟩ := List.mem_map.1 he; exact HM.out.small n hn)
              rw [List.length_map] at hbl
              have hbi := bytesL_ins (ns.map (·.e)) x
              obtain ⟨B, hB⟩ : ∃ B, B = bytesL (ns.map (·.e)) := ⟨_, rfl⟩
              rw [← hB] at hc6 hbl hbi htab
              obtain ⟨C, hC⟩ : ∃ C, C = ns.length := ⟨_, rfl⟩
              rw [← hC] at hc5 hbl hlen htab
              obtain ⟨hs1, hs2⟩ := HSM.out
              have HTB := Lib.hid htab
              have HBI := Lib.hid hbi
              have HCC := Lib.hid hC
              have hne : g ≠ T := fun e => HT5.out.notFoot HKX5.out (by decide) (by decide) (by decide) (.inl e)
              have hne2 : T ≠ g := fun e => hne e.symm
              clear htab hxk hbi hB hC hnd1 hnd2 hnd3
              have HND4 := Lib.hid hnd4
              clear hnd4
              go_wp2_with fail
              go_region
              go_wp2_with fail
              go_ret
              obtain ⟨hnd1, hnd2, hnd3, hnd4⟩ := HND.out
              have hmp : (ins ns p nd).map (·.e) = insL (ns.map (·.e)) x := by rw [ins_ents, hnd4]; unfold insL; rw [← HPE.out]
              have hl1 : (ins ns p nd).length = C + 1 := by rw [HCC.out]; unfold ins; rw [List.length_append, List.length_take, List.length_cons, List.length_drop]; omega
              have hfoot : ∀ k, Foot T hb (ins ns p nd) k → Foot T hb ns k ∨ w.heap.size ≤ k := by
                rintro k (rfl | rfl | ⟨n, hn, hk⟩)
                · exact .inl (.inl rfl)
                · exact .inl (.inr (.inl rfl))
                · unfold ins at hn
                  rcases List.mem_append.1 hn with hn | hn
                  · exact .inl (.inr (.inr ⟨n, List.mem_of_mem_take hn, hk⟩))
                  · rcases List.mem_cons.1 hn with rfl | hn
                    · right; omega
                    · exact .inl (.inr (.inr ⟨n, List.mem_of_mem_drop hn, hk⟩))
              refine ⟨by rw [HP.out]; rfl, ⟨ins ns p nd, by rw [HP.out, hmp], ⟨?_, by rw [hmp]; exact HO.out, ?_⟩, hfoot⟩, ?_⟩
              · rw [hmp, HBI.out, hl1]
                exact ((HTB.out.setTop 5 (.int .i64 ((C : Int) + 1)) (cnt' := ((C + 1 : Nat) : Int)) (byt' := (B : Int)) (by unfold tops; simp)).setTop 6 _ (by unfold tops; simp)).drew
              · intro n hn
                unfold ins at hn
                rcases List.mem_append.1 hn with hn | hn
                · exact HM.out.small n (List.mem_of_mem_take hn)
                · rcases List.mem_cons.1 hn with rfl | hn
                  · rw [hnd4]; exact HSM.out
                  · exact HM.out.small n (List.mem_of_mem_drop hn)
              · exact (Upd.of_below HB5.out).trans ((HU.out.setCell (p := ⟨T, 5, none⟩) (fun _ => .inl rfl) _).setCell (p := ⟨T, 6, none⟩) (fun _ => .inl rfl) _).drew (fun i hi hf => (hfoot i hf).resolve_right (by omega))
end Go.Proofs.Ytgcnodbinmgobaa
