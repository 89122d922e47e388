/- walks: Get, All, Same -/
import Derived.Test.YtgcnodbinmgobaaMemD
import Derived.Test.YtgcnodbinmgobaaLibN
namespace Go.Proofs.Ytgcnodbinmgobaa
open Go.RowKit

def zeroE : Ent := ⟨⟨#[]⟩, 0, false, ⟨#[]⟩⟩
/-- What Get answers. -/
def getE (o : Option Ent) : Ent := o.getD zeroE

theorem Mem.first {w : World} {T hb : Nat} {ns : List Nd} (h : Mem w T hb ns) {p : Nat} (hp : p ≤ ns.length) :
    (p = ns.length ∧ nxv ns p 0 = .pointer none) ∨ ∃ n, ns[p]? = some n ∧ nxv ns p 0 = ptr n.b := by
  rcases nxv_cases ns p 0 with ⟨hnx, hno⟩ | ⟨k, n, hpk, hn, hn0, hnx, hno⟩
  · left
    refine ⟨?_, hnx⟩
    rcases Nat.lt_or_ge p ns.length with hl | hl
    · have := hno p (Nat.le_refl _) _ (List.getElem?_eq_getElem hl)
      have := (h.tab.node p _ (List.getElem?_eq_getElem hl)).2.2.1
      omega
    · omega
  · right
    have hkp : k = p := by
      rcases Nat.lt_or_ge p k with hl | hl
      · have hpl : p < ns.length := by have := (List.getElem?_eq_some_iff.1 hn).1; omega
        have := hno p (Nat.le_refl _) hl _ (List.getElem?_eq_getElem hpl)
        have := (h.tab.node p _ (List.getElem?_eq_getElem hpl)).2.2.1
        omega
      · omega
    subst hkp
    exact ⟨n, hn, hnx⟩
theorem under12 : Try.prog.underlying 55 = some (.array 12 54) := Try.underlying55
theorem size_ndp : (Try.prog.info? 54).map (·.size) = some 1 := by kernel_rfl
theorem index_row (f : Nat → Value) (w : World) : (Instr.index 55 (.agg (row f 12)) (.int .i64 0)).run Try.prog w = .ok (f 0) w :=
  run_index_one (k := 0) under12 (fun _ => by kernel_rfl) size_ndp (row f 12) (by decide) (by decide) (row_get f 12 0 (by omega)) w

theorem Blk.put4 {w : World} {g t : Nat} {a b c d a' b' c' d' : Value} (h : Blk w g t #[a, b, c, d]) : Blk ((((w.setCell ⟨g, 0, none⟩ a').setCell ⟨g, 1, none⟩ b').setCell ⟨g, 2, none⟩ c').setCell ⟨g, 3, none⟩ d') g t #[a', b', c', d'] := by
  have := (((h.set_ 0 a').set_ 1 b').set_ 2 c').set_ 3 d'
  simpa using this
theorem below_put4 {a w : World} {g : Nat} {a' b' c' d' : Value} {B : Nat} (h : Below B a w) (hg : B ≤ g) : Below B a ((((w.setCell ⟨g, 0, none⟩ a').setCell ⟨g, 1, none⟩ b').setCell ⟨g, 2, none⟩ c').setCell ⟨g, 3, none⟩ d') :=
  (((h.setCell (p := ⟨g, 0, none⟩) hg _).setCell (p := ⟨g, 1, none⟩) hg _).setCell (p := ⟨g, 2, none⟩) hg _).setCell (p := ⟨g, 3, none⟩) hg _
set_option maxRecDepth 100000 in
set_option maxHeartbeats 1000000 in
theorem get_any (T hb : Nat) (ns : List Nd) (key : ByteArray) (s : Int) (w : World) (h : Mem w T hb ns) :
    Calls Try.prog 10 #[ptr T, .string key, .int .i64 s] w fun e w' =>
      e = .returned (.tuple #[(getE (getL (ns.map (·.e)) key s)).agg, .bool (getL (ns.map (·.e)) key s).isSome]) ∧ Below w.heap.size w w' := by
  obtain ⟨p, hpe⟩ : ∃ p, p = posOf (ns.map (·.e)) key s := ⟨_, rfl⟩
  have hp : p ≤ ns.length := by have := posOf_le (ns.map (·.e)) key s; rw [List.length_map] at this; omega
  have hmap : ∀ (k : Nat) (n : Nd), ns[k]? = some n → (ns.map (·.e))[k]? = some n.e := fun k n hk => by rw [List.getElem?_map, hk]; rfl
  have hlt : ∀ (k : Nat) (n : Nd), ns[k]? = some n → k < p → bfor n.e key s = true := fun k n hk hkp => posOf_lt (hmap k n hk) (by omega)
  have hge : ∀ (k : Nat) (n : Nd), ns[k]? = some n → p ≤ k → bfor n.e key s = false := fun k n hk hkp => posOf_ge h.ord (hmap k n hk) (by omega)
  obtain ⟨G, hG⟩ : ∃ G, G = getL (ns.map (·.e)) key s := ⟨_, rfl⟩
  have hGe := hG
  unfold getL at hGe
  rw [← hpe, List.getElem?_map] at hGe
  rw [← hG]
  have HG := Lib.hid hGe
  have HM := Lib.hid h.keeps
  have hfst := fun w' (hb : Below w.heap.size w w') => (h.below hb).first hp
  clear hG hGe hpe hmap
  unfold ptr
  go_enter Try.func10, Try.ntmps10
  go_wp2_with fail
  obtain ⟨w1, hw1⟩ : ∃ v, v = w.alloc (.cells #[.string ⟨#[]⟩, .int .i64 0, .bool false, .string ⟨#[]⟩] 28) := ⟨_, rfl⟩
  rw [← hw1]
  have hb1 : Below w.heap.size w w1 := by rw [hw1]; exact (Below.refl w.heap.size w).alloc (Nat.le_refl _) _
  have hk1 : Blk w1 w.heap.size 28 #[.string ⟨#[]⟩, .int .i64 0, .bool false, .string ⟨#[]⟩] := by rw [hw1]; exact Blk.new w _ _
  clear hw1
  have HM1 := Lib.hid (HM.out.on hb1)
  refine (ahead_any T hb ns _ _ key s p w1 HM1.out.now.tab hlt hge).mono ?_
  clear hlt hge
  rintro r w2 ⟨js, hjs, rfl, hb2⟩
  have HM2 := Lib.hid (HM1.out.on hb2)
  have HB2 := Lib.hid (hb1.trans (hb2.mono hb1.size))
  have hk2 := hk1.below hb2 hk1.lt
  have hjs0 : js 0 = p := by
    obtain ⟨q1, q2, q3⟩ := hjs 0 (by omega)
    rcases Nat.lt_or_ge (js 0) p with hq | hq
    · have := q3 (js 0) (Nat.le_refl _) hq _ (List.getElem?_eq_getElem (by omega))
      have := (HM2.out.now.tab.node (js 0) _ (List.getElem?_eq_getElem (by omega))).2.2.1
      omega
    · omega
  have hix := index_row (fun L => at_ T ns (js L))
  obtain ⟨b0, nb0, hh0, hat0, hc04, hc0L, hL0⟩ := HM2.out.now.tab.place (j := p) (L := 0) (by omega) (fun hp0 => ⟨ns[p - 1]'(by omega), List.getElem?_eq_getElem (by omega), (HM2.out.now.tab.node (p - 1) _ (List.getElem?_eq_getElem (by omega))).2.2.1⟩)
  rw [hjs0, hat0] at hix
  unfold ptr at hix
  have hL0' : (0 : Int) < (hh0 : Int) := by omega
  have hkc := hk2.c4
  have HK2 := Lib.hid hk2
  have hg2 : w.heap.size < w2.heap.size := hk2.lt
  clear hk1 hk2 hb1 hb2 hjs hjs0 hat0 HM HM1
  rcases hfst _ HB2.out with ⟨hpl, hnx⟩ | ⟨n, hn, hnx⟩
  · rw [hnx] at hc0L
    rw [hpl, List.getElem?_eq_none (Nat.le_refl _)] at HG
    clear hfst hnx hpl
    go_wp2_with fail
    have hk3 := (HK2.out.put4 (a' := .string ⟨#[]⟩) (b' := .int .i64 0) (c' := .bool false) (d' := .string ⟨#[]⟩)).c4
    refine bodyPost_ret (v := .tuple #[zeroE.agg, .bool false]) (by simp [results, Try.results10, go_sem, zeroE, Ent.agg, hk3]) rfl ⟨by rw [HG.out]; rfl, below_put4 HB2.out (Nat.le_refl _)⟩
  · rw [hnx] at hc0L
    rw [hn] at HG
    unfold ptr at hc0L
    have hent := HM2.out.now.tab.ent hn
    have HN := Lib.hid hn
    clear hfst hnx hn
    by_cases hke : n.e.key.toList = key.toList
    · rw [toList_inj hke] at hent
      have HG := Lib.hid (HG.out.trans (by simp [hke] : _ = some n.e))
      have HKE := Lib.hid (toList_inj hke)
      clear hke
      go_wp2_with fail
      have hk3 := (HK2.out.put4 (a' := .string key) (b' := .int .i64 n.e.seq) (c' := .bool n.e.del) (d' := .string n.e.val)).c4
      refine bodyPost_ret (v := .tuple #[n.e.agg, .bool true]) (by simp [results, Try.results10, go_sem, Ent.agg, hk3, HKE.out]) rfl ⟨by rw [HG.out]; rfl, below_put4 HB2.out (Nat.le_refl _)⟩
    · have hke' : (n.e.key.toList == key.toList) = false := by simpa using hke
      have hke2 : (n.e.key.toList != key.toList) = true := by simpa using hke
      have HG := Lib.hid (HG.out.trans (by simp [hke] : _ = none))
      go_wp2_with fail
      have hk3 := (HK2.out.put4 (a' := .string ⟨#[]⟩) (b' := .int .i64 0) (c' := .bool false) (d' := .string ⟨#[]⟩)).c4
      refine bodyPost_ret (v := .tuple #[zeroE.agg, .bool false]) (by simp [results, Try.results10, go_sem, zeroE, Ent.agg, hk3]) rfl ⟨by rw [HG.out]; rfl, below_put4 HB2.out (Nat.le_refl _)⟩

theorem stood_entry : Try.prog.stoodInHeld 28 = false := by kernel_rfl
theorem fields_entry : fieldRows Try.prog 28 = [(true, 9, 0), (true, 3, 1), (true, 4, 2), (true, 9, 3)] := by kernel_rfl
theorem ent_ext (a b : Ent) : (a = b) ↔ (a.key.toList = b.key.toList ∧ a.seq = b.seq ∧ a.del = b.del ∧ a.val.toList = b.val.toList) :=
  ⟨by rintro rfl; exact ⟨rfl, rfl, rfl, rfl⟩, fun ⟨h1, h2, h3, h4⟩ => by
    cases a; cases b
    simp only at h1 h2 h3 h4
    rw [toList_inj h1, h2, h3, toList_inj h4]⟩
theorem ent_equal (a b : Ent) (w : World) : (Op.equalIn 10000 28 a.agg b.agg).run Try.prog w = .ok (decide (a = b)) w := by
  have hd : decide (a = b) = (a.key.toList == b.key.toList && (a.seq == b.seq && (a.del == b.del && a.val.toList == b.val.toList))) := by
    rw [Bool.eq_iff_iff, decide_eq_true_iff, ent_ext]
    simp
  rw [hd]
  unfold Ent.agg
  rw [run_equal_rows w 9999 28 _ _ (by kernel_rfl) stood_entry fields_entry]
  simp only [eqRows]
  cases h1 : (a.key.toList == b.key.toList) <;> cases h2 : (a.seq == b.seq) <;> cases h3 : (a.del == b.del) <;> cases h4 : (a.val.toList == b.val.toList) <;>
    simp [go_sem, *]
theorem ent_neq (a b : Ent) (w : World) : (binOp .neq 28 a.agg b.agg).run Try.prog w = .ok (.bool (!decide (a = b))) w := run_neq_of (ent_equal a b w)
theorem ent_eql (a b : Ent) (w : World) : (binOp .eql 28 a.agg b.agg).run Try.prog w = .ok (.bool (decide (a = b))) w := run_eql_of (ent_equal a b w)
end Go.Proofs.Ytgcnodbinmgobaa
