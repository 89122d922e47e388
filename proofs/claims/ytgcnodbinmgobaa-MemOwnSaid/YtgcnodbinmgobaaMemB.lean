/- walk: ahead -/
import Derived.Test.YtgcnodbinmgobaaMemA
import Derived.WalkMore
namespace Go.Proofs.Ytgcnodbinmgobaa
open Go.RowKit

/-- The last place in front of p whose tower is higher than L (0: the head). -/
def IsLast (ns : List Nd) (p L j : Nat) : Prop := j ≤ p ∧ (0 < j → ∃ n, ns[j - 1]? = some n ∧ L < n.h) ∧ ∀ k, j ≤ k → k < p → ∀ n, ns[k]? = some n → n.h ≤ L

theorem Tab.place {w : World} {T hb : Nat} {ns : List Nd} {nx : Nat → Nat → Value} {cnt byt : Int} (h : Tab w T hb ns nx cnt byt) {j L : Nat} (hL : L < 12) (hj : 0 < j → ∃ n, ns[j - 1]? = some n ∧ L < n.h) :
    ∃ b nb hh, at_ T ns j = ptr b ∧ w.cell? ⟨b, 4, none⟩ = some (.slice (some ⟨nb, 0, none⟩) hh hh) ∧ w.cell? ⟨nb, L, none⟩ = some (nx j L) ∧ L < hh := by
  cases j with
  | zero => exact ⟨T, hb, 12, rfl, h.top.cell 4, (h.row0.cell L).trans (row_get _ _ _ hL), hL⟩
  | succ j =>
    obtain ⟨n, hn, hh⟩ := hj (by omega)
    rw [Nat.add_sub_cancel] at hn
    obtain ⟨h1, h2, _⟩ := h.node j n hn
    exact ⟨n.b, n.nb, n.h, by simp [at_, hn], h1.cell 4, (h2.cell L).trans (row_get _ _ _ hh), hh⟩
theorem Tab.ent {w : World} {T hb : Nat} {ns : List Nd} {nx : Nat → Nat → Value} {cnt byt : Int} (h : Tab w T hb ns nx cnt byt) {k : Nat} {n : Nd} (hn : ns[k]? = some n) :
    w.cell? ⟨n.b, 0, none⟩ = some (.string n.e.key) ∧ w.cell? ⟨n.b, 1, none⟩ = some (.int .i64 n.e.seq) ∧ w.cell? ⟨n.b, 2, none⟩ = some (.bool n.e.del) ∧ w.cell? ⟨n.b, 3, none⟩ = some (.string n.e.val) := by
  obtain ⟨h1, _⟩ := h.node k n hn
  exact ⟨h1.cell 0, h1.cell 1, h1.cell 2, h1.cell 3⟩
theorem nxv_cases (ns : List Nd) (j L : Nat) : (nxv ns j L = .pointer none ∧ ∀ k, j ≤ k → ∀ n, ns[k]? = some n → n.h ≤ L) ∨
    ∃ k n, j ≤ k ∧ ns[k]? = some n ∧ L < n.h ∧ nxv ns j L = ptr n.b ∧ ∀ i, j ≤ i → i < k → ∀ m, ns[i]? = some m → m.h ≤ L := by
  unfold nxv
  cases hf : (ns.drop j).find? (fun n => decide (L < n.h)) with
  | none =>
    left
    refine ⟨rfl, fun k hk n hn => ?_⟩
    have := List.find?_eq_none.1 hf n (by
      refine List.mem_of_getElem? (i := k - j) ?_
      rw [List.getElem?_drop, show j + (k - j) = k by omega]
      exact hn)
    simpa using this
  | some n =>
    right
    obtain ⟨h1, i, hi, e, h2⟩ := List.find?_eq_some_iff_getElem.1 hf
    rw [List.length_drop] at hi
    rw [List.getElem_drop] at e
    refine ⟨j + i, n, by omega, by rw [List.getElem?_eq_getElem (by omega), e], by simpa using h1, rfl, fun k hk hki m hm => ?_⟩
    have h3 := h2 (k - j) (by omega)
    rw [List.getElem_drop] at h3
    have e2 : ns[j + (k - j)]'(by omega) = m := by
      have := (List.getElem?_eq_some_iff.1 hm).2
      rw [← this]
      congr 1
      omega
    rw [e2] at h3
    simpa using h3

/-- Where a pointer's node stands: for the loop's measure. -/
def placeOf (ns : List Nd) (v : Value) : Nat := ns.findIdx fun n => match v with
  | .pointer (some a) => decide (a.block = n.b)
  | _ => false
theorem placeOf_some {w : World} {T hb : Nat} {ns : List Nd} {nx : Nat → Nat → Value} {cnt byt : Int} (h : Tab w T hb ns nx cnt byt) {k : Nat} {n : Nd} (hn : ns[k]? = some n) : placeOf ns (ptr n.b) = k := by
  obtain ⟨hk, e⟩ := List.getElem?_eq_some_iff.1 hn
  unfold placeOf ptr
  rw [List.findIdx_eq hk]
  refine ⟨by simp [e], fun i hi => ?_⟩
  have := (h.apart i _ k n (List.getElem?_eq_getElem (by omega)) hn (by omega)).1
  simpa using fun x => this x.symm
theorem placeOf_le (ns : List Nd) (v : Value) : placeOf ns v ≤ ns.length := List.findIdx_le_length
theorem placeOf_none (ns : List Nd) : placeOf ns (.pointer none) = ns.length := by
  unfold placeOf
  rw [List.findIdx_eq_length]
  simp

theorem nxv_place {w : World} {T hb : Nat} {ns : List Nd} {nx : Nat → Nat → Value} {cnt byt : Int} (h : Tab w T hb ns nx cnt byt) (j L : Nat) : min j ns.length ≤ placeOf ns (nxv ns j L) := by
  rcases nxv_cases ns j L with ⟨e, _⟩ | ⟨k, n, h1, h2, _, e, _⟩
  · rw [e, placeOf_none]; omega
  · rw [e, placeOf_some h h2]; omega
theorem at_ptr (T : Nat) (ns : List Nd) (j : Nat) : ∃ b, at_ T ns j = .pointer (some ⟨b, 0, none⟩) := by
  cases j with
  | zero => exact ⟨_, rfl⟩
  | succ j => exact ⟨_, rfl⟩
theorem Upd.setRow {S : Nat → Prop} {a w : World} (h : Upd S a w) {g : Nat} (hg : ∀ k, k = g → k < a.heap.size → S k) (cs : Array Value) : Upd S a (w.setRow g cs) :=
  ⟨h.os, h.tape, h.output, by simp; exact h.size, fun k hk hn => (setRow_other w g k cs (fun e => hn (hg k (by omega) hk))).trans (h.block k hk hn)⟩
theorem row_one (f : Nat → Value) (h : Nat) (hf : ∀ i, i < h → (f i).oneCell' = true) : (row f h).all (·.oneCell') = true := by
  rw [Array.all_eq_true]
  intro i hi
  have hi' : i < h := by rwa [row_size] at hi
  have e := row_get f h i hi'
  rw [Array.getElem?_eq_getElem hi] at e
  injection e with e
  rw [e]
  exact hf i hi'
def outs (T : Nat) (ns : List Nd) (js : Nat → Nat) (L : Nat) (i : Nat) : Value := if L ≤ i then at_ T ns (js i) else .pointer none

theorem outs_one (T : Nat) (ns : List Nd) (js : Nat → Nat) : (row (outs T ns js 0) 12).all (·.oneCell') = true := row_one _ _ fun i _ => by
  obtain ⟨b, hb⟩ := at_ptr T ns (js i)
  unfold outs
  rw [if_pos (by omega), hb]
  rfl

set_option maxRecDepth 100000 in
set_option maxHeartbeats 4000000 in
theorem ahead_any (T hb : Nat) (ns : List Nd) (cnt byt : Int) (key : ByteArray) (s : Int) (p : Nat) (w : World) (h : Tab w T hb ns (nxv ns) cnt byt)
    (hlt : ∀ k n, ns[k]? = some n → k < p → bfor n.e key s = true) (hge : ∀ k n, ns[k]? = some n → p ≤ k → bfor n.e key s = false) :
    Calls Try.prog 17 #[ptr T, .string key, .int .i64 s] w fun e w' => ∃ js : Nat → Nat, (∀ L, L < 12 → IsLast ns p L (js L)) ∧ e = .returned (.agg (row (fun L => at_ T ns (js L)) 12)) ∧ Below w.heap.size w w' := by
  have HT := Lib.hid h.keeps
  have HLT := Lib.hid hlt
  have HGE := Lib.hid hge
  clear h hlt hge
  unfold ptr
  go_enter Try.func17, Try.ntmps17
  go_wp2_with fail
  go_step3
  go_wp2_with fail
  go_step3
  go_wp2_with fail
  obtain ⟨w2, hw2⟩ : ∃ v, v = (w.alloc (.cells #[.pointer none, .pointer none, .pointer none, .pointer none, .pointer none, .pointer none, .pointer none, .pointer none, .pointer none, .pointer none, .pointer none, .pointer none] 55)).alloc (.cells #[.pointer none, .pointer none, .pointer none, .pointer none, .pointer none, .pointer none, .pointer none, .pointer none, .pointer none, .pointer none, .pointer none, .pointer none] 55) := ⟨_, rfl⟩
  rw [← hw2]
  have hb2 : Below w.heap.size w w2 := by rw [hw2]; exact ((Below.refl w.heap.size w).alloc (Nat.le_refl _) _).alloc (by simp) _
  have hr1 : Blk w2 w.heap.size 55 (row (fun _ => .pointer none) 12) := by rw [hw2]; exact (Blk.new w _ _).alloc _
  have hr2 : Blk w2 (w.heap.size + 1) 55 (row (fun _ => .pointer none) 12) := by rw [hw2]; exact Blk.new_ (by simp) _ _
  have hsz2 : w2.heap.size = w.heap.size + 2 := by rw [hw2]; simp
  clear hw2
  have HT2 := Lib.hid (HT.out.on hb2)
  have hft := HT.out.now.foot_lt
  obtain ⟨g, hg⟩ : ∃ g, g = w.heap.size := ⟨_, rfl⟩
  rw [← hg] at hr1 hr2 hft ⊢
  have HF := Lib.hid hft
  have hsz : w2.heap.size = g + 2 := by rw [hg]; exact hsz2
  have HG := Lib.hid hg
  have HB2 := Lib.hid hb2
  have HR1 := Lib.hid hr1
  have HR2 := Lib.hid hr2
  clear hb2 hr1 hr2 hg HT hsz2 hft
  go_loopw [8, 9] (fun av lv wr => ∃ (L : Nat) (js : Nat → Nat) (j : Nat), lv = .int .i64 L ∧ L < 12 ∧ av = at_ T ns j ∧ j ≤ p ∧ (0 < j → ∃ n, ns[j - 1]? = some n ∧ L < n.h) ∧ (∀ i, L < i → i < 12 → IsLast ns p i (js i)) ∧
    Upd (fun k => k = g + 1) w2 wr ∧ Blk wr (g + 1) 55 (row (outs T ns js (L + 1)) 12)) (fun _ lv _ => (intOf lv).toNat)
  case atStart => exact ⟨11, fun _ => 0, 0, rfl, by omega, rfl, by omega, fun h => absurd h (by omega), fun i h1 h2 => by omega, Upd.refl _ _, by
    have e : row (fun _ => Value.pointer none) 12 = row (outs T ns (fun _ => 0) 12) 12 := row_congr fun i hi => by unfold outs; rw [if_neg (by omega)]
    rw [← e]; exact HR2.out⟩
  case round =>
    obtain ⟨L, js, j, rfl, hL, rfl, hjp, hjn, hjs, hu, hr⟩ := hrel
    have HJ := Lib.hid hjs
    have HU := Lib.hid hu
    have HR := Lib.hid hr
    have htab := HT2.out.now.upd hu (fun k hk hS => by have := HF.out k hk; omega)
    have hzr := hu.size
    obtain ⟨b, nb, hh, hat, hc4, hcL, hLh⟩ := htab.place hL hjn
    have HAT := Lib.hid hat
    have HTB := Lib.hid htab.keeps
    rw [hat]
    unfold ptr at *
    have hL0 : (0 : Int) ≤ (L : Int) := by omega
    have hLh' : (L : Int) < (hh : Int) := by omega
    clear hjs hu hr htab hat
    go_wp2_with fail
    go_loopw [8, 10] (fun av nv wi => ∃ (j : Nat), av = at_ T ns j ∧ nv = nxv ns j L ∧ j ≤ p ∧ (0 < j → ∃ n, ns[j - 1]? = some n ∧ L < n.h) ∧ Below wr.heap.size wr wi) (fun _ nv _ => ns.length - placeOf ns nv)
    case atStart => exact ⟨j, HAT.out.symm, rfl, hjp, hjn, Below.refl _ _⟩
    case round =>
      clear hc4 hcL hLh hLh' hjp hjn HAT
      obtain ⟨j, rfl, rfl, hjp, hjn, hb⟩ := hrel
      have HB := Lib.hid hb
      clear hb
      obtain ⟨w3, hw3⟩ : ∃ v, v = wr := ⟨_, rfl⟩
      rw [← hw3] at HB ⊢
      clear hw3
      rcases nxv_cases ns j L with ⟨hnx, hno⟩ | ⟨k, n, hjk, hn, hLn, hnx, hno⟩
      · rw [hnx]
        have hlast : IsLast ns p L j := ⟨hjp, hjn, fun k h1 _ n hn => hno k h1 n hn⟩
        clear hnx hno
        obtain ⟨b', hb'⟩ := at_ptr T ns j
        rw [hb']
        have hrw := HR.out.below HB.out (by omega)
        have hcell := (hrw.cell L).trans (row_get _ _ _ hL)
        have hfz := hrw.frozen L
        have hr1w := (HR1.out.upd HU.out (by omega)).below HB.out (by omega)
        have hU3 := HU.out.trans (Upd.of_below HB.out) (fun i hi x => by omega)
        obtain ⟨js', hj1, hj2⟩ : ∃ f : Nat → Nat, f L = j ∧ ∀ i, i ≠ L → f i = js i := ⟨fun i => if i = L then j else js i, if_pos rfl, fun i h => if_neg h⟩
        have hrow : (row (outs T ns js (L + 1)) 12).setIfInBounds L (.pointer (some ⟨b', 0, none⟩)) = row (outs T ns js' L) 12 := by
          rw [row_set, ← hb']
          refine row_congr fun i hi => ?_
          unfold outs
          by_cases e : i = L
          · rw [if_pos e, if_pos (by omega), e, hj1]
          · rw [if_neg e]
            by_cases e2 : L + 1 ≤ i
            · rw [if_pos e2, if_pos (by omega), hj2 i e]
            · rw [if_neg e2, if_neg (by omega)]
        have hall : ∀ i, L ≤ i → i < 12 → IsLast ns p i (js' i) := by
          intro i h1 h2
          by_cases e : i = L
          · rw [e, hj1]; exact hlast
          · rw [hj2 i e]; exact HJ.out i (by omega) h2
        have hrset := hrw.set_ L (.pointer (some ⟨b', 0, none⟩))
        rw [hrow] at hrset
        have HRS := Lib.hid hrset
        have HALL := Lib.hid hall
        have HR1W := Lib.hid hr1w
        have HU3 := Lib.hid (hU3.setCell (p := ⟨g + 1, L, none⟩) (fun _ => rfl) (.pointer (some ⟨b', 0, none⟩)))
        have HBP := Lib.hid hb'
        clear hrw hr1w hU3 hrow hall hlast hrset hb' hj1 hj2
        by_cases hL0' : L = 0
        · subst hL0'
          go_wp2_with (refine wpList_load_row rfl 55 (.tmp 7) rfl (g + 1) rfl 55 _ (0, 0) _ HRS.out Try.underlying55 rfl (by rw [row_size]; kernel_rfl) (halt_ ?_))
          refine unhalt ?_
          have h0 := HR1W.out.far (p := ⟨g + 1, 0, none⟩) (by show g ≠ g + 1; omega) (.pointer (some ⟨b', 0, none⟩))
          refine wpList_store_row rfl 55 (.tmp 6) (.tmp 47) rfl g _ rfl rfl 55 _ h0 (by rw [row_size]; kernel_rfl) (by rw [row_size, row_size]) (outs_one _ _ _) ?_
          go_wp2_with fail
          rw [Exit.noGoto_ret]
          refine bodyPost_ret (results_cell_row rfl _ _ g 55 _ (0, 0) _ rfl (setRow_heap _ g _ _ _ _ h0) Try.underlying55 rfl (by rw [row_size]; kernel_rfl)) rfl ⟨js', fun i hi => HALL.out i (by omega) hi, ?_, ?_⟩
          · rw [row_congr (f := outs T ns js' 0) (g := fun L => at_ T ns (js' L)) (fun i _ => by unfold outs; rw [if_pos (by omega)])]
          · exact HB2.out.trans (((HU3.out.mono (S' := fun k => g ≤ k) (fun k _ h => by show g ≤ k; omega)).setRow (g := g) (fun k h _ => by show g ≤ k; omega) _).to_below HB2.out.size (fun k h1 h2 => by have := HG.out; omega))
        · have hLi : ¬ (L : Int) = 0 := by omega
          go_wp2_with fail
          go_roundw
          case rel => exact ⟨L - 1, js', j, by go_num, by omega, HBP.out.symm, hjp, fun h => by obtain ⟨n, h1, h2⟩ := hjn h; exact ⟨n, h1, by omega⟩, fun i h1 h2 => HALL.out i (by omega) h2, HU3.out, by rw [show L - 1 + 1 = L by omega]; exact HRS.out⟩
          case measure => simp [intOf]; omega
      · have hentk := fun w' (hb : Below w3.heap.size w3 w') => (HTB.out.at_ (HB.out.trans (hb.mono HB.out.size))).ent hn
        have hent := hentk w3 (Below.refl _ _)
        rw [hnx]
        unfold ptr
        have HNO := Lib.hid hno
        have HN := Lib.hid hn
        have HNX := Lib.hid hnx
        clear hentk hno hnx hn
        go_wp2_with fail
        refine (before_any n.e key s w3).mono ?_
        rintro e w4 ⟨rfl, hb⟩
        clear hent
        have HB4 := Lib.hid (HB.out.trans (hb.mono HB.out.size))
        clear hb
        by_cases hkp : k < p
        · rw [HLT.out k n HN.out hkp]
          obtain ⟨b2, nb2, hh2, hat2, hc42, hcL2, hLh2⟩ := (HTB.out.at_ HB4.out).place (j := k + 1) hL (fun _ => ⟨n, HN.out, hLn⟩)
          have hb2 : b2 = n.b := by
            have hnn := HN.out
            simp [at_, hnn, ptr] at hat2
            exact hat2.symm
          subst hb2
          have HAT2 := Lib.hid hat2
          have hLh3 : (L : Int) < (hh2 : Int) := by omega
          clear hat2
          go_wp2_with fail
          go_roundw
          case rel => exact ⟨k + 1, HAT2.out.symm, rfl, by omega, fun _ => ⟨n, HN.out, hLn⟩, HB4.out⟩
          case measure =>
            have h1 := placeOf_some HTB.out.now HN.out
            have h2 := nxv_place HTB.out.now (k + 1) L
            have h3 := (List.getElem?_eq_some_iff.1 HN.out).1
            unfold ptr at h1
            rw [h1]
            omega
        · rw [HGE.out k n HN.out (by omega)]
          have hlast : IsLast ns p L j := ⟨hjp, hjn, fun i h1 h2 m hm => HNO.out i h1 (by omega) m hm⟩
          clear HNO HN HNX hLn hjk
          obtain ⟨b', hb'⟩ := at_ptr T ns j
          rw [hb']
          have hrw := HR.out.below HB4.out (by omega)
          have hcell := (hrw.cell L).trans (row_get _ _ _ hL)
          have hfz := hrw.frozen L
          have hr1w := (HR1.out.upd HU.out (by omega)).below HB4.out (by omega)
          have hU3 := HU.out.trans (Upd.of_below HB4.out) (fun i hi x => by omega)
          obtain ⟨js', hj1, hj2⟩ : ∃ f : Nat → Nat, f L = j ∧ ∀ i, i ≠ L → f i = js i := ⟨fun i => if i = L then j else js i, if_pos rfl, fun i h => if_neg h⟩
          have hrow : (row (outs T ns js (L + 1)) 12).setIfInBounds L (.pointer (some ⟨b', 0, none⟩)) = row (outs T ns js' L) 12 := by
            rw [row_set, ← hb']
            refine row_congr fun i hi => ?_
            unfold outs
            by_cases e : i = L
            · rw [if_pos e, if_pos (by omega), e, hj1]
            · rw [if_neg e]
              by_cases e2 : L + 1 ≤ i
              · rw [if_pos e2, if_pos (by omega), hj2 i e]
              · rw [if_neg e2, if_neg (by omega)]
          have hall : ∀ i, L ≤ i → i < 12 → IsLast ns p i (js' i) := by
            intro i h1 h2
            by_cases e : i = L
            · rw [e, hj1]; exact hlast
            · rw [hj2 i e]; exact HJ.out i (by omega) h2
          have hrset := hrw.set_ L (.pointer (some ⟨b', 0, none⟩))
          rw [hrow] at hrset
          have HRS := Lib.hid hrset
          have HALL := Lib.hid hall
          have HR1W := Lib.hid hr1w
          have HU3 := Lib.hid (hU3.setCell (p := ⟨g + 1, L, none⟩) (fun _ => rfl) (.pointer (some ⟨b', 0, none⟩)))
          have HBP := Lib.hid hb'
          clear hrw hr1w hU3 hrow hall hlast hrset hb' hj1 hj2
          by_cases hL0' : L = 0
          · subst hL0'
            go_wp2_with (refine wpList_load_row rfl 55 (.tmp 7) rfl (g + 1) rfl 55 _ (0, 0) _ HRS.out Try.underlying55 rfl (by rw [row_size]; kernel_rfl) (halt_ ?_))
            refine unhalt ?_
            have h0 := HR1W.out.far (p := ⟨g + 1, 0, none⟩) (by show g ≠ g + 1; omega) (.pointer (some ⟨b', 0, none⟩))
            refine wpList_store_row rfl 55 (.tmp 6) (.tmp 47) rfl g _ rfl rfl 55 _ h0 (by rw [row_size]; kernel_rfl) (by rw [row_size, row_size]) (outs_one _ _ _) ?_
            go_wp2_with fail
            rw [Exit.noGoto_ret]
            refine bodyPost_ret (results_cell_row rfl _ _ g 55 _ (0, 0) _ rfl (setRow_heap _ g _ _ _ _ h0) Try.underlying55 rfl (by rw [row_size]; kernel_rfl)) rfl ⟨js', fun i hi => HALL.out i (by omega) hi, ?_, ?_⟩
            · rw [row_congr (f := outs T ns js' 0) (g := fun L => at_ T ns (js' L)) (fun i _ => by unfold outs; rw [if_pos (by omega)])]
            · exact HB2.out.trans (((HU3.out.mono (S' := fun k => g ≤ k) (fun k _ h => by show g ≤ k; omega)).setRow (g := g) (fun k h _ => by show g ≤ k; omega) _).to_below HB2.out.size (fun k h1 h2 => by have := HG.out; omega))
          · have hLi : ¬ (L : Int) = 0 := by omega
            go_wp2_with fail
            go_roundw
            case rel => exact ⟨L - 1, js', j, by go_num, by omega, HBP.out.symm, hjp, fun h => by obtain ⟨n, h1, h2⟩ := hjn h; exact ⟨n, h1, by omega⟩, fun i h1 h2 => HALL.out i (by omega) h2, HU3.out, by rw [show L - 1 + 1 = L by omega]; exact HRS.out⟩
            case measure => simp [intOf]; omega
end Go.Proofs.Ytgcnodbinmgobaa
