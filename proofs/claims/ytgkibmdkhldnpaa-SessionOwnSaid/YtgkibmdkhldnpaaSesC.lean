/- walks of session: List -/
import Derived.Test.YtgkibmdkhldnpaaSesB
namespace Go.Proofs.Ytgkibmdkhldnpaa
open Go.RowKit

/-- An entry of a list of registrations. -/
structure RegV where
  rob : Int
  ep : Int
  st : Int
  ra : Option Addr
  rn : Nat
  rc : Nat
def RegV.cells (x : RegV) : List Value := [.int .i64 x.rob, .int .i64 x.ep, .int .i64 x.st, .slice x.ra x.rn x.rc]
/-- What an entry says, but for where its cells lie. -/
def RegV.says (x : RegV) : Int × Int × Int × Nat := (x.rob, x.ep, x.st, x.rn)
/-- What the first k robots' entries say. -/
def listed (f : Nat → Rob) (k : Nat) : List (Int × Int × Int × Nat) := ((List.range k).filter fun r => decide ((f r).ep ≠ 0)).map fun (r : Nat) => ((r : Int), (f r).ep, (f r).st, (f r).rn)
theorem listed_yes (f : Nat → Rob) (k : Nat) (h : (f k).ep ≠ 0) : listed f (k + 1) = listed f k ++ [((k : Int), (f k).ep, (f k).st, (f k).rn)] := by
  simp [listed, List.range_succ, List.filter_append, h]
theorem listed_no (f : Nat → Rob) (k : Nat) (h : (f k).ep = 0) : listed f (k + 1) = listed f k := by
  simp [listed, List.range_succ, List.filter_append, h]

/-- The table with what its routes hold. -/
def TabC (w : World) (g : Nat) (f : Nat → Rob) (X : Nat → List Value) : Prop :=
  Tab w g f ∧ ∀ r, r < 16 → Reads w w.heap.size 1 (f r).ra (f r).rn (X r) ∧ (∀ u ∈ X r, u.oneCell' = true) ∧ (f r).rn ≤ 1048576

theorem elem_reg : Elem Try.prog 40 47 4 48 := elem_of (by kernel_rfl)
theorem zero_robot (w : World) : (zeroValue 52).run Try.prog w = .ok (.agg #[.int .i64 0, .int .i64 0, .int .i64 0, .slice none 0 0, .bool false, .int .i64 0, .int .i64 0]) w := by kernel_rfl
theorem extract_tab (f : Nat → Rob) (k : Nat) (hk : k < 16) : (tabCells f).extract (k * 7) (k * 7 + 7) = #[.int .i64 (f k).ep, .int .i64 (f k).dl, .int .i64 (f k).st, .slice (f k).ra (f k).rn (f k).rc, .bool (f k).told, .int .i64 (f k).cell, .int .i64 (f k).tick] := by
  apply Array.ext
  · simp [tabCells_size]; omega
  · intro i h1 h2
    have hi : i < 7 := by simpa using h2
    rw [Array.getElem_extract]
    have := tabCells_get f k i hk hi
    rw [Array.getElem?_eq_getElem (by rw [tabCells_size]; omega)] at this
    have := Option.some.inj this
    rw [this]
    rcases i with _ | _ | _ | _ | _ | _ | _ | i <;> first | rfl | omega
theorem index_tab (f : Nat → Rob) (k : Nat) (hk : k < 16) (w : World) : (Instr.index 53 (.agg (tabCells f)) (.int .i64 (k : Int))).run Try.prog w =
    .ok (.agg #[.int .i64 (f k).ep, .int .i64 (f k).dl, .int .i64 (f k).st, .slice (f k).ra (f k).rn (f k).rc, .bool (f k).told, .int .i64 (f k).cell, .int .i64 (f k).tick]) w := by
  rw [run_index_agg (size := 7) Try.underlying53 Try.underlying52 (by kernel_rfl) _ (by omega) (by omega), Int.toNat_natCast, extract_tab f k hk]

/-- Behind k robots. -/
def ListInv (w : World) (B : Nat) (f : Nat → Rob) (X : Nat → List Value) (k : Nat) (A : Option Addr) (c : Nat) (L : List RegV) : Prop :=
  Own w B 47 4 A L.length c (L.flatMap RegV.cells) ∧ L.map RegV.says = listed f k ∧ ∀ x ∈ L, Own w B 3 1 x.ra x.rn x.rc (X x.rob.toNat)

theorem listed_le {f : Nat → Rob} {k : Nat} {L : List RegV} (h : L.map RegV.says = listed f k) : L.length ≤ k := by
  have := congrArg List.length h
  simp only [List.length_map, listed] at this
  rw [this]
  exact Nat.le_trans (List.length_filter_le _ _) (by simp)

set_option maxHeartbeats 1000000 in
theorem list_any (g : Nat) (f : Nat → Rob) (X : Nat → List Value) (w : World) (ht : TabC w g f X) :
    Calls Try.prog 13 #[.pointer (some ⟨g, 0, none⟩)] w fun e w' => ∃ A c L, e = .returned (.slice A (List.length L) c) ∧ ListInv w' w.heap.size f X 16 A c L ∧ Below w.heap.size w w' := by
  obtain ⟨htab, hX⟩ := ht
  have HT := Lib.hid htab
  have HX := Lib.hid hX
  clear htab hX
  have hz := zero_robot
  go_enter Try.func13, Try.ntmps13
  go_wp2_with (refine wpList_load_row rfl 53 _ rfl g rfl _ _ (0, 0) _ HT.out Try.underlying53 rfl (by kernel_rfl) ?_)
  go_loopw [3, 10] (fun lv iv wr => ∃ (k : Nat) (A : Option Addr) (c : Nat) (L : List RegV), iv = .int .i64 k ∧ k ≤ 16 ∧ lv = .slice A (List.length L) c ∧ ListInv wr w.heap.size f X k A c L ∧ Below w.heap.size w wr) (fun _ iv _ => 16 - (intOf iv).toNat)
  case atStart => exact ⟨0, none, 0, [], rfl, by omega, rfl, ⟨Own.nil_ _ _ _ _, rfl, by simp⟩, Below.refl _ _⟩
  case round =>
    obtain ⟨k, A, c, L, rfl, hk, rfl, hinv, hbr⟩ := hrel
    have HI := Lib.hid hinv
    clear hinv
    by_cases hlt : k < 16
    · have hidx := index_tab f k hlt
      by_cases he : (f k).ep = 0
      · have he' : ((f k).ep != 0) = false := by simp [he]
        go_wp2_with fail
        go_roundw
        case rel => exact ⟨k + 1, A, c, L, by go_num, by omega, rfl, ⟨HI.out.1.alloc _, by rw [listed_no f k he]; exact HI.out.2.1, fun x hx => (HI.out.2.2 x hx).alloc _⟩, hbr.alloc hbr.size _⟩
        case measure => simp [intOf]; omega
      · have he' : ((f k).ep != 0) = true := by simp [he]
        obtain ⟨hrd, h1, hn⟩ := HX.out k hlt
        have HR := Lib.hid hrd
        have H1 := Lib.hid h1
        clear hrd h1
        have hL := listed_le HI.out.2.1
        have hwr := hbr.size
        have hne : blockOf A ≠ some wr.heap.size := fun e => by have := HI.out.1.ge _ e; omega
        have hb0 := Blk.new wr 52 #[.int .i64 (f k).ep, .int .i64 (f k).dl, .int .i64 (f k).st, .slice (f k).ra (f k).rn (f k).rc, .bool (f k).told, .int .i64 (f k).cell, .int .i64 (f k).tick]
        go_wp2_with fail
        go_region_held3 (fun w' => w'.cell? ⟨wr.heap.size, 0, none⟩ = some (.int .i64 (f k).ep) ∧ w'.cell? ⟨wr.heap.size, 2, none⟩ = some (.int .i64 (f k).st) ∧ w'.cell? ⟨wr.heap.size, 3, none⟩ = some (.slice (f k).ra (f k).rn (f k).rc))
          (first | go_keep | exact ⟨q0, q2, q3⟩ | exact ⟨k0, k2, k3⟩)
          (first
            | ((go_at_call 21; refine (own_any _ _ _ _ (X k) _ ?_ H1.out (by omega)).mono ?_; exact ((HR.out.below hbr).alloc hbr.size _).more (by simp; omega); rintro e w1 ⟨A', c', rfl, ho, hb⟩; have b1 := Blk.below (Blk.drew hb0) hb (by simp); obtain ⟨k0, -, k2, k3, -⟩ := b1.c7; have hs1 : wr.heap.size + 1 ≤ w1.heap.size := (by simpa using hb.size)))
            | ((refine step_app elem_reg ((((HI.out.1.alloc _).drew).below hb (by simp)).alloc _) (reads_new (cs := #[.int .i64 (k : Int), .int .i64 (f k).ep, .int .i64 (f k).st, .slice A' (f k).rn c']) w1 47 1 rfl) (by simp [Value.oneCell']) (by omega) (by simp; omega) _ _ (by rfl) (by rfl) (by rfl) (by rfl) ?_; intro A2 c2 w2 ho2 hu2 hat2; have b2 := (b1.alloc _).upd hu2 hne; obtain ⟨q0, -, q2, q3, -⟩ := b2.c7)))
        go_wp2_with fail
        have hbz : Below w.heap.size w w2 := ((((hbr.alloc hbr.size _).drew).trans (hb.mono (by simp; omega))).alloc (by omega) _).trans (hu2.to_below (by simp; omega) (fun i hi e => by have := HI.out.1.ge _ e; omega))
        have hown2 : ListInv w2 w.heap.size f X (k + 1) A2 c2 (L ++ [⟨k, (f k).ep, (f k).st, A', (f k).rn, c'⟩]) := by
          refine ⟨?_, ?_, ?_⟩
          · rw [List.flatMap_append, List.length_append]
            exact ho2
          · rw [listed_yes f k he, List.map_append, HI.out.2.1]
            rfl
          · intro x hx
            rcases List.mem_append.1 hx with hx | hx
            · exact ((((HI.out.2.2 x hx).alloc _).drew.below hb (by simp)).alloc _).upd hu2 (fun i hi e => HI.out.1.apart (HI.out.2.2 x hx) (by decide) i e hi)
            · simp only [List.mem_singleton] at hx
              subst hx
              exact ((ho.mono (by simp; omega)).alloc _).upd hu2 (fun i hi e => by have h1 := ho.ge _ hi; have h2 := HI.out.1.ge _ e; simp at h1; omega)
        go_roundw
        case rel => exact ⟨k + 1, A2, c2, _, by go_num, by omega, by simp, hown2, hbz⟩
        case measure => simp [intOf]; omega
    · go_wp2_with fail
      go_ret
      obtain rfl : k = 16 := by omega
      exact ⟨A, c, L, rfl, HI.out, hbr⟩
theorem flat_get (L : List RegV) (k j : Nat) (hj : j < 4) : (L.flatMap RegV.cells)[k * 4 + j]? = (L[k]?).bind fun x => x.cells[j]? := by
  induction L generalizing k with
  | nil => simp
  | cons x L ih =>
    rw [List.flatMap_cons]
    cases k with
    | zero =>
      rw [List.getElem?_append_left (by simp [RegV.cells]; omega)]
      simp
    | succ k =>
      rw [List.getElem?_append_right (by simp [RegV.cells]; omega)]
      have : (k + 1) * 4 + j - x.cells.length = k * 4 + j := by simp [RegV.cells]; omega
      rw [this, ih]
      simp

/-- Behind the entries of the robots in D. -/
def LoadInv (w : World) (g B : Nat) (f : Nat → Rob) (X : Nat → List Value) (now : Int) (D : Nat → Prop) (F : Nat → Rob) : Prop :=
  Tab w g F ∧ ∀ r, r < 16 → (D r → (F r).ep = (f r).ep ∧ (F r).dl = untilS now ∧ (F r).st = (f r).st ∧ (F r).rn = (f r).rn ∧ Own w B 3 1 (F r).ra (F r).rn (F r).rc (X r)) ∧ (¬ D r → F r = Rob.zero)

theorem listed_mem {f : Nat → Rob} {L : List RegV} (h : L.map RegV.says = listed f 16) {x : RegV} (hx : x ∈ L) : ∃ r : Nat, r < 16 ∧ x.rob = r ∧ x.ep = (f r).ep ∧ x.st = (f r).st ∧ x.rn = (f r).rn ∧ (f r).ep ≠ 0 := by
  have hm : x.says ∈ listed f 16 := by rw [← h]; exact List.mem_map_of_mem hx
  simp only [listed, List.mem_map, List.mem_filter, List.mem_range, decide_eq_true_eq] at hm
  obtain ⟨r, ⟨hr, he⟩, e⟩ := hm
  simp only [RegV.says, Prod.mk.injEq] at e
  exact ⟨r, hr, e.1.symm, e.2.1.symm, e.2.2.1.symm, e.2.2.2.symm, he⟩
theorem listed_all {f : Nat → Rob} {L : List RegV} (h : L.map RegV.says = listed f 16) {r : Nat} (hr : r < 16) (he : (f r).ep ≠ 0) : ∃ x ∈ L, x.rob = r := by
  have hm : ((r : Int), (f r).ep, (f r).st, (f r).rn) ∈ L.map RegV.says := by
    rw [h]
    simp only [listed, List.mem_map, List.mem_filter, List.mem_range, decide_eq_true_eq]
    exact ⟨r, ⟨hr, he⟩, rfl⟩
  obtain ⟨x, hx, e⟩ := List.mem_map.1 hm
  simp only [RegV.says, Prod.mk.injEq] at e
  exact ⟨x, hx, e.1⟩
theorem listed_nodup {f : Nat → Rob} {L : List RegV} (h : L.map RegV.says = listed f 16) : (L.map RegV.rob).Nodup := by
  have e : L.map RegV.rob = (L.map RegV.says).map (·.1) := by rw [List.map_map]; rfl
  rw [e, h]
  simp only [listed, List.map_map]
  have h0 : List.Pairwise (fun a b : Nat => a ≠ b) (List.range 16) := List.nodup_range
  exact List.Pairwise.map _ (fun a b hab e => hab (by dsimp only [Function.comp] at e; omega)) (List.Pairwise.filter _ h0)

theorem nodup_take {L : List RegV} (h : (L.map RegV.rob).Nodup) {k : Nat} (hk : k < L.length) {x : RegV} (hx : x ∈ L.take k) : x.rob ≠ (L[k]).rob := by
  obtain ⟨i, hi, rfl⟩ := List.mem_iff_getElem.1 hx
  simp only [List.length_take] at hi
  have := (List.pairwise_iff_getElem.1 h) i k (by simp; omega) (by simpa using hk) (by omega)
  simpa using this

set_option maxHeartbeats 2000000 in
theorem load_any (f : Nat → Rob) (X : Nat → List Value) (B : Nat) (A : Option Addr) (c : Nat) (L : List RegV) (now : Int) (w : World) (hnow : -9223372036854775808 ≤ now) (hl : ListInv w B f X 16 A c L)
    (hf : ∀ r, r < 16 → 0 ≤ (f r).ep ∧ (f r).rn ≤ 1048576 ∧ ∀ u ∈ X r, u.oneCell' = true) :
    Calls Try.prog 12 #[.slice A L.length c, .int .i64 now] w fun e w' => ∃ g F, e = .returned (.tuple #[.pointer (some ⟨g, 0, none⟩), .int .i64 0]) ∧ w.heap.size ≤ g ∧ LoadInv w' g w.heap.size f X now (fun r => (f r).ep ≠ 0) F ∧ Below w.heap.size w w' := by
  have HL := Lib.hid hl
  have HF := Lib.hid hf
  clear hl hf
  have hL := listed_le HL.out.2.1
  go_enter Try.func12, Try.ntmps12
  go_wp2_with fail
  refine (new_any _).mono ?_
  rintro e w1 ⟨rfl, ht1, hb1⟩
  have HT1 := Lib.hid ht1
  clear ht1
  go_wp2_with fail
  go_loopw [7, 13] (fun cv iv wr => ∃ (k : Nat) (F : Nat → Rob), iv = .int .i64 k ∧ k ≤ L.length ∧ cv = .int .i64 0 ∧ LoadInv wr w.heap.size w.heap.size f X now (fun r => ∃ x ∈ L.take k, x.rob = r) F ∧ Below w.heap.size w wr) (fun _ iv _ => L.length - (intOf iv).toNat)
  case atStart => exact ⟨0, fun _ => Rob.zero, rfl, by omega, rfl, ⟨HT1.out, fun r _ => ⟨fun ⟨x, hx, _⟩ => by simp at hx, fun _ => rfl⟩⟩, hb1⟩
  case round =>
    obtain ⟨k, F, rfl, hk, rfl, hinv, hbr⟩ := hrel
    have HI := Lib.hid hinv
    clear hinv
    by_cases hlt : k < L.length
    · obtain ⟨x, hx⟩ : ∃ x, x = L[k] := ⟨_, rfl⟩
      obtain ⟨r, hr, e1, e2, e3, e4, e5⟩ := listed_mem HL.out.2.1 (List.getElem_mem hlt)
      rw [← hx] at e1 e2 e3 e4
      have hnd : ¬ ∃ y ∈ L.take k, y.rob = r := fun ⟨y, hy, e⟩ => nodup_take (listed_nodup HL.out.2.1) hlt hy (by rw [e, ← hx, e1])
      have hzero := (HI.out.2 r hr).2 hnd
      obtain ⟨hep, hrn, hone⟩ := HF.out r hr
      have hown := HL.out.2.2 x (by rw [hx]; exact List.getElem_mem hlt)
      rw [e1, Int.toNat_natCast] at hown
      have HO := Lib.hid hown
      have hrd : Reads w w.heap.size 1 x.ra (f r).rn (X r) := by rw [← e4]; exact hown.reads
      have HR := Lib.hid hrd
      clear hrd
      have H1 := Lib.hid hone
      clear hown hone
      have hlen : L.length ≤ 16 := hL
      obtain ⟨gA, rfl, hA1, hA2, _, _⟩ := HL.out.1.some_ (by omega)
      have hget : ∀ j (hj : j < 4), wr.cell? ⟨gA, k * 4 + j, none⟩ = x.cells[j]? := by
        intro j hj
        have h1 := flat_get L k j hj
        rw [List.getElem?_eq_getElem hlt, ← hx] at h1
        simp only [Option.bind_some] at h1
        obtain ⟨v, hv⟩ : ∃ v, x.cells[j]? = some v := ⟨_, List.getElem?_eq_getElem (by simpa [RegV.cells] using hj)⟩
        rw [hv] at h1 ⊢
        exact (hbr.cell (p := ⟨gA, k * 4 + j, none⟩) hA2).trans (HL.out.1.cell rfl h1)
      have g0 : wr.cell? ⟨gA, k * 4, none⟩ = some (.int .i64 r) := (hget 0 (by omega)).trans (by simp [RegV.cells, e1])
      have g1 : wr.cell? ⟨gA, k * 4 + 1, none⟩ = some (.int .i64 (f r).ep) := (hget 1 (by omega)).trans (by simp [RegV.cells, e2])
      have g2 : wr.cell? ⟨gA, k * 4 + 2, none⟩ = some (.int .i64 (f r).st) := (hget 2 (by omega)).trans (by simp [RegV.cells, e3])
      have g3 : wr.cell? ⟨gA, k * 4 + 3, none⟩ = some (.slice x.ra (f r).rn x.rc) := (hget 3 (by omega)).trans (by simp [RegV.cells, e4])
      have HE4 := Lib.hid e4
      have HE5 := Lib.hid e5
      have HE1 := Lib.hid e1
      have HX := Lib.hid hx
      clear hget e1 e2 e3 e4 e5 hx
      have hep1 : 1 ≤ (f r).ep := by have := HE5.out; omega
      clear hep
      have hdec : decide ((f r).ep < 1) = false := by simp; omega
      have hr1 : (r : Int) < 16 := by omega
      have hr0 : (0 : Int) ≤ (r : Int) := by omega
      have hb0 := Blk.new wr 47 #[.int .i64 r, .int .i64 (f r).ep, .int .i64 (f r).st, .slice x.ra (f r).rn x.rc]
      have htA : Tab (wr.alloc (.cells #[.int .i64 r, .int .i64 (f r).ep, .int .i64 (f r).st, .slice x.ra (f r).rn x.rc] 47)) w.heap.size F := Blk.alloc HI.out.1 _
      have hz0 := htA.at0 r hr
      rw [hzero] at hz0
      have HTA := Lib.hid htA
      have HZ := Lib.hid hzero
      clear htA hzero
      have hwr := hbr.size
      have hlt2 := Blk.lt HI.out.1
      have hne1 : w.heap.size ≠ wr.heap.size := by omega
      have hne2 : wr.heap.size ≠ w.heap.size := by omega
      go_wp2_with (go_at_call 19; refine (is_yes _ _ (by omega)).mono ?_; rintro e w' ⟨rfl, rfl⟩)
      go_quiet (fail)
      go_wp2_with fail
      go_region_held3 (fun w' => w'.cell? ⟨wr.heap.size, 0, none⟩ = some (.int .i64 r) ∧ w'.cell? ⟨wr.heap.size, 1, none⟩ = some (.int .i64 (f r).ep) ∧ w'.cell? ⟨wr.heap.size, 2, none⟩ = some (.int .i64 (f r).st) ∧ w'.cell? ⟨wr.heap.size, 3, none⟩ = some (.slice x.ra (f r).rn x.rc))
          (first | go_keep | exact ⟨k0, k1, k2, k3⟩)
          (first
            | ((go_at_call 20; refine (until_any now _ hnow).mono ?_; rintro e w2 ⟨rfl, rfl⟩))
            | ((go_at_call 21; refine (own_any _ _ _ _ (X r) _ ?_ H1.out (by omega)).mono ?_; exact ((HR.out.below hbr).alloc hbr.size _).more (by simp; omega); rintro e w1 ⟨A', c', rfl, ho, hb⟩; have b1 := Blk.below (Blk.drewN hb0 _) hb (by simp); obtain ⟨k0, k1, k2, k3, -⟩ := b1.c4; have ht1 : Tab w1 w.heap.size F := Blk.below (Blk.drewN HTA.out _) hb (by simp; omega); have HT2 := Lib.hid ht1; obtain ⟨c0, c1, c2, c3, c4, c5, c6, f0, f1, f2, f3, f4, f5, f6⟩ := ht1.all r hr; clear ht1)))
      go_wp2_with fail
      have hput := HT2.out.put r ⟨(f r).ep, untilS now, (f r).st, A', (f r).rn, c', false, 0, 0⟩ hr
      have hone := One.put (Upd.refl _ w1) (g := w.heap.size) r ⟨(f r).ep, untilS now, (f r).st, A', (f r).rn, c', false, 0, 0⟩
      have hb2 : Below w.heap.size w w1 := (below_drewN (hbr.alloc hbr.size _) _).trans (hb.mono (by simp; omega))
      have HP := Lib.hid hput
      have HQ := Lib.hid hone
      clear hput hone
      go_roundw
      case rel =>
        refine ⟨k + 1, _, by go_num, by omega, rfl, ⟨HP.out, fun r' hr' => ?_⟩, hb2.trans (HQ.out.to_below (by have := hb2.size; omega) (fun i hi e => by omega))⟩
        have htake : ∀ q : Nat, (∃ y ∈ L.take (k + 1), y.rob = q) ↔ (∃ y ∈ L.take k, y.rob = q) ∨ q = r := by
          intro q
          rw [List.take_succ_eq_append_getElem hlt, ← HX.out]
          constructor
          · rintro ⟨y, hy, e⟩
            rcases List.mem_append.1 hy with hy | hy
            · exact .inl ⟨y, hy, e⟩
            · simp only [List.mem_singleton] at hy
              subst hy
              have := HE1.out
              exact .inr (by omega)
          · rintro (⟨y, hy, e⟩ | rfl)
            · exact ⟨y, List.mem_append_left _ hy, e⟩
            · exact ⟨x, by simp, HE1.out⟩
        by_cases hrr : r' = r
        · subst hrr
          rw [upd_same]
          refine ⟨fun _ => ⟨rfl, rfl, rfl, rfl, ?_⟩, fun h => absurd ((htake r').2 (.inr rfl)) h⟩
          exact (ho.mono (by simp; omega)).upd HQ.out (fun i hi e => by have := ho.ge _ hi; simp at this; omega)
        · rw [upd_ne _ _ _ _ hrr]
          obtain ⟨p1, p2⟩ := HI.out.2 r' hr'
          refine ⟨fun h => ?_, fun h => p2 (fun h' => h ((htake r').2 (.inl h')))⟩
          obtain ⟨q1, q2, q3, q4, q5⟩ := p1 (((htake r').1 h).resolve_right hrr)
          exact ⟨q1, q2, q3, q4, (((q5.alloc _).drewN _).below hb (by simp)).upd HQ.out (fun i hi e => (q5.apartBlk HI.out.1 (by decide)) (by rw [hi, e]))⟩
      case measure => simp [intOf]; omega
    · go_wp2_with fail
      go_ret2
      obtain rfl : k = L.length := by omega
      refine ⟨w.heap.size, F, rfl, Nat.le_refl _, ⟨HI.out.1, fun r hr => ⟨fun he => ?_, fun he => ?_⟩⟩, hbr⟩
      · obtain ⟨x, hx, e⟩ := listed_all HL.out.2.1 hr he
        exact (HI.out.2 r hr).1 ⟨x, by simpa using hx, e⟩
      · refine (HI.out.2 r hr).2 fun ⟨x, hx, e⟩ => ?_
        obtain ⟨r', _, e1, _, _, _, e2⟩ := listed_mem HL.out.2.1 (List.mem_of_mem_take hx)
        obtain rfl : r = r' := by omega
        exact he e2
end Go.Proofs.Ytgkibmdkhldnpaa
