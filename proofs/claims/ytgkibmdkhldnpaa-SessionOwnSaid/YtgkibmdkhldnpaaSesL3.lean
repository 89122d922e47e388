/-
  PROVED HERE: SessionOwn: for every input the law of layer 19 answers true and its input reads as before: routes that are handed in aren't kept, and answers share no memory with the table. No conditions.
-/
import Derived.Test.YtgkibmdkhldnpaaSesD
import Derived.Test.YtgkibmdkhldnpaaLibA
import Derived.ProofKit
namespace Go.Proofs.Ytgkibmdkhldnpaa
open Go.ChangeShapes Go.WideShapes Go.ChangeAt Go.RowKit

/-- The table with the one robot 2. -/
def F2 (st : Int) (A : Option Addr) (m c : Nat) : Nat → Rob := upd (regT (fun _ => Rob.zero) 2 0) 2 { regT (fun _ => Rob.zero) 2 0 2 with st := st, ra := A, rn := m, rc := c }
def X2 (X : List Value) (r : Nat) : List Value := if r = 2 then X else []
theorem F2_at (st : Int) (A : Option Addr) (m c : Nat) : F2 st A m c 2 = ⟨1, 16, st, A, m, c, false, 0, 0⟩ := rfl
theorem F2_ne (st : Int) (A : Option Addr) (m c r : Nat) (h : r ≠ 2) : F2 st A m c r = Rob.zero := by
  unfold F2 regT
  rw [upd_ne _ _ _ _ h, show (2 : Int).toNat = 2 from rfl, upd_ne _ _ _ _ h]
theorem listed_F2 (st : Int) (A : Option Addr) (m c : Nat) : listed (F2 st A m c) 16 = [(2, 1, st, m)] := rfl
theorem list_one {st : Int} {A : Option Addr} {m c : Nat} {L : List RegV} (h : L.map RegV.says = listed (F2 st A m c) 16) : ∃ A' c', L = [⟨2, 1, st, A', m, c'⟩] := by
  rw [listed_F2] at h
  match L, h with
  | [x], h =>
    simp only [List.map_cons, List.map_nil, RegV.says, List.cons.injEq, Prod.mk.injEq, and_true] at h
    obtain ⟨h1, h2, h3, h4⟩ := h
    exact ⟨x.ra, x.rc, by rw [← h1, ← h2, ← h3, ← h4]⟩
  | [], h => simp at h
  | _ :: _ :: _, h => simp at h
theorem tabC_F2 {w : World} {g : Nat} {st : Int} {A : Option Addr} {m c B : Nat} {X : List Int} (ht : Tab w g (F2 st A m c)) (ho : Own w B 3 1 A m c (ints X)) (hm : m ≤ 40) : TabC w g (F2 st A m c) (X2 (ints X)) := by
  refine ⟨ht, fun r hr => ?_⟩
  by_cases h : r = 2
  · subst h
    rw [F2_at]
    exact ⟨ho.reads, ints_one X, by simp only; omega⟩
  · rw [F2_ne _ _ _ _ _ h]
    exact ⟨by rw [X2, if_neg h]; exact Reads.none_, by rw [X2, if_neg h]; simp, by simp [Rob.zero]⟩

theorem cutS_le (st : Int) (xs : List Int) (now : Int) : (cutS st xs now).2.length ≤ xs.length := by
  unfold cutS
  split
  · simp
  · split
    · simp
    · simp

/-- What stays through the whole law: the table, its one route, the argument's box. -/
def Keep (w wr : World) (B2 : Nat) (st : Int) (A : Option Addr) (n c : Nat) (A2 : Option Addr) (m c2 : Nat) (X : List Int) : Prop :=
  Tab wr (w.heap.size + 1) (F2 st A2 m c2) ∧ Own wr B2 3 1 A2 m c2 (ints X) ∧ Blk wr w.heap.size 35 #[.int .i64 st, .slice A n c] ∧ Below w.heap.size w wr
section
variable {w wr wx : World} {B2 : Nat} {st : Int} {A : Option Addr} {n c : Nat} {A2 : Option Addr} {m c2 : Nat} {X : List Int}
theorem Keep.upd {S : Nat → Prop} (h : Keep w wr B2 st A n c A2 m c2 X) (hu : Upd S wr wx) (hS : ∀ i, S i → w.heap.size + 2 ≤ i ∧ blockOf A2 ≠ some i) : Keep w wx B2 st A n c A2 m c2 X :=
  ⟨h.1.upd_ hu (fun e => by have := (hS _ e).1; omega), h.2.1.upd hu (fun i hi e => (hS i e).2 hi), h.2.2.1.upd hu (fun e => by have := (hS _ e).1; omega), h.2.2.2.trans (hu.to_below h.2.2.2.size (fun i hi e => by have := (hS _ e).1; omega))⟩
theorem Keep.below (h : Keep w wr B2 st A n c A2 m c2 X) (hu : Below wr.heap.size wr wx) : Keep w wx B2 st A n c A2 m c2 X :=
  h.upd (S := fun _ => False) (Upd.of_below hu) (fun _ e => e.elim)
theorem Keep.alloc (h : Keep w wr B2 st A n c A2 m c2 X) (o : Obj) : Keep w (wr.alloc o) B2 st A n c A2 m c2 X :=
  h.below ((Below.refl _ wr).alloc (Nat.le_refl _) _)
theorem Keep.lt (h : Keep w wr B2 st A n c A2 m c2 X) : w.heap.size + 2 ≤ wr.heap.size := Blk.lt h.1
theorem Keep.tabC (h : Keep w wr B2 st A n c A2 m c2 X) (hm : m ≤ 40) : TabC wr (w.heap.size + 1) (F2 st A2 m c2) (X2 (ints X)) := tabC_F2 h.1 h.2.1 hm

theorem Keep.drew (h : Keep w wr B2 st A n c A2 m c2 X) : Keep w wr.drew B2 st A n c A2 m c2 X := h.below ((Below.refl _ wr).drew)
end
theorem wpAnyH_more {P : Program} {md : Region.Mode} {ops : Array Oper} {Q : Exit → Act → World → Prop} {S S' : World → Prop} (hS : ∀ w, S' w → S w) : ∀ (fuel : Nat) (listed : Array Bool) (a : Act) (w : World), wpAnyH P md ops Q S' fuel listed a w → wpAnyH P md ops Q S fuel listed a w
  | 0, _, _, _, h => h
  | fuel + 1, _, _, _, h => ⟨h.1, fun i hi => wpOp_mono (fun a' w' h' => ⟨hS _ h'.1, wpAnyH_more hS fuel _ a' w' h'.2⟩) (h.2 i hi)⟩
theorem own13_X (st : Int) (A : Option Addr) (n c m : Nat) (xs X : List Int) (w : World) (hm : min n 40 = m) (hX : X = xs.take m) (hx : Reads w w.heap.size 1 A n (ints xs)) (hn : n ≤ 17592186044415) (hc : n ≤ c) (hcm : c ≤ maxLen) :
    Calls Try.prog 15 #[.agg #[.int .i64 st, .slice A n c]] w fun e w' => ∃ A' c', e = .returned (.agg #[.int .i64 st, .slice A' m c']) ∧ Own w' w.heap.size 3 1 A' m c' (ints X) ∧ Below w.heap.size w w' := by
  subst hm hX
  exact own13_any st A n c xs w hx hn hc hcm
theorem same_yes (st : Int) (A D : Option Addr) (m c d : Nat) (X : List Int) (w : World) (hx : Reads w w.heap.size 1 A m (ints X)) (hy : Reads w w.heap.size 1 D m (ints X)) (hm : m ≤ 40) :
    Calls Try.prog 18 #[.agg #[.int .i64 st, .slice A m c], .agg #[.int .i64 st, .slice D m d]] w fun e w' => e = .returned (.bool true) ∧ Below w.heap.size w w' := by
  refine (sameRoute_any st st A D m c m d X X w hx hy (by omega) (by omega)).mono fun e w' ⟨h1, h2⟩ => ⟨?_, h2⟩
  rw [h1]
  simp
theorem listed_congr {f g : Nat → Rob} : ∀ k, (∀ r, r < k → (f r).ep = (g r).ep ∧ (f r).st = (g r).st ∧ (f r).rn = (g r).rn) → listed f k = listed g k
  | 0, _ => rfl
  | k + 1, h => by
    have ih := listed_congr k fun r hr => h r (by omega)
    obtain ⟨h1, h2, h3⟩ := h k (by omega)
    by_cases he : (f k).ep = 0
    · rw [listed_no f k he, listed_no g k (by rw [← h1]; exact he), ih]
    · rw [listed_yes f k he, listed_yes g k (by rw [← h1]; exact he), ih, h1, h2, h3]
/-- The table that Load has made of the one robot. -/
theorem loaded {w : World} {g B : Nat} {st : Int} {A : Option Addr} {m c : Nat} {X : List Int} {now : Int} {F : Nat → Rob} (h : LoadInv w g B (F2 st A m c) (X2 (ints X)) now (fun r => (F2 st A m c r).ep ≠ 0) F) (hm : m ≤ 40) :
    listed F 16 = listed (F2 st A m c) 16 ∧ TabC w g F (X2 (ints X)) := by
  have h2 := h.2 2 (by omega)
  obtain ⟨e1, e2, e3, e4, e5⟩ := h2.1 (by show (F2 st A m c 2).ep ≠ 0; rw [F2_at]; simp)
  have hz : ∀ r, r < 16 → r ≠ 2 → F r = Rob.zero := fun r hr hne => (h.2 r hr).2 (by show ¬ (F2 st A m c r).ep ≠ 0; rw [F2_ne _ _ _ _ _ hne]; simp [Rob.zero])
  refine ⟨listed_congr 16 fun r hr => ?_, h.1, fun r hr => ?_⟩
  · by_cases hne : r = 2
    · subst hne; exact ⟨e1, e3, e4⟩
    · rw [hz r hr hne, F2_ne _ _ _ _ _ hne]; exact ⟨rfl, rfl, rfl⟩
  · by_cases hne : r = 2
    · subst hne
      rw [e4]
      refine ⟨?_, ints_one X, by rw [F2_at]; simp only; omega⟩
      have := e5.reads
      rw [e4] at this
      exact this
    · rw [hz r hr hne]
      exact ⟨by rw [X2, if_neg hne]; exact Reads.none_, by rw [X2, if_neg hne]; simp, by simp [Rob.zero]⟩
theorem loaded_upd {w w' : World} {S : Nat → Prop} {g B : Nat} {st : Int} {A : Option Addr} {m c : Nat} {X : List Value} {now : Int} {F : Nat → Rob} (h : LoadInv w g B (F2 st A m c) (X2 X) now (fun r => (F2 st A m c r).ep ≠ 0) F) (hu : Upd S w w') (hS : ∀ i, B ≤ i → ¬ S i) (hg : B ≤ g) :
    LoadInv w' g B (F2 st A m c) (X2 X) now (fun r => (F2 st A m c r).ep ≠ 0) F := by
  refine ⟨h.1.upd_ hu (hS g hg), fun r hr => ⟨fun hd => ?_, (h.2 r hr).2⟩⟩
  obtain ⟨e1, e2, e3, e4, e5⟩ := (h.2 r hr).1 hd
  exact ⟨e1, e2, e3, e4, e5.upd hu (fun i hi => hS i (e5.ge _ hi).1)⟩

set_option maxRecDepth 100000 in
set_option maxHeartbeats 2500000 in
theorem own_walk (st : Int) (A : Option Addr) (n c : Nat) (xs : List Int) (now : Int) (w : World) (hx : Reads w w.heap.size 1 A n (ints xs)) (hn : n ≤ 17592186044415) (hc : n ≤ c) (hcm : c ≤ maxLen) :
    Calls Try.prog 5 #[.agg #[.int .i64 st, .slice A n c], .int .i64 now] w fun e w' => e = .returned (.bool true) ∧ Below w.heap.size w w' := by
  unfold maxLen at hcm
  have HX := Lib.hid hx
  clear hx
  have hb0 := Blk.new w 35 #[.int .i64 st, .slice A n c]
  have hba := (Below.refl w.heap.size w).alloc (Nat.le_refl _) (.cells #[.int .i64 st, .slice A n c] 35)
  have hs0 : (w.alloc (.cells #[.int .i64 st, .slice A n c] 35)).heap.size = w.heap.size + 1 := by simp
  have HS0 := Lib.hid hs0
  clear hs0
  go_enter Try.func5, Try.ntmps5
  go_wp2_with fail
  refine (new_any _).mono ?_
  rintro e w1 ⟨rfl, ht1, hb1⟩
  rw [HS0.out] at ht1 hb1
  have HT1 := Lib.hid ht1
  have h01 := hb0.below hb1 (by omega)
  clear ht1
  go_wp2_with fail
  refine (awake_any _).mono ?_
  rintro e w2 ⟨rfl, hb2⟩
  have ht2 := HT1.out.upd_ (Upd.of_below (S := fun _ => False) hb2) (fun h => h)
  have HT2 := Lib.hid ht2
  have h02 := h01.below hb2 h01.lt
  clear ht2 HT1
  go_wp2_with fail
  refine (register_ok _ _ _ _ _ (by decide) (by decide) (by decide) HT2.out (by decide)).mono ?_
  rintro e w3 ⟨rfl, ht3, ho3⟩
  have h03 : Blk w3 w.heap.size 35 #[.int .i64 st, .slice A n c] := h02.upd ho3 (by omega)
  have HT3 := Lib.hid ht3
  obtain ⟨k30, k31, -⟩ := h03.c2
  have z1 : w.heap.size + 1 ≤ w1.heap.size := h01.lt
  have z2 := hb2.size
  have hw2 : Below w.heap.size w w2 := (hba.trans (hb1.mono (by omega))).trans (hb2.mono (by omega))
  have hw3 : Below w.heap.size w w3 := hw2.trans (ho3.to_below (by omega) (fun i hi e => by omega))
  have hs3 : w.heap.size + 2 ≤ w3.heap.size := Blk.lt HT3.out
  clear ht3 ho3 hb1 hb2 HT2 h01 h02
  go_wp2_with fail
  refine (own13_any st A n c xs _ ((HX.out.below hw3).more (by omega)) hn hc (by unfold maxLen; omega)).mono ?_
  rintro e w4 ⟨A1, c1, rfl, ho1, hb4⟩
  generalize hm : min n 40 = m at *
  have hm40 : m ≤ 40 := by omega
  have hmn : m ≤ n := by omega
  have HM := Lib.hid hm
  clear hm
  obtain ⟨X, hX⟩ : ∃ X, X = xs.take m := ⟨_, rfl⟩
  rw [← hX] at ho1
  have HXX := Lib.hid hX
  have HO1 := Lib.hid ho1
  have h04 := h03.below hb4 h03.lt
  have hT4 : Tab w4 (w.heap.size + 1) (regT (fun _ => Rob.zero) 2 0) := Blk.below HT3.out hb4 (Blk.lt HT3.out)
  have HT4 := Lib.hid hT4
  clear hX ho1 hT4 HT3 k30 k31 h03
  go_wp2_with fail
  have hs4 : (w4.alloc (.cells #[.int .i64 st, .slice A1 m c1] 35)).heap.size = w4.heap.size + 1 := by simp
  have HS4 := Lib.hid hs4
  have z4 := hb4.size
  have b64 := Blk.new w4 35 #[.int .i64 st, .slice A1 m c1]
  have hT4a : Tab (w4.alloc (.cells #[.int .i64 st, .slice A1 m c1] 35)) (w.heap.size + 1) (regT (fun _ => Rob.zero) 2 0) := Blk.alloc HT4.out _
  have HT4A := Lib.hid hT4a
  clear hs4 hT4a
  refine (setRoute_ok (w.heap.size + 1) 2 _ st A1 m c1 X _ (by decide) (by decide) HT4A.out (by decide) ((HO1.out.alloc _).reads) (by omega)).mono ?_
  rintro e w5 ⟨A2, c2, rfl, ht5, ho2, ho5⟩
  rw [HS4.out] at ho2
  have hT5 : Tab w5 (w.heap.size + 1) (F2 st A2 m c2) := ht5
  have HT5 := Lib.hid hT5
  have hO1 : Own w5 w3.heap.size 3 1 A1 m c1 (ints X) := (HO1.out.alloc _).upd ho5 (fun i hi e => by have := HO1.out.ge _ hi; omega)
  have h05 : Blk w5 w.heap.size 35 #[.int .i64 st, .slice A n c] := (h04.alloc _).upd ho5 (by omega)
  have b65 := b64.upd ho5 (by omega)
  have z5 := ho5.size
  rw [HS4.out] at z5
  have hw5 : Below w.heap.size w w5 := ((hw3.trans (hb4.mono (by omega))).alloc (by omega) _).trans (ho5.to_below (by rw [HS4.out]; omega) (fun i hi e => by omega))
  have hlt1 : ∀ i, blockOf A1 = some i → w3.heap.size ≤ i ∧ i < w4.heap.size := fun i hi => HO1.out.ge _ hi
  have hlt2 : ∀ i, blockOf A2 = some i → w4.heap.size + 1 ≤ i ∧ i < w5.heap.size := fun i hi => ho2.ge _ hi
  have hkeep : Keep w w5 (w4.heap.size + 1) st A n c A2 m c2 X := ⟨hT5, ho2, h05, hw5⟩
  have HK5 := Lib.hid hkeep
  have HO1' := Lib.hid hO1
  have L1 := Lib.hid hlt1
  have L2 := Lib.hid hlt2
  obtain ⟨k60, k61, f60, f61⟩ := b65.c2
  have B65 := Lib.hid b65
  clear ht5 hT5 ho2 ho5 hO1 h05 b64 b65 hlt1 hlt2 HO1 HT4 HT4A h04 hb0 hba HS0 hb4 hw5 hkeep HT5
  go_wp2_with fail
  go_loopw [33, 7] (fun iv _ wr => ∃ k : Nat, iv = .int .i64 k ∧ k ≤ m ∧ Upd (fun b => blockOf A1 = some b) w5 wr ∧ ∃ ys, Own wr w3.heap.size 3 1 A1 m c1 ys) (fun iv _ _ => m - (intOf iv).toNat)
  case atStart => exact ⟨0, rfl, by omega, Upd.refl _ _, _, HO1'.out⟩
  case round =>
    obtain ⟨k, rfl, hk, hu, ys, ho⟩ := hrel
    have hr6 := B65.out.upd hu (fun e => by have := L1.out _ e; omega)
    obtain ⟨r60, r61, -, -⟩ := hr6.c2
    have HU := Lib.hid hu
    have HY := Lib.hid ho
    clear hu ho hr6
    by_cases hlt : k < m
    · skip
      obtain ⟨gA, rfl, hg1, hg2, hg3, hg4⟩ := HY.out.some_ (by omega)
      unfold maxLen at hg4
      have hyl : k < ys.length := by rw [HY.out.length]; omega
      have hc := HY.out.cell rfl (List.getElem?_eq_getElem hyl)
      have hf := HY.out.frozen rfl k
      have hset := HY.out.set_ rfl (i := k) (.int .i64 (-1))
      have HSET := Lib.hid hset
      clear hset
      have hupd := Upd.setCell (p := ⟨gA, k, none⟩) HU.out (fun _ => rfl) (.int .i64 (-1))
      have HUPD := Lib.hid hupd
      clear hupd
      go_wp2_with fail
      go_roundw
      case rel => exact ⟨k + 1, by go_num, by omega, HUPD.out, _, HSET.out⟩
      case measure => simp [intOf]; omega
    · have hk6 := HK5.out.upd HU.out (fun i hi => ⟨by have := L1.out _ hi; omega, fun e => by have h1 := L1.out _ hi; have h2 := L2.out _ e; omega⟩)
      have HK6 := Lib.hid hk6
      have z6 : w5.heap.size ≤ wr.heap.size := HU.out.size
      clear hk6
      obtain ⟨w6, rfl⟩ : ∃ wo : World, wo = wr := ⟨_, rfl⟩
      go_wp2_with fail
      refine (list_any _ _ _ _ (HK6.out.tabC hm40)).mono ?_
      rintro e w7 ⟨A7, c7, L7, rfl, hl7, hb7⟩
      obtain ⟨A8, c8, rfl⟩ := list_one hl7.2.1
      have hk7 := HK6.out.below hb7
      have ho8 := hl7.2.2 _ (List.mem_singleton.2 rfl)
      have ho7 := hl7.1
      obtain ⟨g7, rfl, y1, y2, y3, y4⟩ := ho7.some_ (by simp)
      unfold maxLen at y4
      have z7 := hb7.size
      have HK7 := Lib.hid hk7
      have HO8 := Lib.hid ho8
      have HO7 := Lib.hid ho7
      have hl8 : ∀ i, blockOf A8 = some i → w6.heap.size ≤ i ∧ i < w7.heap.size := fun i hi => ho8.ge _ hi
      have ne78 : blockOf A8 ≠ some g7 := fun e => ho7.apart ho8 (by decide) g7 rfl e
      have c73 := ho7.cell rfl (j := 3) (u := .slice A8 m c8) rfl
      have L8 := Lib.hid hl8
      clear hk7 ho8 ho7 hl7 hl8 hb7
      clear HU HY hk hlt
      go_wp2_with fail
      go_loopw [49, 9] (fun iv _ wr => ∃ k : Nat, iv = .int .i64 k ∧ k ≤ m ∧ Upd (fun b => blockOf A8 = some b) w7 wr ∧ ∃ ys, Own wr w6.heap.size 3 1 A8 m c8 ys) (fun iv _ _ => m - (intOf iv).toNat)
      case atStart => exact ⟨0, rfl, by omega, Upd.refl _ _, _, HO8.out⟩
      case round =>
        obtain ⟨k, rfl, hk, hu, ys, ho⟩ := hrel
        have hr7 := HO7.out.upd hu (fun i hi e => ne78 (by rw [e, ← hi]; rfl))
        have c73 := hr7.cell rfl (j := 3) (u := .slice A8 m c8) rfl
        have HU := Lib.hid hu
        have HY := Lib.hid ho
        clear hu ho hr7
        by_cases hlt : k < m
        · skip
          obtain ⟨gA, rfl, hg1, hg2, hg3, hg4⟩ := HY.out.some_ (by omega)
          unfold maxLen at hg4
          have hyl : k < ys.length := by rw [HY.out.length]; omega
          have hc := HY.out.cell rfl (List.getElem?_eq_getElem hyl)
          have hf := HY.out.frozen rfl k
          have hset := HY.out.set_ rfl (i := k) (.int .i64 (-2))
          have HSET := Lib.hid hset
          clear hset
          have hupd := Upd.setCell (p := ⟨gA, k, none⟩) HU.out (fun _ => rfl) (.int .i64 (-2))
          have HUPD := Lib.hid hupd
          clear hupd
          go_wp2_with fail
          go_roundw
          case rel => exact ⟨k + 1, by go_num, by omega, HUPD.out, _, HSET.out⟩
          case measure => simp [intOf]; omega
        · have hk8 := HK7.out.upd HU.out (fun i hi => ⟨by have := L8.out _ hi; omega, fun e => by have h1 := L8.out _ hi; have h2 := L2.out _ e; omega⟩)
          have HK8 := Lib.hid hk8
          have z8 : w7.heap.size ≤ wr.heap.size := HU.out.size
          clear hk8
          obtain ⟨w8, rfl⟩ : ∃ wo : World, wo = wr := ⟨_, rfl⟩
          go_wp2_with fail
          refine (route_any _ 2 (F2 st A2 m c2) X now _ (by decide) (by decide) HK8.out.1 HK8.out.2.1.reads (by show m ≤ _; omega) HK8.out.2.1.le HK8.out.2.1.capLe).mono ?_
          rintro e w9 ⟨A9, c9, rfl, ho9, hb9⟩
          have hlX : X.length = m := by have := HK8.out.2.1.length; rw [ints_length] at this; omega
          have hq9 := cutS_le (F2 st A2 m c2 (2 : Int).toNat).st X now
          rw [hlX] at hq9
          generalize hcut : cutS (F2 st A2 m c2 (2 : Int).toNat).st X now = q9 at *
          clear hcut hlX
          have hk9 := HK8.out.below hb9
          have HK9 := Lib.hid hk9
          have z9 := hb9.size
          have hl9 : ∀ i, blockOf A9 = some i → w8.heap.size ≤ i ∧ i < w9.heap.size := fun i hi => ho9.ge _ hi
          have L9 := Lib.hid hl9
          have b10 := Blk.new w9 35 #[.int .i64 q9.1, .slice A9 q9.2.length c9]
          have hk10 := HK9.out.alloc (.cells #[.int .i64 q9.1, .slice A9 q9.2.length c9] 35)
          have ho10 := ho9.alloc (.cells #[.int .i64 q9.1, .slice A9 q9.2.length c9] 35)
          have HO10 := Lib.hid ho10
          have HK10 := Lib.hid hk10
          have B10 := Lib.hid b10
          obtain ⟨k100, k101, f100, f101⟩ := b10.c2
          have hs10 : (w9.alloc (.cells #[.int .i64 q9.1, .slice A9 q9.2.length c9] 35)).heap.size = w9.heap.size + 1 := by simp
          have HS10 := Lib.hid hs10
          clear hk9 ho9 hb9 hl9 hk10 ho10 b10 hs10 HU HY hk hlt
          have hz10 : q9.2.length ≤ 40 := by omega
          generalize hql : q9.2.length = ql at *
          generalize hqs : q9.1 = qs at *
          clear hql hqs
          go_wp2_with fail
          generalize hW10 : w9.alloc (.cells #[.int .i64 qs, .slice A9 ql c9] 35) = w10 at *
          clear hW10
          have z10 : w9.heap.size < w10.heap.size := by rw [HS10.out]; omega
          go_loopw [66, 11] (fun iv _ wr => ∃ k : Nat, iv = .int .i64 k ∧ k ≤ ql ∧ Upd (fun b => blockOf A9 = some b) w10 wr ∧ ∃ ys, Own wr w8.heap.size 3 1 A9 ql c9 ys) (fun iv _ _ => ql - (intOf iv).toNat)
          case atStart => exact ⟨0, rfl, by omega, Upd.refl _ _, _, HO10.out⟩
          case round =>
            obtain ⟨k, rfl, hk, hu, ys, ho⟩ := hrel
            have hr9 := B10.out.upd hu (fun e => by have := L9.out _ e; omega)
            obtain ⟨r90, r91, -, -⟩ := hr9.c2
            have HU := Lib.hid hu
            have HY := Lib.hid ho
            clear hu ho hr9
            by_cases hlt : k < ql
            · skip
              obtain ⟨gA, rfl, hg1, hg2, hg3, hg4⟩ := HY.out.some_ (by omega)
              unfold maxLen at hg4
              have hyl : k < ys.length := by rw [HY.out.length]; omega
              have hc := HY.out.cell rfl (List.getElem?_eq_getElem hyl)
              have hf := HY.out.frozen rfl k
              have hset := HY.out.set_ rfl (i := k) (.int .i64 (-3))
              have HSET := Lib.hid hset
              clear hset
              have hupd := Upd.setCell (p := ⟨gA, k, none⟩) HU.out (fun _ => rfl) (.int .i64 (-3))
              have HUPD := Lib.hid hupd
              clear hupd
              go_wp2_with fail
              go_roundw
              case rel => exact ⟨k + 1, by go_num, by omega, HUPD.out, _, HSET.out⟩
              case measure => simp [intOf]; omega
            · have hk11 := HK10.out.upd HU.out (fun i hi => ⟨by have := L9.out _ hi; omega, fun e => by have h1 := L9.out _ hi; have h2 := L2.out _ e; omega⟩)
              have HK11 := Lib.hid hk11
              have z11 : w10.heap.size ≤ wr.heap.size := HU.out.size
              clear hk11
              obtain ⟨w11, rfl⟩ : ∃ wo : World, wo = wr := ⟨_, rfl⟩
              go_wp2_with fail
              refine (list_any _ _ _ _ (HK11.out.tabC hm40)).mono ?_
              rintro e w12 ⟨A12, c12, L12, rfl, hl12, hb12⟩
              have hk12 := HK11.out.below hb12
              have HK12 := Lib.hid hk12
              have HL12 := Lib.hid hl12
              have z12 := hb12.size
              clear hk12 hl12 hb12 HU HY hk hlt
              go_wp2_with fail
              refine (load_any _ _ _ _ _ _ 0 _ (by decide) HL12.out (fun r hr => ?_)).mono ?_
              · by_cases h : r = 2
                · subst h
                  rw [F2_at]
                  exact ⟨by simp, by simp only; omega, ints_one X⟩
                · rw [F2_ne _ _ _ _ _ h, X2, if_neg h]
                  exact ⟨by decide, by simp [Rob.zero], by simp⟩
              rintro e w13 ⟨g13, F, rfl, hg13, hl13, hb13⟩
              obtain ⟨A8b, c8b, rfl⟩ := list_one HL12.out.2.1
              have hk13 := HK12.out.below hb13
              have HK13 := Lib.hid hk13
              have z13 := hb13.size
              have ho13 := (HL12.out.2.2 _ (List.mem_singleton.2 rfl)).below hb13 (Nat.le_refl _)
              have ho12 := HL12.out.1.below hb13 (Nat.le_refl _)
              have hl12b := HL12.out.2.2 _ (List.mem_singleton.2 rfl)
              obtain ⟨g12, rfl, y1, y2, y3, y4⟩ := HL12.out.1.some_ (by simp)
              unfold maxLen at y4
              have hl13b : ∀ i, blockOf A8b = some i → w11.heap.size ≤ i ∧ i < w12.heap.size := fun i hi => hl12b.ge _ hi
              have ne13 : blockOf A8b ≠ some g12 := fun e => ho12.apart ho13 (by decide) g12 rfl e
              have c123 := ho12.cell rfl (j := 3) (u := .slice A8b m c8b) rfl
              have HO12 := Lib.hid ho12
              have HO13 := Lib.hid ho13
              have L13 := Lib.hid hl13b
              have HL13 := Lib.hid hl13
              clear hk13 ho12 ho13 hl12b hl13b hl13 hb13
              go_wp2_with fail
              go_loopw [87, 15] (fun iv _ wr => ∃ k : Nat, iv = .int .i64 k ∧ k ≤ m ∧ Upd (fun b => blockOf A8b = some b) w13 wr ∧ ∃ ys, Own wr w11.heap.size 3 1 A8b m c8b ys) (fun iv _ _ => m - (intOf iv).toNat)
              case atStart => exact ⟨0, rfl, by omega, Upd.refl _ _, _, HO13.out⟩
              case round =>
                obtain ⟨k, rfl, hk, hu, ys, ho⟩ := hrel
                have hr12 := HO12.out.upd hu (fun i hi e => ne13 (by rw [e, ← hi]; rfl))
                have c123' := hr12.cell rfl (j := 3) (u := .slice A8b m c8b) rfl
                have HU := Lib.hid hu
                have HY := Lib.hid ho
                clear hu ho hr12
                by_cases hlt : k < m
                · skip
                  obtain ⟨gA, rfl, hg1, hg2, hg3, hg4⟩ := HY.out.some_ (by omega)
                  unfold maxLen at hg4
                  have hyl : k < ys.length := by rw [HY.out.length]; omega
                  have hc := HY.out.cell rfl (List.getElem?_eq_getElem hyl)
                  have hf := HY.out.frozen rfl k
                  have hset := HY.out.set_ rfl (i := k) (.int .i64 (-4))
                  have HSET := Lib.hid hset
                  clear hset
                  have hupd := Upd.setCell (p := ⟨gA, k, none⟩) HU.out (fun _ => rfl) (.int .i64 (-4))
                  have HUPD := Lib.hid hupd
                  clear hupd
                  go_wp2_with fail
                  go_roundw
                  case rel => exact ⟨k + 1, by go_num, by omega, HUPD.out, _, HSET.out⟩
                  case measure => simp [intOf]; omega
                · have hk14 := HK13.out.upd HU.out (fun i hi => ⟨by have := L13.out _ hi; omega, fun e => by have h1 := L13.out _ hi; have h2 := L2.out _ e; omega⟩)
                  have HK14 := Lib.hid hk14
                  have z14 : w13.heap.size ≤ wr.heap.size := HU.out.size
                  clear hk14
                  have hl14 := loaded_upd HL13.out HU.out (fun i hi e => by have := L13.out _ e; omega) hg13
                  obtain ⟨w14, rfl⟩ : ∃ wo : World, wo = wr := ⟨_, rfl⟩
                  have hl14d : LoadInv w14.drew g13 w12.heap.size (F2 st A2 m c2) (X2 (ints X)) 0 (fun r => (F2 st A2 m c2 r).ep ≠ 0) F := hl14
                  have HL14 := Lib.hid hl14d
                  clear hl14d
                  have n0 := HK14.out.2.2.1.c2
                  obtain ⟨n00, n01, -, -⟩ := n0
                  have t1 : True := trivial
                  have t2 : True := trivial
                  have t3 : True := trivial
                  have t4 : True := trivial
                  have t5 : True := trivial
                  have t6 : True := trivial
                  have HC : Hid (c ≤ maxLen) := by unfold maxLen; exact hcm
                  clear hl14
                  go_wp2_with fail
                  clear HU HY hk hlt k60 k61 f60 f61 c73 c123 c123' k100 k101 f100 f101 B65 HK5 HO1' HK6 HO7 HO8 HK7 HK8 HO10 HK10 HK11 HK12 HK13 HO12 HO13 HL13
                  refine wp_region_noPanic ?_
                  refine wp_region_held_drew (S := fun w' => w'.cell? ⟨w.heap.size, 0, none⟩ = some (.int .i64 st) ∧ w'.cell? ⟨w.heap.size, 1, none⟩ = some (.slice A n c)) (by kernel_rfl) (by first | exact ⟨n00, n01⟩ | go_keep) (fun hH => ?_)
                  refine wpAnyH_take (i := 0) (oi := _) (v := ?_) (by simp only [List.getElem?_toArray, List.getElem?_cons_zero]; rfl) (by kernel_rfl) (by kernel_rfl) (by kernel_rfl) (fun _ _ _ h => h) (Or.inl ⟨by rfl, ?_⟩) (by assumption) ?_
                  rotate_left
                  · intro w' hSw; (try dsimp only at hSw); go_simp; try with_reducible rfl
                  try simp only [Act.put, List.setIfInBounds_toArray, List.set_cons_zero, List.set_cons_succ]
                  refine wpAnyH_take (i := 1) (oi := _) (v := ?_) (by simp only [List.getElem?_toArray, List.getElem?_cons_zero, List.getElem?_cons_succ]; rfl) (by kernel_rfl) (by kernel_rfl) (by kernel_rfl) (fun _ _ _ h => h) (Or.inl ⟨by rfl, ?_⟩) (by assumption) ?_
                  rotate_left
                  · intro w' hSw; (try dsimp only at hSw); go_simp; try with_reducible rfl
                  try simp only [Act.put, List.setIfInBounds_toArray, List.set_cons_zero, List.set_cons_succ]
                  refine wpAnyH_take (i := 2) (oi := _) (v := ?_) (by simp only [List.getElem?_toArray, List.getElem?_cons_zero, List.getElem?_cons_succ]; rfl) (by kernel_rfl) (by kernel_rfl) (by kernel_rfl) (fun _ _ _ h => h) (Or.inl ⟨by rfl, ?_⟩) (by assumption) ?_
                  rotate_left
                  · intro w' hSw; (try dsimp only at hSw); go_simp; try with_reducible rfl
                  try simp only [Act.put, List.setIfInBounds_toArray, List.set_cons_zero, List.set_cons_succ]
                  refine wpAnyH_take (i := 3) (oi := _) (v := ?_) (by simp only [List.getElem?_toArray, List.getElem?_cons_zero, List.getElem?_cons_succ]; rfl) (by kernel_rfl) (by kernel_rfl) (by kernel_rfl) (fun _ _ _ h => h) (Or.inl ⟨by rfl, ?_⟩) (by assumption) ?_
                  rotate_left
                  · intro w' hSw; (try dsimp only at hSw); go_simp; try with_reducible rfl
                  try simp only [Act.put, List.setIfInBounds_toArray, List.set_cons_zero, List.set_cons_succ]
                  refine wpAnyH_take (i := 4) (oi := _) (v := ?_) (by simp only [List.getElem?_toArray, List.getElem?_cons_zero, List.getElem?_cons_succ]; rfl) (by kernel_rfl) (by kernel_rfl) (by kernel_rfl) (fun _ _ _ h => h) (Or.inl ⟨by rfl, ?_⟩) (by assumption) ?_
                  rotate_left
                  · intro w' hSw; (try dsimp only at hSw); go_simp; try with_reducible rfl
                  try simp only [Act.put, List.setIfInBounds_toArray, List.set_cons_zero, List.set_cons_succ]
                  refine wpAnyH_take (i := 5) (oi := _) (v := ?_) (by simp only [List.getElem?_toArray, List.getElem?_cons_zero, List.getElem?_cons_succ]; rfl) (by kernel_rfl) (by kernel_rfl) (by kernel_rfl) (fun _ _ _ h => h) (Or.inl ⟨by rfl, ?_⟩) (by assumption) ?_
                  rotate_left
                  · intro w' hSw; (try dsimp only at hSw); go_simp; try with_reducible rfl
                  try simp only [Act.put, List.setIfInBounds_toArray, List.set_cons_zero, List.set_cons_succ]
                  refine wpAnyH_take (i := 6) (oi := _) (v := ?_) (by simp only [List.getElem?_toArray, List.getElem?_cons_zero, List.getElem?_cons_succ]; rfl) (by kernel_rfl) (by kernel_rfl) (by kernel_rfl) (fun _ _ _ h => h) (Or.inl ⟨by rfl, ?_⟩) (by assumption) ?_
                  rotate_left
                  · intro w' hSw; (try dsimp only at hSw); go_simp; try with_reducible rfl
                  try simp only [Act.put, List.setIfInBounds_toArray, List.set_cons_zero, List.set_cons_succ]
                  refine wpAnyH_take (i := 7) (oi := _) (v := ?_) (by simp only [List.getElem?_toArray, List.getElem?_cons_zero, List.getElem?_cons_succ]; rfl) (by kernel_rfl) (by kernel_rfl) (by kernel_rfl) (fun _ _ _ h => h) (Or.inl ⟨by rfl, ?_⟩) (by assumption) ?_
                  rotate_left
                  · intro w' hSw; (try dsimp only at hSw); go_simp; try with_reducible rfl
                  try simp only [Act.put, List.setIfInBounds_toArray, List.set_cons_zero, List.set_cons_succ]
                  refine wpAnyH_take (i := 12) (oi := _) (v := ?_) (by simp only [List.getElem?_toArray, List.getElem?_cons_zero, List.getElem?_cons_succ]; rfl) (by kernel_rfl) (by kernel_rfl) (by kernel_rfl) (fun _ _ _ h => h) (Or.inl ⟨by rfl, ?_⟩) (by assumption) ?_
                  rotate_left
                  · intro w' hSw; (try dsimp only at hSw); go_simp; try with_reducible rfl
                  try simp only [Act.put, List.setIfInBounds_toArray, List.set_cons_zero, List.set_cons_succ]
                  refine wpAnyH_ready (rs := [8]) (by kernel_rfl) (by simp) (AllReadyH.cons (o := _) (by simp only [List.getElem?_toArray, List.getElem?_cons_zero, List.getElem?_cons_succ]; rfl) (fun K hK => ?_) AllReadyH.nil)
                  go_simp
                  go_at_call 13; have _t := t1; refine (list_any _ _ _ _ (HK14.out.drew.tabC hm40)).mono ?_; rintro e wA ⟨AA, cA, LA, rfl, hlA, hbA⟩; obtain ⟨A81, c81, rfl⟩ := list_one hlA.2.1; have hKA := Lib.hid (HK14.out.drew.below hbA); have hQA := Lib.hid (loaded_upd HL14.out (Upd.of_below (S := fun _ => False) hbA) (fun _ _ e => e) hg13); obtain ⟨gA, rfl, gA1, gA2, gA3, gA4⟩ := hlA.1.some_ (by simp); have a2 := hlA.1.cell rfl (j := 2) (u := .int .i64 st) rfl; have a3 := hlA.1.cell rfl (j := 3) (u := .slice A81 m c81) rfl; obtain ⟨a0, a1, -, -⟩ := hKA.out.2.2.1.c2; have HLA := Lib.hid hlA; have HA0 := Lib.hid hlA.1; clear hlA hbA t1
                  try go_wp2_with fail
                  refine hK.out _ _ ?_ (fun hHeld => ?_)
                  · exact ⟨a0, a1⟩
                  clear hK K hH
                  have hH := hHeld
                  clear hHeld
                  try simp only [Act.put, List.setIfInBounds_toArray, List.set_cons_zero, List.set_cons_succ]
                  refine wpAnyH_more (S' := fun w' => w'.cell? ⟨w.heap.size, 0, none⟩ = some (.int .i64 st) ∧ w'.cell? ⟨w.heap.size, 1, none⟩ = some (.slice A n c) ∧ w'.cell? ⟨gA, 2, none⟩ = some (.int .i64 st) ∧ w'.cell? ⟨gA, 3, none⟩ = some (.slice A81 m c81)) (fun _ h => ⟨h.1, h.2.1⟩) _ _ _ _ ?_
                  have hH1 := And.intro a0 (And.intro a1 (And.intro a2 a3))
                  clear hH
                  have hH := hH1
                  clear hH1
                  refine wpAnyH_take (i := 9) (oi := _) (v := ?_) (by simp only [List.getElem?_toArray, List.getElem?_cons_zero, List.getElem?_cons_succ]; rfl) (by kernel_rfl) (by kernel_rfl) (by kernel_rfl) (fun _ _ _ h => h) (Or.inl ⟨by rfl, ?_⟩) (by assumption) ?_
                  rotate_left
                  · intro w' hSw; (try dsimp only at hSw); go_simp; try with_reducible rfl
                  try simp only [Act.put, List.setIfInBounds_toArray, List.set_cons_zero, List.set_cons_succ]
                  refine wpAnyH_take (i := 10) (oi := _) (v := ?_) (by simp only [List.getElem?_toArray, List.getElem?_cons_zero, List.getElem?_cons_succ]; rfl) (by kernel_rfl) (by kernel_rfl) (by kernel_rfl) (fun _ _ _ h => h) (Or.inl ⟨by rfl, ?_⟩) (by assumption) ?_
                  rotate_left
                  · intro w' hSw; (try dsimp only at hSw); go_simp; try with_reducible rfl
                  try simp only [Act.put, List.setIfInBounds_toArray, List.set_cons_zero, List.set_cons_succ]
                  refine wpAnyH_take (i := 11) (oi := _) (v := ?_) (by simp only [List.getElem?_toArray, List.getElem?_cons_zero, List.getElem?_cons_succ]; rfl) (by kernel_rfl) (by kernel_rfl) (by kernel_rfl) (fun _ _ _ h => h) (Or.inl ⟨by rfl, ?_⟩) (by assumption) ?_
                  rotate_left
                  · intro w' hSw; (try dsimp only at hSw); go_simp; try with_reducible rfl
                  try simp only [Act.put, List.setIfInBounds_toArray, List.set_cons_zero, List.set_cons_succ]
                  refine wpAnyH_ready (rs := [13]) (by kernel_rfl) (by simp) (AllReadyH.cons (o := _) (by simp only [List.getElem?_toArray, List.getElem?_cons_zero, List.getElem?_cons_succ]; rfl) (fun K hK => ?_) AllReadyH.nil)
                  go_simp
                  go_at_call 15; have _t := t2; refine (own13_X st A n c m xs X wA HM.out HXX.out ((HX.out.below hKA.out.2.2.2).more (by have := hKA.out.lt; omega)) hn hc HC.out).mono ?_; rintro e wB ⟨AB, cB, rfl, hoB, hbB⟩; have hKB := Lib.hid (hKA.out.below hbB); have hQB := Lib.hid (loaded_upd hQA.out (Upd.of_below (S := fun _ => False) hbB) (fun _ _ e => e) hg13); obtain ⟨b0, b1, -, -⟩ := hKB.out.2.2.1.c2; have b2 := (HLA.out.1.below hbB (Nat.le_refl _)).cell rfl (j := 2) (u := .int .i64 st) rfl; have b3 := (HLA.out.1.below hbB (Nat.le_refl _)).cell rfl (j := 3) (u := .slice A81 m c81) rfl; have HRA := Lib.hid (((HLA.out.2.2 _ (List.mem_singleton.2 rfl)).below hbB (Nat.le_refl _)).reads); have HOB := Lib.hid hoB; have HA1 := Lib.hid (HA0.out.below hbB (Nat.le_refl _)); clear hoB hbB t2
                  try go_wp2_with fail
                  refine hK.out _ _ ?_ (fun hHeld => ?_)
                  · exact ⟨b0, b1, b2, b3⟩
                  clear hK K hH
                  have hH := hHeld
                  clear hHeld
                  try simp only [Act.put, List.setIfInBounds_toArray, List.set_cons_zero, List.set_cons_succ]
                  refine wpAnyH_ready (rs := [14]) (by kernel_rfl) (by simp) (AllReadyH.cons (o := _) (by simp only [List.getElem?_toArray, List.getElem?_cons_zero, List.getElem?_cons_succ]; rfl) (fun K hK => ?_) AllReadyH.nil)
                  go_simp
                  go_at_call 18; have _t := t3; refine (same_yes st A81 AB m c81 cB X wB HRA.out HOB.out.reads hm40).mono ?_; rintro e wC ⟨rfl, hbC⟩; have hKC := Lib.hid (hKB.out.below hbC); have HLC := Lib.hid (loaded_upd hQB.out (Upd.of_below (S := fun _ => False) hbC) (fun _ _ e => e) hg13); obtain ⟨d0, d1, -, -⟩ := hKC.out.2.2.1.c2; have d2 := (HA1.out.below hbC (Nat.le_refl _)).cell rfl (j := 2) (u := .int .i64 st) rfl; have d3 := (HA1.out.below hbC (Nat.le_refl _)).cell rfl (j := 3) (u := .slice A81 m c81) rfl; have HA2 := Lib.hid (HA1.out.below hbC (Nat.le_refl _)); clear hbC t3
                  try go_wp2_with fail
                  refine hK.out _ _ ?_ (fun hHeld => ?_)
                  · exact ⟨d0, d1, d2, d3⟩
                  clear hK K hH
                  have hH := hHeld
                  clear hHeld
                  try simp only [Act.put, List.setIfInBounds_toArray, List.set_cons_zero, List.set_cons_succ]
                  refine wpAnyH_take (i := 15) (oi := _) (v := ?_) (by simp only [List.getElem?_toArray, List.getElem?_cons_zero, List.getElem?_cons_succ]; rfl) (by kernel_rfl) (by kernel_rfl) (by kernel_rfl) (fun _ _ _ h => h) (Or.inl ⟨by rfl, ?_⟩) (by assumption) ?_
                  rotate_left
                  · intro w' hSw; (try dsimp only at hSw); go_simp; try with_reducible rfl
                  try simp only [Act.put, List.setIfInBounds_toArray, List.set_cons_zero, List.set_cons_succ]
                  refine wpAnyH_take (i := 16) (oi := _) (v := ?_) (by simp only [List.getElem?_toArray, List.getElem?_cons_zero, List.getElem?_cons_succ]; rfl) (by kernel_rfl) (by kernel_rfl) (by kernel_rfl) (fun _ _ _ h => h) (Or.inl ⟨by rfl, ?_⟩) (by assumption) ?_
                  rotate_left
                  · intro w' hSw; (try dsimp only at hSw); go_simp; try with_reducible rfl
                  try simp only [Act.put, List.setIfInBounds_toArray, List.set_cons_zero, List.set_cons_succ]
                  refine wpAnyH_take (i := 17) (oi := _) (v := ?_) (by simp only [List.getElem?_toArray, List.getElem?_cons_zero, List.getElem?_cons_succ]; rfl) (by kernel_rfl) (by kernel_rfl) (by kernel_rfl) (fun _ _ _ h => h) (Or.inl ⟨by rfl, ?_⟩) (by assumption) ?_
                  rotate_left
                  · intro w' hSw; (try dsimp only at hSw); go_simp; try with_reducible rfl
                  try simp only [Act.put, List.setIfInBounds_toArray, List.set_cons_zero, List.set_cons_succ]
                  refine wpAnyH_take (i := 22) (oi := _) (v := ?_) (by simp only [List.getElem?_toArray, List.getElem?_cons_zero, List.getElem?_cons_succ]; rfl) (by kernel_rfl) (by kernel_rfl) (by kernel_rfl) (fun _ _ _ h => h) (Or.inl ⟨by rfl, ?_⟩) (by assumption) ?_
                  rotate_left
                  · intro w' hSw; (try dsimp only at hSw); go_simp; try with_reducible rfl
                  try simp only [Act.put, List.setIfInBounds_toArray, List.set_cons_zero, List.set_cons_succ]
                  refine wpAnyH_ready (rs := [18]) (by kernel_rfl) (by simp) (AllReadyH.cons (o := _) (by simp only [List.getElem?_toArray, List.getElem?_cons_zero, List.getElem?_cons_succ]; rfl) (fun K hK => ?_) AllReadyH.nil)
                  go_simp
                  go_at_call 13; have _t := t4; refine (list_any g13 F (X2 (ints X)) wC (loaded HLC.out hm40).2).mono ?_; rintro e wD ⟨AD, cD, LD, rfl, hlD, hbD⟩; obtain ⟨A84, c84, rfl⟩ := list_one (hlD.2.1.trans (loaded HLC.out hm40).1); have hKD := Lib.hid (hKC.out.below hbD); obtain ⟨gD, rfl, gD1, gD2, gD3, gD4⟩ := hlD.1.some_ (by simp); have e2 := hlD.1.cell rfl (j := 2) (u := .int .i64 st) rfl; have e3 := hlD.1.cell rfl (j := 3) (u := .slice A84 m c84) rfl; obtain ⟨e0, e1, -, -⟩ := hKD.out.2.2.1.c2; have HLD := Lib.hid hlD; have e4 := (HA2.out.below hbD (Nat.le_refl _)).cell rfl (j := 2) (u := .int .i64 st) rfl; have e5 := (HA2.out.below hbD (Nat.le_refl _)).cell rfl (j := 3) (u := .slice A81 m c81) rfl; have HA3 := Lib.hid (HA2.out.below hbD (Nat.le_refl _)); have HD0 := Lib.hid hlD.1; clear hlD hbD t4
                  try go_wp2_with fail
                  refine hK.out _ _ ?_ (fun hHeld => ?_)
                  · exact ⟨e0, e1, e4, e5⟩
                  clear hK K hH
                  have hH := hHeld
                  clear hHeld
                  try simp only [Act.put, List.setIfInBounds_toArray, List.set_cons_zero, List.set_cons_succ]
                  refine wpAnyH_more (S' := fun w' => w'.cell? ⟨w.heap.size, 0, none⟩ = some (.int .i64 st) ∧ w'.cell? ⟨w.heap.size, 1, none⟩ = some (.slice A n c) ∧ w'.cell? ⟨gA, 2, none⟩ = some (.int .i64 st) ∧ w'.cell? ⟨gA, 3, none⟩ = some (.slice A81 m c81) ∧ w'.cell? ⟨gD, 2, none⟩ = some (.int .i64 st) ∧ w'.cell? ⟨gD, 3, none⟩ = some (.slice A84 m c84)) (fun _ h => ⟨h.1, h.2.1, h.2.2.1, h.2.2.2.1⟩) _ _ _ _ ?_
                  have hH1 := And.intro e0 (And.intro e1 (And.intro e4 (And.intro e5 (And.intro e2 e3))))
                  clear hH
                  have hH := hH1
                  clear hH1
                  refine wpAnyH_take (i := 19) (oi := _) (v := ?_) (by simp only [List.getElem?_toArray, List.getElem?_cons_zero, List.getElem?_cons_succ]; rfl) (by kernel_rfl) (by kernel_rfl) (by kernel_rfl) (fun _ _ _ h => h) (Or.inl ⟨by rfl, ?_⟩) (by assumption) ?_
                  rotate_left
                  · intro w' hSw; (try dsimp only at hSw); go_simp; try with_reducible rfl
                  try simp only [Act.put, List.setIfInBounds_toArray, List.set_cons_zero, List.set_cons_succ]
                  refine wpAnyH_take (i := 20) (oi := _) (v := ?_) (by simp only [List.getElem?_toArray, List.getElem?_cons_zero, List.getElem?_cons_succ]; rfl) (by kernel_rfl) (by kernel_rfl) (by kernel_rfl) (fun _ _ _ h => h) (Or.inl ⟨by rfl, ?_⟩) (by assumption) ?_
                  rotate_left
                  · intro w' hSw; (try dsimp only at hSw); go_simp; try with_reducible rfl
                  try simp only [Act.put, List.setIfInBounds_toArray, List.set_cons_zero, List.set_cons_succ]
                  refine wpAnyH_take (i := 21) (oi := _) (v := ?_) (by simp only [List.getElem?_toArray, List.getElem?_cons_zero, List.getElem?_cons_succ]; rfl) (by kernel_rfl) (by kernel_rfl) (by kernel_rfl) (fun _ _ _ h => h) (Or.inl ⟨by rfl, ?_⟩) (by assumption) ?_
                  rotate_left
                  · intro w' hSw; (try dsimp only at hSw); go_simp; try with_reducible rfl
                  try simp only [Act.put, List.setIfInBounds_toArray, List.set_cons_zero, List.set_cons_succ]
                  refine wpAnyH_ready (rs := [23]) (by kernel_rfl) (by simp) (AllReadyH.cons (o := _) (by simp only [List.getElem?_toArray, List.getElem?_cons_zero, List.getElem?_cons_succ]; rfl) (fun K hK => ?_) AllReadyH.nil)
                  go_simp
                  go_at_call 15; have _t := t5; refine (own13_X st A n c m xs X wD HM.out HXX.out ((HX.out.below hKD.out.2.2.2).more (by have := hKD.out.lt; omega)) hn hc HC.out).mono ?_; rintro e wE ⟨AE, cE, rfl, hoE, hbE⟩; have hKE := Lib.hid (hKD.out.below hbE); obtain ⟨f0, f1, -, -⟩ := hKE.out.2.2.1.c2; have f2 := (HLD.out.1.below hbE (Nat.le_refl _)).cell rfl (j := 2) (u := .int .i64 st) rfl; have f3 := (HLD.out.1.below hbE (Nat.le_refl _)).cell rfl (j := 3) (u := .slice A84 m c84) rfl; have HRD := Lib.hid (((HLD.out.2.2 _ (List.mem_singleton.2 rfl)).below hbE (Nat.le_refl _)).reads); have HOE := Lib.hid hoE; have f4 := (HA3.out.below hbE (Nat.le_refl _)).cell rfl (j := 2) (u := .int .i64 st) rfl; have f5 := (HA3.out.below hbE (Nat.le_refl _)).cell rfl (j := 3) (u := .slice A81 m c81) rfl; have HA4 := Lib.hid (HA3.out.below hbE (Nat.le_refl _)); have HD1 := Lib.hid (HD0.out.below hbE (Nat.le_refl _)); clear hoE hbE t5
                  try go_wp2_with fail
                  refine hK.out _ _ ?_ (fun hHeld => ?_)
                  · exact ⟨f0, f1, f4, f5, f2, f3⟩
                  clear hK K hH
                  have hH := hHeld
                  clear hHeld
                  try simp only [Act.put, List.setIfInBounds_toArray, List.set_cons_zero, List.set_cons_succ]
                  refine wpAnyH_ready (rs := [24]) (by kernel_rfl) (by simp) (AllReadyH.cons (o := _) (by simp only [List.getElem?_toArray, List.getElem?_cons_zero, List.getElem?_cons_succ]; rfl) (fun K hK => ?_) AllReadyH.nil)
                  go_simp
                  go_at_call 18; have _t := t6; refine (same_yes st A84 AE m c84 cE X wE HRD.out HOE.out.reads hm40).mono ?_; rintro e wF ⟨rfl, hbF⟩; have hKF := Lib.hid (hKE.out.below hbF); obtain ⟨g0, g1, -, -⟩ := hKF.out.2.2.1.c2; have g4 := (HA4.out.below hbF (Nat.le_refl _)).cell rfl (j := 2) (u := .int .i64 st) rfl; have g5 := (HA4.out.below hbF (Nat.le_refl _)).cell rfl (j := 3) (u := .slice A81 m c81) rfl; have g2 := (HD1.out.below hbF (Nat.le_refl _)).cell rfl (j := 2) (u := .int .i64 st) rfl; have g3 := (HD1.out.below hbF (Nat.le_refl _)).cell rfl (j := 3) (u := .slice A84 m c84) rfl; clear hbF t6
                  try go_wp2_with fail
                  refine hK.out _ _ ?_ (fun hHeld => ?_)
                  · exact ⟨g0, g1, g4, g5, g2, g3⟩
                  clear hK K hH
                  have hH := hHeld
                  clear hHeld
                  try simp only [Act.put, List.setIfInBounds_toArray, List.set_cons_zero, List.set_cons_succ]
                  refine wpAnyH_take (i := 25) (oi := _) (v := ?_) (by simp only [List.getElem?_toArray, List.getElem?_cons_zero, List.getElem?_cons_succ]; rfl) (by kernel_rfl) (by kernel_rfl) (by kernel_rfl) (fun _ _ _ h => h) (Or.inl ⟨by rfl, ?_⟩) (by assumption) ?_
                  rotate_left
                  · intro w' hSw; (try dsimp only at hSw); go_simp; try with_reducible rfl
                  try simp only [Act.put, List.setIfInBounds_toArray, List.set_cons_zero, List.set_cons_succ]
                  refine wpAnyH_take (i := 26) (oi := _) (v := ?_) (by simp only [List.getElem?_toArray, List.getElem?_cons_zero, List.getElem?_cons_succ]; rfl) (by kernel_rfl) (by kernel_rfl) (by kernel_rfl) (fun _ _ _ h => h) (Or.inl ⟨by rfl, ?_⟩) (by assumption) ?_
                  rotate_left
                  · intro w' hSw; (try dsimp only at hSw); go_simp; try with_reducible rfl
                  try simp only [Act.put, List.setIfInBounds_toArray, List.set_cons_zero, List.set_cons_succ]
                  refine wpAnyH_done (by kernel_rfl) ?_ _
                  refine NoPanic.normal ?_
                  go_wp2_with fail
                  go_ret
                  exact ⟨rfl, hKF.out.2.2.2⟩

theorem cells_int3 : Try.prog.cellsOf 3 = 1 := by kernel_rfl
theorem cells_ints3 : Try.prog.cellsOf 22 = 1 := by kernel_rfl
theorem cells_route3 : Try.prog.cellsOf 35 = 2 := by kernel_rfl
theorem bytes_int3 : Try.prog.bytesOf 3 = 8 := by kernel_rfl

theorem ints_of (w : World) (a : Addr) (len cap : Nat) (hl : len ≤ cap)
    (hc : ∀ i, i < cap → ∃ m cs', cs'.length = Try.prog.cellsOf 3 ∧ (∀ j, j < Try.prog.cellsOf 3 → w.cell? ((a.add (i * Try.prog.cellsOf 3)).add j) = cs'[j]?) ∧ Cel Try.prog w m 3 cs') :
    ∃ xs : List Int, Reads w w.heap.size 1 (some a) len (ints xs) := by
  have hx : ∀ i, i < cap → ∃ x : Int, w.cell? (a.add i) = some (.int .i64 x) := by
    intro i hi
    rw [cells_int3] at hc
    obtain ⟨m, cs, h1, h2, h3⟩ := hc i hi
    obtain ⟨x, rfl, _⟩ := cel_int Try.underlying3 h3
    refine ⟨x, ?_⟩
    have := h2 0 (by omega)
    rw [add_of_add] at this
    simpa using this
  refine ⟨(List.range len).map (fun i => match w.cell? (a.add i) with | some (.int _ x) => x | _ => 0), by simp [ints], fun hn => ⟨a, rfl, ?_, fun j u hu => ?_⟩⟩
  · obtain ⟨x, h⟩ := hx 0 (by omega)
    have := World.block_lt_of_cell? w _ h
    rwa [block_of_add] at this
  · have hj : j < len := by
      have := (List.getElem?_eq_some_iff.1 hu).1
      simpa [ints] using this
    obtain ⟨x, h⟩ := hx j (by omega)
    rw [h]
    simp only [ints, List.getElem?_map, List.getElem?_range hj, Option.map_some, h] at hu
    exact hu

theorem own_vals (W : World) (args : Array Value) (hv : Vals Try.prog W [35, 3] args.toList) :
    Calls Try.prog 5 args W fun e W' => e = .returned (.bool true) ∧ Below W.heap.size W W' := by
  obtain ⟨v0, r0, e0, h0, v1, r1, rfl, h1, rfl⟩ := hv
  obtain rfl : args = #[v0, v1] := by cases args; simp_all
  obtain ⟨x1, rfl, _⟩ := val_int Try.underlying3 h1
  obtain ⟨cs, rfl, hlen, m, hf⟩ := val_struct Try.underlying35 h0
  obtain ⟨cs⟩ := cs
  rw [cells_route3] at hlen
  match cs, hlen with
  | [u0, u1], _ =>
    simp only [List.forall_mem_cons, cells_int3, cells_ints3, List.drop_succ_cons, List.drop_zero, List.take_succ_cons, List.take_zero] at hf
    obtain ⟨f0, f1, _⟩ := hf
    obtain ⟨st, e0, _⟩ := cel_int Try.underlying3 f0
    simp only [List.cons.injEq, and_true] at e0
    subst e0
    rcases cel_slice Try.underlying22 f1 with h | ⟨a, n, c, h, hl, hm, hb, hc⟩
    · simp only [List.cons.injEq, and_true] at h
      subst h
      exact own_walk _ _ _ _ [] _ _ Reads.none_ (by omega) (by omega) (by unfold maxLen; omega)
    · simp only [List.cons.injEq, and_true] at h
      subst h
      obtain ⟨xs, hxs⟩ := ints_of W a n c hl hc
      rw [bytes_int3] at hb
      unfold reachBytes at hb
      exact own_walk _ _ _ _ xs _ _ hxs (by omega) hl hm

set_option maxRecDepth 100000 in
theorem own_lifted (os : Os) (started : os.Started) (H : Type) (enc : TypeId × Value → H) :
    ReturnsInHanded {} Try.checked os 5 .any (Rows.sessionOwnSpec.pre6 enc Try.prog Try.f5 Rows.sessionOwnRow.domain false) (Rows.sessionOwnSpec.post enc Try.prog Try.f5 false true false false) :=
  lift_law (C := Try.checked) #[35, 3] (by kernel_rfl) (by kernel_rfl) started (by kernel_rfl) Try.func5
    (ChangeSpec.witness6 (enc := enc) (C := Try.checked) false ⟨#[], #[.agg #[.int .i64 0, .slice none 0 0], .int .i64 0], []⟩ 8 (by kernel_rfl) (by kernel_rfl) (by kernel_rfl) (by kernel_rfl))
    Try.params5 (by kernel_rfl) rfl rfl Try.underlying4 (fun ds hl => match ds, hl with | [_, _], _ => rfl) (fun W args hv => own_vals W args hv)

theorem own_holds : Rows.SessionOwnSaid :=
  OpenClaim.holds_of_wide 5 Try.f5 rfl rfl rfl rfl rfl rfl rfl ⟨rfl, rfl, rfl, rfl, rfl⟩ rfl rfl rfl rfl rfl (by kernel_rfl) Try.func5 (by kernel_rfl)
    (of_decide_eq_true (by kernel_rfl)) (by unfold Func.isWrapper; rw [if_neg (of_decide_eq_false (by kernel_rfl))]; exact ⟨rfl, rfl⟩)
    (fun os started H enc _ => own_lifted os started H enc)

end Go.Proofs.Ytgkibmdkhldnpaa
