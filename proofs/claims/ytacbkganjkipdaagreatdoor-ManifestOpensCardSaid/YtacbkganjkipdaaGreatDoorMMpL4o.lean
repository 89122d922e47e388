/-
  Texts joined: MnE, MnF, MnH, MnI, MnJ, SlIn, MnK, MnL, MnC, MnM, MoP, ByS, WlV, MoB, MnR, MnN, MnO.
-/
import Derived.Test.YtacbkganjkipdaaGreatDoorMMpL4c
import Derived.Test.YtacbkganjkipdaaGreatDoorMMpL4g
import Derived.Test.YtacbkganjkipdaaGreatDoorMMpL4m
import Derived.Test.YtacbkganjkipdaaGreatDoorMMpL4n
namespace Go.Proofs.YtacbkganjkipdaaGreatDoor
open Go.RowKit
theorem half_ (k : Nat) : ((k : Nat) : Int).fdiv (2 ^ (min (1 : Int).toNat IntKind.u64.bits)) = ((k / 2 : Nat) : Int) := by
 have e : ((2 : Int) ^ (min (1 : Int).toNat IntKind.u64.bits)) = 2 := by decide
 rw [e, Int.fdiv_eq_ediv_of_nonneg _ (by decide)]
 omega
section
variable {D : List TbP} {a b m : Nat} {x : TbP}
structure Srch (D : List TbP) (x : TbP) (lo hi i j : Nat) : Prop where
 l1 : lo ≤ i
 l2 : i ≤ j
 l3 : j ≤ hi
 low : ∀ k y, lo ≤ k → k < i → D[k]? = some y → ltT x y = false
 high : ∀ k y, j ≤ k → k < hi → D[k]? = some y → ltT y x = false
theorem Srch.start (D : List TbP) (x : TbP) {lo hi : Nat} (h : lo ≤ hi) : Srch D x lo hi lo hi := ⟨Nat.le_refl _, h, Nat.le_refl _, fun _ _ h1 h2 => absurd h2 (by omega), fun _ _ h1 h2 => absurd h2 (by omega)⟩
theorem Srch.up {lo hi i j h : Nat} {y : TbP} (s : Srch D x lo hi i j) (hs : SOn ltT D lo hi) (h1 : i ≤ h) (h2 : h < j) (hy : D[h]? = some y) (hl : ltT x y = false) : Srch D x lo hi (h + 1) j :=
 ⟨by have := s.l1; omega, by omega, s.l3, fun k z k1 k2 hz => by
  by_cases e : k = h
  · subst e
    rw [hy] at hz
    obtain rfl := Option.some.inj hz
    exact hl
  · exact ltT_ord.tr z y x (hs k h z y k1 (by omega) (by have := s.l3; omega) hz hy) hl, s.high⟩
theorem Srch.down {lo hi i j h : Nat} {y : TbP} (s : Srch D x lo hi i j) (hs : SOn ltT D lo hi) (h1 : i ≤ h) (h2 : h < j) (hy : D[h]? = some y) (hl : ltT y x = false) : Srch D x lo hi i h :=
 ⟨s.l1, h1, by have := s.l3; omega, s.low, fun k z k1 k2 hz => by
  by_cases e : k = h
  · subst e
    rw [hy] at hz
    obtain rfl := Option.some.inj hz
    exact hl
  · exact ltT_ord.tr x y z hl (hs h k y z (by have := s.l1; omega) (by omega) k2 hy hz)⟩
structure Rgt (D : List TbP) (x : TbP) (a b k : Nat) (D' : List TbP) : Prop where
 mv : Mv a b D D'
 le : a ≤ k
 here : D'[k]? = some x
 past : ∀ p, a ≤ p → p < k → D'[p]? = D[p + 1]?
 rest : ∀ p, k < p → D'[p]? = D[p]?
theorem Rgt.step {k : Nat} {D' : List TbP} {y : TbP} (h : Rgt D x a b k D') (hb : k + 1 < b) (hy : D'[k + 1]? = some y) : Rgt D x a b (k + 1) ((D'.set k y).set (k + 1) x) := by
 have hl := h.le
 refine ⟨h.mv.trans (Mv.swap h.here hy hl (by omega) (by omega) hb), by omega, by rw [swp_get h.here hy, if_pos rfl], fun p h1 h2 => ?_, fun p h1 => ?_⟩
 · rw [swp_get h.here hy, if_neg (by omega)]
   by_cases e : p = k
   · rw [if_pos e, e, ← hy, h.rest (k + 1) (by omega)]
   · rw [if_neg e]
     exact h.past p h1 (by omega)
 · rw [swp_get h.here hy, if_neg (by omega), if_neg (by omega)]
   exact h.rest p (by omega)
structure Lft (D : List TbP) (x : TbP) (a m k : Nat) (D' : List TbP) : Prop where
 mv : Mv a (m + 1) D D'
 le : k ≤ m
 here : D'[k]? = some x
 past : ∀ p, k < p → p ≤ m → D'[p]? = D[p - 1]?
 rest : ∀ p, p < k → D'[p]? = D[p]?
theorem Lft.step {k : Nat} {D' : List TbP} {y : TbP} (h : Lft D x a m (k + 1) D') (ha : a ≤ k) (hy : D'[k]? = some y) : Lft D x a m k ((D'.set (k + 1) y).set k x) := by
 have hl := h.le
 refine ⟨h.mv.trans (Mv.swap h.here hy (by omega) (by omega) ha (by omega)), by omega, by rw [swp_get h.here hy, if_pos rfl], fun p h1 h2 => ?_, fun p h1 => ?_⟩
 · rw [swp_get h.here hy, if_neg (by omega)]
   by_cases e : p = k + 1
   · rw [if_pos e, e, Nat.add_sub_cancel, ← hy, h.rest k (by omega)]
   · rw [if_neg e]
     exact h.past p (by omega) h2
 · rw [swp_get h.here hy, if_neg (by omega), if_neg (by omega)]
   exact h.rest p (by omega)
structure CutS (D : List TbP) (a m b s r : Nat) : Prop where
 l1 : a ≤ s
 l2 : s ≤ r
 l3 : r ≤ m
 l4 : r ≤ (a + b) / 2
 l5 : (a + b) / 2 + m ≤ b + s
 low : ∀ x y, a < s → (a + b) / 2 + m - s < b → D[s - 1]? = some x → D[(a + b) / 2 + m - s]? = some y → ltT y x = false
 high : ∀ x y, r < m → m < (a + b) / 2 + m - r → D[r]? = some x → D[(a + b) / 2 + m - r - 1]? = some y → ltT x y = false
theorem CutS.done {s : Nat} (h : CutS D a m b s s) : CutAt ltT D a m b s := ⟨h.l1, h.l3, by have := h.l4; omega, by have := h.l5; omega, h.low, h.high⟩
end
set_option maxHeartbeats 4000000 in
theorem sym_sl (A : Option Addr) (n c : Nat) (hm : n ≤ 1000000000000) : ∀ (w : Nat) (D : List TbP) (a m b : Nat), b - a ≤ w → D.length = n → a < m → m < b → b ≤ n → SOn ltT D a m → SOn ltT D m b → Fn Tryz.prog 120 #[.slice A n c, .int .i64 a, .int .i64 m, .int .i64 b, ordV] [rowTb A n c D] (List TbP) (fun _ => .tuple #[]) (fun D' => [rowTb A n c D']) (fun D' => Mv a b D D' ∧ SOn ltT D' a b) := by
 intro w
 induction w with
 | zero => intro D a m b hw _ h1 h2; omega
 | succ w ih =>
  intro D a m b hw hn ham hmb hb hA hB
  refine Fn.enter Tryz.func120 rfl Tryz.ntmps120 (by rfl) ?_
  intro w0
  refine go [3,3,4,0,0] ?_
  refine Ls.qE 27 (Ev.subN rfl (by rfl) (by rfl) (by omega)) ?_
  refine go [19,2] ?_
  refine Cd.cond _ (by rfl) (fun h1 => ?_) (fun h1 => ?_)
  · obtain rfl : m = a + 1 := by have := of_decide_eq_true h1; omega
    obtain ⟨x, hx⟩ := get_of_lt (show a < D.length by omega)
    refine go [3,4,0,5,25,0,5,2,3,21] ?_
    refine Cd.loop (ι := Nat × Nat) (fun p => [(0, .slice A n c), (1, .int .i64 a), (4, ordV), (10, .int .i64 p.1), (11, .int .i64 p.2)]) (fun _ => [rowTb A n c D]) (fun p => Srch D x (a + 1) b p.1 p.2) (fun p => p.2 - p.1) ((a + 1, b)) (Srch.start D x (Nat.le_of_lt hmb)) ?_ rfl ?_
    · (repeat (first | exact trivial | refine ⟨by rfl, ?_⟩))
    rintro ⟨i, j⟩ hs
    dsimp only at hs ⊢
    have s1 := hs.l1
    have s2 := hs.l2
    have s3 := hs.l3
    refine go [3,3,4,0,0,16,2] ?_
    refine Cd.cond _ (by rfl) (fun h2 => ?_) (fun h2 => ?_)
    · have hij : i < j := by have := of_decide_eq_true h2; omega
      obtain ⟨h, hh⟩ : ∃ h, h = (i + j) / 2 := ⟨_, rfl⟩
      have hh1 : i ≤ h := by omega
      have hh2 : h < j := by omega
      obtain ⟨y, hy⟩ := get_of_lt (show h < D.length by omega)
      refine Ent.rowSome 0 (by rfl) (by omega) (fun ad had => ?_)
      obtain rfl : A = some ad := had
      refine go [6,21,3,4,0,0] ?_
      refine Ls.qE 36 (Ev.addN rfl (by rfl) (by rfl) (by omega)) ?_
      refine Ls.qE 37 (Ev.convU rfl (by rfl) (by kernel_rfl) Tryz.underlying156 (by omega)) ?_
      refine Ls.qE 38 (Ev.to (Ev.shr rfl (by rfl) (by rfl) (by decide)) (congrArg (Value.int .u64) (half_ (i + j)))) ?_
      rw [← hh]
      refine Ls.qE 39 (Ev.convI rfl (by rfl) (by kernel_rfl) Tryz.underlying3 (by omega)) ?_
      refine go [5,2,3] ?_
      refine Cd.draw [] (by kernel_rfl) ?_
      refine Rg.qE 0 40 (by rfl) (Ev.move rfl (by rfl)) ?_
      refine Rg.qE 1 41 (by rfl) (Ev.move rfl (by rfl)) ?_
      refine Rg.qE 2 42 (by rfl) (Ev.move rfl (by rfl)) ?_
      refine Rg.qE 3 43 (by rfl) (Ev.indexAt (sz := 4) rfl (by rfl) (by rfl) Tryz.underlying22 (by kernel_rfl) (by omega)) ?_
      refine Rg.qE 4 44 (by rfl) (Ev.loadEl rfl (by rfl) (ReadsIn.row 0 (by rfl)) (by kernel_rfl) (by intro _; rfl) (by assumption)) ?_
      refine Rg.qE 5 45 (by rfl) (Ev.move rfl (by rfl)) ?_
      refine Rg.qE 6 46 (by rfl) (Ev.move rfl (by rfl)) ?_
      refine Rg.qE 7 47 (by rfl) (Ev.indexAt (sz := 4) rfl (by rfl) (by rfl) Tryz.underlying22 (by kernel_rfl) (by omega)) ?_
      refine Rg.qE 8 48 (by rfl) (Ev.loadEl rfl (by rfl) (ReadsIn.row 0 (by rfl)) (by kernel_rfl) (by intro _; rfl) (by assumption)) ?_
      refine Rg.does 9 (by rfl) (by kernel_rfl) (Does.readV rfl (by rfl) (ord_fnv y x) (by rfl) (by rfl) trivial) (by rfl) (some 49) (by rfl) (by exact fun _ _ h => h) ?_
      rintro _ -
      refine Rg.qE 10 50 (by rfl) (Ev.lss rfl (by rfl) (by rfl)) ?_
      refine Rg.done (by kernel_rfl) ?_ _
      rw [ordI_lt]
      cases hlt : ltT y x with
      | true =>
       refine go [23,4,0] ?_
       refine Ls.qE 52 (Ev.addN (b := 1) rfl (by rfl) (by rfl) (by omega)) ?_
       refine go [5,2] ?_
       refine Ent.iA ((h + 1, j)) ?_
       (try dsimp only); exact ⟨hs.up hB hh1 hh2 hy (ltT_ord.asym _ _ hlt), by omega⟩
      | false =>
       refine go [24,4,0,5,2] ?_
       refine Ent.iA ((i, h)) ?_
       (try dsimp only); exact ⟨hs.down hB hh1 hh2 hy hlt, by omega⟩
    · obtain rfl : i = j := by have := of_decide_eq_false h2; omega
      refine Cd.exit ?_
      refine go [3,3,4,0,5,2,21] ?_
      refine Cd.loop (ι := Nat × List TbP) (fun p => [(0, .slice A n c), (10, .int .i64 i), (13, .int .i64 p.1)]) (fun p => [rowTb A n c p.2]) (fun p => p.1 + 1 ≤ i ∧ Rgt D x a b p.1 p.2) (fun p => i - p.1) ((a, D)) (⟨s1, Mv.refl _ _ _, Nat.le_refl _, hx, fun p q1 q2 => absurd q2 (by dsimp only; omega), fun _ _ => rfl⟩) ?_ rfl ?_
      · (repeat (first | exact trivial | refine ⟨by rfl, ?_⟩))
      rintro ⟨k, D1⟩ ⟨hk, hr⟩
      dsimp only at hk hr ⊢
      have hl1 : D1.length = n := hr.mv.len.trans hn
      have hak := hr.le
      refine go [3,3,4,0,0] ?_
      refine Ls.qE 57 (Ev.subN (b := 1) rfl (by rfl) (by rfl) (by omega)) ?_
      refine go [16,2] ?_
      refine Cd.cond _ (by rfl) (fun h3 => ?_) (fun h3 => ?_)
      · have hki : k + 1 < i := by have := of_decide_eq_true h3; omega
        obtain ⟨y, hy⟩ := get_of_lt (show k + 1 < D1.length by omega)
        have hhere := hr.here
        refine Ent.rowSome 0 (by rfl) (by omega) (fun ad had => ?_)
        obtain rfl : A = some ad := had
        refine go [6,3,21] ?_
        refine Cd.draw [15] (by kernel_rfl) ?_
        refine Rg.qE 0 61 (by rfl) (Ev.move rfl (by rfl)) ?_
        refine Rg.qE 1 62 (by rfl) (Ev.move rfl (by rfl)) ?_
        refine Rg.mv 2 (by rfl) (fun _ h => h) rfl (by rfl) (by rfl) (some 63) (by rfl) (by kernel_rfl) (by kernel_rfl) (by kernel_rfl) (by kernel_rfl) ?_
        refine Rg.mv 3 (by rfl) (fun _ h => h) rfl (by rfl) (by rfl) (some 64) (by rfl) (by kernel_rfl) (by kernel_rfl) (by kernel_rfl) (by kernel_rfl) ?_
        refine Rg.pv 4 (by rfl) (fun _ h => h) (fun _ => Ev.addN (b := 1) rfl (by rfl) (by rfl) (by omega)) (by rfl) (some 65) (by rfl) (by kernel_rfl) (by kernel_rfl) (by kernel_rfl) (by kernel_rfl) ?_
        refine Rg.qE 5 66 (by rfl) (Ev.move rfl (by rfl)) ?_
        refine Rg.qE 6 67 (by rfl) (Ev.move rfl (by rfl)) ?_
        refine Rg.qE 7 68 (by rfl) (Ev.addN (b := 1) rfl (by rfl) (by rfl) (by omega)) ?_
        refine Rg.qE 8 69 (by rfl) (Ev.indexAt (sz := 4) rfl (by rfl) (by rfl) Tryz.underlying22 (by kernel_rfl) (by omega)) ?_
        refine Rg.qE 9 70 (by rfl) (Ev.loadEl rfl (by rfl) (ReadsIn.row 0 (by rfl)) (by kernel_rfl) (by intro _; rfl) (by assumption)) ?_
        refine Rg.qE 10 71 (by rfl) (Ev.move rfl (by rfl)) ?_
        refine Rg.qE 11 72 (by rfl) (Ev.move rfl (by rfl)) ?_
        refine Rg.qE 12 73 (by rfl) (Ev.indexAt (sz := 4) rfl (by rfl) (by rfl) Tryz.underlying22 (by kernel_rfl) (by omega)) ?_
        refine Rg.qE 13 74 (by rfl) (Ev.loadEl rfl (by rfl) (ReadsIn.row 0 (by rfl)) (by kernel_rfl) (by intro _; rfl) (by assumption)) ?_
        refine Rg.qE 14 75 (by rfl) (Ev.indexAt (sz := 4) rfl (by rfl) (by rfl) Tryz.underlying22 (by kernel_rfl) (by omega)) ?_
        refine Rg.tail 15 [17] (by rfl) (by kernel_rfl) (Does.storeTb (k := k) (v := y) 0 rfl (by rfl) (by rfl) (by rfl) rfl (by kernel_rfl) (by omega) hl1) (by rfl) none (by rfl) (by kernel_rfl) (by kernel_rfl) ?_
        rintro _ -
        refine Rg.qE 16 76 (by rfl) (Ev.indexAt (sz := 4) rfl (by rfl) (by rfl) Tryz.underlying22 (by kernel_rfl) (by omega)) ?_
        refine Rg.tail 17 [] (by rfl) (by kernel_rfl) (Does.storeTb (k := k + 1) (v := x) 0 rfl (by rfl) (by rfl) (by rfl) rfl (by kernel_rfl) (by rw [List.length_set]; omega) (by rw [List.length_set]; exact hl1)) (by rfl) none (by rfl) (by kernel_rfl) (by kernel_rfl) ?_
        rintro _ -
        refine Rg.done (by kernel_rfl) ?_ _
        refine go [4,0] ?_
        refine Ls.qE 60 (Ev.addN (b := 1) rfl (by rfl) (by rfl) (by omega)) ?_
        refine go [5,2] ?_
        refine Ent.iA ((k + 1, (D1.set k y).set (k + 1) x)) ?_
        (try dsimp only); exact ⟨⟨hki, hr.step (by omega) hy⟩, by omega⟩
      · obtain rfl : i = k + 1 := by have := of_decide_eq_false h3; omega
        refine Cd.exit ?_
        refine Cd.ret ?_
        exact Ent.rA (D1) [0] (⟨hr.mv, front_sorted ltT_ord hx hB (by omega) s3 hs.low hs.high (fun p q1 q2 => hr.past p q1 (by omega)) hr.here (fun p q => hr.rest p (by omega))⟩) (Res.nothing (by rfl))
  · have hne1 : m - a ≠ 1 := by have := of_decide_eq_false h1; omega
    refine go [6,3,3,4,0,0] ?_
    refine Ls.qE 79 (Ev.subN rfl (by rfl) (by rfl) (by omega)) ?_
    refine go [19,2] ?_
    refine Cd.cond _ (by rfl) (fun h1b => ?_) (fun h1b => ?_)
    · obtain rfl : b = m + 1 := by have := of_decide_eq_true h1b; omega
      obtain ⟨x, hx⟩ := get_of_lt (show m < D.length by omega)
      refine go [3,4,0,5,25,0,5,2,3,21] ?_
      refine Cd.loop (ι := Nat × Nat) (fun p => [(0, .slice A n c), (2, .int .i64 m), (4, ordV), (14, .int .i64 p.1), (15, .int .i64 p.2)]) (fun _ => [rowTb A n c D]) (fun p => Srch D x a m p.1 p.2) (fun p => p.2 - p.1) ((a, m)) (Srch.start D x (Nat.le_of_lt ham)) ?_ rfl ?_
      · (repeat (first | exact trivial | refine ⟨by rfl, ?_⟩))
      rintro ⟨i, j⟩ hs
      dsimp only at hs ⊢
      have s1 := hs.l1
      have s2 := hs.l2
      have s3 := hs.l3
      refine go [3,3,4,0,0,16,2] ?_
      refine Cd.cond _ (by rfl) (fun h2 => ?_) (fun h2 => ?_)
      · have hij : i < j := by have := of_decide_eq_true h2; omega
        obtain ⟨h, hh⟩ : ∃ h, h = (i + j) / 2 := ⟨_, rfl⟩
        have hh1 : i ≤ h := by omega
        have hh2 : h < j := by omega
        obtain ⟨y, hy⟩ := get_of_lt (show h < D.length by omega)
        refine Ent.rowSome 0 (by rfl) (by omega) (fun ad had => ?_)
        obtain rfl : A = some ad := had
        refine go [6,21,3,4,0,0] ?_
        refine Ls.qE 88 (Ev.addN rfl (by rfl) (by rfl) (by omega)) ?_
        refine Ls.qE 89 (Ev.convU rfl (by rfl) (by kernel_rfl) Tryz.underlying156 (by omega)) ?_
        refine Ls.qE 90 (Ev.to (Ev.shr rfl (by rfl) (by rfl) (by decide)) (congrArg (Value.int .u64) (half_ (i + j)))) ?_
        rw [← hh]
        refine Ls.qE 91 (Ev.convI rfl (by rfl) (by kernel_rfl) Tryz.underlying3 (by omega)) ?_
        refine go [5,2,3] ?_
        refine Cd.draw [] (by kernel_rfl) ?_
        refine Rg.qE 0 92 (by rfl) (Ev.move rfl (by rfl)) ?_
        refine Rg.qE 1 93 (by rfl) (Ev.move rfl (by rfl)) ?_
        refine Rg.qE 2 94 (by rfl) (Ev.move rfl (by rfl)) ?_
        refine Rg.qE 3 95 (by rfl) (Ev.indexAt (sz := 4) rfl (by rfl) (by rfl) Tryz.underlying22 (by kernel_rfl) (by omega)) ?_
        refine Rg.qE 4 96 (by rfl) (Ev.loadEl rfl (by rfl) (ReadsIn.row 0 (by rfl)) (by kernel_rfl) (by intro _; rfl) (by assumption)) ?_
        refine Rg.qE 5 97 (by rfl) (Ev.move rfl (by rfl)) ?_
        refine Rg.qE 6 98 (by rfl) (Ev.move rfl (by rfl)) ?_
        refine Rg.qE 7 99 (by rfl) (Ev.indexAt (sz := 4) rfl (by rfl) (by rfl) Tryz.underlying22 (by kernel_rfl) (by omega)) ?_
        refine Rg.qE 8 100 (by rfl) (Ev.loadEl rfl (by rfl) (ReadsIn.row 0 (by rfl)) (by kernel_rfl) (by intro _; rfl) (by assumption)) ?_
        refine Rg.does 9 (by rfl) (by kernel_rfl) (Does.readV rfl (by rfl) (ord_fnv x y) (by rfl) (by rfl) trivial) (by rfl) (some 101) (by rfl) (by exact fun _ _ h => h) ?_
        rintro _ -
        refine Rg.qE 10 102 (by rfl) (Ev.lss rfl (by rfl) (by rfl)) ?_
        refine Rg.qE 11 103 (by rfl) (Ev.not rfl (by rfl)) ?_
        refine Rg.done (by kernel_rfl) ?_ _
        rw [ordI_lt]
        cases hlt : ltT x y with
        | false =>
         refine go [23,4,0] ?_
         refine Ls.qE 105 (Ev.addN (b := 1) rfl (by rfl) (by rfl) (by omega)) ?_
         refine go [5,2] ?_
         refine Ent.iA ((h + 1, j)) ?_
         (try dsimp only); exact ⟨hs.up hA hh1 hh2 hy hlt, by omega⟩
        | true =>
         refine go [24,4,0,5,2] ?_
         refine Ent.iA ((i, h)) ?_
         (try dsimp only); exact ⟨hs.down hA hh1 hh2 hy (ltT_ord.asym _ _ hlt), by omega⟩
      · obtain rfl : i = j := by have := of_decide_eq_false h2; omega
        refine Cd.exit ?_
        refine go [3,3,4,0,5,2,21] ?_
        refine Cd.loop (ι := Nat × List TbP) (fun p => [(0, .slice A n c), (14, .int .i64 i), (17, .int .i64 p.1)]) (fun p => [rowTb A n c p.2]) (fun p => i ≤ p.1 ∧ Lft D x a m p.1 p.2) (fun p => p.1 - i) ((m, D)) (⟨s3, Mv.refl _ _ _, Nat.le_refl _, hx, fun p q1 q2 => absurd q2 (by dsimp only at q1; omega), fun _ _ => rfl⟩) ?_ rfl ?_
        · (repeat (first | exact trivial | refine ⟨by rfl, ?_⟩))
        rintro ⟨k, D1⟩ ⟨hk, hr⟩
        dsimp only at hk hr ⊢
        have hl1 : D1.length = n := hr.mv.len.trans hn
        have hkm := hr.le
        refine go [3,3,4,0,0,18,2] ?_
        refine Cd.cond _ (by rfl) (fun h3 => ?_) (fun h3 => ?_)
        · have hki : i < k := by have := of_decide_eq_true h3; omega
          obtain ⟨k, rfl⟩ : ∃ l, k = l + 1 := ⟨k - 1, by omega⟩
          obtain ⟨y, hy⟩ := get_of_lt (show k < D1.length by omega)
          have hhere := hr.here
          refine Ent.rowSome 0 (by rfl) (by omega) (fun ad had => ?_)
          obtain rfl : A = some ad := had
          refine go [6,3,21] ?_
          refine Cd.draw [15] (by kernel_rfl) ?_
          refine Rg.qE 0 113 (by rfl) (Ev.move rfl (by rfl)) ?_
          refine Rg.qE 1 114 (by rfl) (Ev.move rfl (by rfl)) ?_
          refine Rg.mv 2 (by rfl) (fun _ h => h) rfl (by rfl) (by rfl) (some 115) (by rfl) (by kernel_rfl) (by kernel_rfl) (by kernel_rfl) (by kernel_rfl) ?_
          refine Rg.mv 3 (by rfl) (fun _ h => h) rfl (by rfl) (by rfl) (some 116) (by rfl) (by kernel_rfl) (by kernel_rfl) (by kernel_rfl) (by kernel_rfl) ?_
          refine Rg.pv 4 (by rfl) (fun _ h => h) (fun _ => Ev.subN (b := 1) rfl (by rfl) (by rfl) (by omega)) (by rfl) (some 117) (by rfl) (by kernel_rfl) (by kernel_rfl) (by kernel_rfl) (by kernel_rfl) ?_
          refine Rg.qE 5 118 (by rfl) (Ev.move rfl (by rfl)) ?_
          refine Rg.qE 6 119 (by rfl) (Ev.move rfl (by rfl)) ?_
          refine Rg.qE 7 120 (by rfl) (Ev.subN (b := 1) rfl (by rfl) (by rfl) (by omega)) ?_
          refine Rg.qE 8 121 (by rfl) (Ev.indexAt (sz := 4) rfl (by rfl) (by rfl) Tryz.underlying22 (by kernel_rfl) (by omega)) ?_
          refine Rg.qE 9 122 (by rfl) (Ev.loadEl rfl (by rfl) (ReadsIn.row 0 (by rfl)) (by kernel_rfl) (by intro _; rfl) (by assumption)) ?_
          refine Rg.qE 10 123 (by rfl) (Ev.move rfl (by rfl)) ?_
          refine Rg.qE 11 124 (by rfl) (Ev.move rfl (by rfl)) ?_
          refine Rg.qE 12 125 (by rfl) (Ev.indexAt (sz := 4) rfl (by rfl) (by rfl) Tryz.underlying22 (by kernel_rfl) (by omega)) ?_
          refine Rg.qE 13 126 (by rfl) (Ev.loadEl rfl (by rfl) (ReadsIn.row 0 (by rfl)) (by kernel_rfl) (by intro _; rfl) (by assumption)) ?_
          refine Rg.qE 14 127 (by rfl) (Ev.indexAt (sz := 4) rfl (by rfl) (by rfl) Tryz.underlying22 (by kernel_rfl) (by omega)) ?_
          refine Rg.tail 15 [17] (by rfl) (by kernel_rfl) (Does.storeTb (k := k + 1) (v := y) 0 rfl (by rfl) (by rfl) (by rfl) rfl (by kernel_rfl) (by omega) hl1) (by rfl) none (by rfl) (by kernel_rfl) (by kernel_rfl) ?_
          rintro _ -
          refine Rg.qE 16 128 (by rfl) (Ev.indexAt (sz := 4) rfl (by rfl) (by rfl) Tryz.underlying22 (by kernel_rfl) (by omega)) ?_
          refine Rg.tail 17 [] (by rfl) (by kernel_rfl) (Does.storeTb (k := k) (v := x) 0 rfl (by rfl) (by rfl) (by rfl) rfl (by kernel_rfl) (by rw [List.length_set]; omega) (by rw [List.length_set]; exact hl1)) (by rfl) none (by rfl) (by kernel_rfl) (by kernel_rfl) ?_
          rintro _ -
          refine Rg.done (by kernel_rfl) ?_ _
          refine go [4,0] ?_
          refine Ls.qE 112 (Ev.subN (b := 1) rfl (by rfl) (by rfl) (by omega)) ?_
          refine go [5,2] ?_
          refine Ent.iA ((k, (D1.set (k + 1) y).set k x)) ?_
          (try dsimp only); exact ⟨⟨by omega, hr.step (by omega) hy⟩, by omega⟩
        · obtain rfl : k = i := by have := of_decide_eq_false h3; omega
          refine Cd.exit ?_
          refine Cd.ret ?_
          exact Ent.rA (D1) [0] (⟨hr.mv, back_sorted ltT_ord hx hA s1 s3 hs.low hs.high (fun p q1 q2 => hr.past p q1 q2) hr.here (fun p q => hr.rest p q)⟩) (Res.nothing (by rfl))
    · refine go [6,3,4,0,0] ?_
      refine Ls.qE 131 (Ev.addN rfl (by rfl) (by rfl) (by omega)) ?_
      refine Ls.qE 132 (Ev.convU rfl (by rfl) (by kernel_rfl) Tryz.underlying156 (by omega)) ?_
      refine Ls.qE 133 (Ev.to (Ev.shr rfl (by rfl) (by rfl) (by decide)) (congrArg (Value.int .u64) (half_ (a + b)))) ?_
      refine Ls.qE 134 (Ev.convI rfl (by rfl) (by kernel_rfl) Tryz.underlying3 (by omega)) ?_
      refine go [5,25,0,0] ?_
      refine Ls.qE 137 (Ev.addN rfl (by rfl) (by rfl) (by omega)) ?_
      refine go [5,25,5,5,2,3,3,4,0,0,18,2] ?_
      refine Cd.cut (ι := Nat × Nat) (fun p => [(0, .slice A n c), (1, .int .i64 a), (2, .int .i64 m), (3, .int .i64 b), (4, ordV), (18, .int .i64 ((a + b) / 2 : Nat)), (19, .int .i64 ((a + b) / 2 + m : Nat)), (20, .int .i64 p.1), (21, .int .i64 p.2)]) (fun _ => [rowTb A n c D]) (fun p => CutS D a m b p.1 p.2) ?_ ?_
      · refine Cd.cond _ (by rfl) (fun h2 => ?_) (fun h2 => ?_)
        · have h2 : (a + b) / 2 < m := by have := of_decide_eq_true h2; omega
          refine go [3,4,0,0] ?_
          refine Ls.qE 143 (Ev.subN rfl (by rfl) (by rfl) (by omega)) ?_
          refine go [5,2,4,0,5,2] ?_
          refine Ent.iA (((a + b) / 2 + m - b, (a + b) / 2)) ?_
          (try dsimp only); exact ⟨by omega, by omega, by omega, by omega, by omega, fun x y q1 q2 => absurd q2 (by omega), fun x y q1 q2 => absurd q2 (by omega)⟩
        · have h2 : m ≤ (a + b) / 2 := by have := of_decide_eq_false h2; omega
          refine go [3,4,0,5,2,4,0,5,2] ?_
          refine Ent.iA ((a, m)) ?_
          (try dsimp only); exact ⟨by omega, by omega, by omega, by omega, by omega, fun x y q1 q2 => absurd q1 (by omega), fun x y q1 q2 => absurd q1 (by omega)⟩
      rintro ⟨s0, r0⟩ hc0
      dsimp only at hc0 ⊢
      refine go [3,4,0] ?_
      refine Ls.qE 148 (Ev.subN (b := 1) rfl (by rfl) (by rfl) (by omega)) ?_
      refine go [5,2,3,21] ?_
      refine Cd.loop (ι := Nat × Nat) (fun p => [(0, .slice A n c), (1, .int .i64 a), (2, .int .i64 m), (3, .int .i64 b), (4, ordV), (18, .int .i64 ((a + b) / 2 : Nat)), (19, .int .i64 ((a + b) / 2 + m : Nat)), (20, .int .i64 p.1), (21, .int .i64 p.2), (22, .int .i64 ((a + b) / 2 + m - 1 : Nat))]) (fun _ => [rowTb A n c D]) (fun p => CutS D a m b p.1 p.2) (fun p => p.2 - p.1) ((s0, r0)) (hc0) ?_ rfl ?_
      · (repeat (first | exact trivial | refine ⟨by rfl, ?_⟩))
      rintro ⟨s, r⟩ hc
      dsimp only at hc ⊢
      obtain ⟨l1, l2, l3, l4, l5, clo, chi⟩ := hc
      refine go [3,3,4,0,0,16,2] ?_
      refine Cd.cond _ (by rfl) (fun h3 => ?_) (fun h3 => ?_)
      · have hsr : s < r := by have := of_decide_eq_true h3; omega
        obtain ⟨h, hh⟩ : ∃ h, h = (s + r) / 2 := ⟨_, rfl⟩
        have hh1 : s ≤ h := by omega
        have hh2 : h < r := by omega
        obtain ⟨x, hx⟩ := get_of_lt (show h < D.length by omega)
        obtain ⟨y, hy⟩ := get_of_lt (show (a + b) / 2 + m - 1 - h < D.length by omega)
        refine Ent.rowSome 0 (by rfl) (by omega) (fun ad had => ?_)
        obtain rfl : A = some ad := had
        refine go [6,21,3,4,0,0] ?_
        refine Ls.qE 154 (Ev.addN rfl (by rfl) (by rfl) (by omega)) ?_
        refine Ls.qE 155 (Ev.convU rfl (by rfl) (by kernel_rfl) Tryz.underlying156 (by omega)) ?_
        refine Ls.qE 156 (Ev.to (Ev.shr rfl (by rfl) (by rfl) (by decide)) (congrArg (Value.int .u64) (half_ (s + r)))) ?_
        rw [← hh]
        refine Ls.qE 157 (Ev.convI rfl (by rfl) (by kernel_rfl) Tryz.underlying3 (by omega)) ?_
        refine go [5,2,3] ?_
        refine Cd.draw [] (by kernel_rfl) ?_
        refine Rg.qE 0 158 (by rfl) (Ev.move rfl (by rfl)) ?_
        refine Rg.qE 1 159 (by rfl) (Ev.move rfl (by rfl)) ?_
        refine Rg.qE 2 160 (by rfl) (Ev.move rfl (by rfl)) ?_
        refine Rg.qE 3 161 (by rfl) (Ev.move rfl (by rfl)) ?_
        refine Rg.qE 4 162 (by rfl) (Ev.subN rfl (by rfl) (by rfl) (by omega)) ?_
        refine Rg.qE 5 163 (by rfl) (Ev.indexAt (sz := 4) rfl (by rfl) (by rfl) Tryz.underlying22 (by kernel_rfl) (by omega)) ?_
        refine Rg.qE 6 164 (by rfl) (Ev.loadEl rfl (by rfl) (ReadsIn.row 0 (by rfl)) (by kernel_rfl) (by intro _; rfl) (by assumption)) ?_
        refine Rg.qE 7 165 (by rfl) (Ev.move rfl (by rfl)) ?_
        refine Rg.qE 8 166 (by rfl) (Ev.move rfl (by rfl)) ?_
        refine Rg.qE 9 167 (by rfl) (Ev.indexAt (sz := 4) rfl (by rfl) (by rfl) Tryz.underlying22 (by kernel_rfl) (by omega)) ?_
        refine Rg.qE 10 168 (by rfl) (Ev.loadEl rfl (by rfl) (ReadsIn.row 0 (by rfl)) (by kernel_rfl) (by intro _; rfl) (by assumption)) ?_
        refine Rg.does 11 (by rfl) (by kernel_rfl) (Does.readV rfl (by rfl) (ord_fnv y x) (by rfl) (by rfl) trivial) (by rfl) (some 169) (by rfl) (by exact fun _ _ h => h) ?_
        rintro _ -
        refine Rg.qE 12 170 (by rfl) (Ev.lss rfl (by rfl) (by rfl)) ?_
        refine Rg.qE 13 171 (by rfl) (Ev.not rfl (by rfl)) ?_
        refine Rg.done (by kernel_rfl) ?_ _
        rw [ordI_lt]
        cases hlt : ltT y x with
        | false =>
         refine go [23,4,0] ?_
         refine Ls.qE 173 (Ev.addN (b := 1) rfl (by rfl) (by rfl) (by omega)) ?_
         refine go [5,2] ?_
         refine Ent.iA ((h + 1, r)) ?_
         (try dsimp only); exact ⟨⟨by omega, by omega, by omega, by omega, by omega, fun u v _ _ hu hv => by
         rw [Nat.add_sub_cancel, hx] at hu
         rw [show (a + b) / 2 + m - (h + 1) = (a + b) / 2 + m - 1 - h by omega, hy] at hv
         obtain rfl := Option.some.inj hu
         obtain rfl := Option.some.inj hv
         exact hlt, chi⟩, by omega⟩
        | true =>
         refine go [24,4,0,5,2] ?_
         refine Ent.iA ((s, h)) ?_
         (try dsimp only); exact ⟨⟨by omega, by omega, by omega, by omega, by omega, clo, fun u v _ _ hu hv => by
         rw [hx] at hu
         rw [show (a + b) / 2 + m - h - 1 = (a + b) / 2 + m - 1 - h by omega, hy] at hv
         obtain rfl := Option.some.inj hu
         obtain rfl := Option.some.inj hv
         exact ltT_ord.asym _ _ hlt⟩, by omega⟩
      · obtain rfl : s = r := by have := of_decide_eq_false h3; omega
        have hcut := CutS.done ⟨l1, l2, l3, l4, l5, clo, chi⟩
        obtain ⟨e, he⟩ : ∃ e, e = (a + b) / 2 + m - s := ⟨_, rfl⟩
        have he1 : m ≤ e := by omega
        have he2 : e ≤ b := by omega
        refine Cd.exit ?_
        refine go [3,4,0,0] ?_
        refine Ls.qE 177 (Ev.subN rfl (by rfl) (by rfl) (by omega)) ?_
        rw [← he]
        refine go [5,2,3,3] ?_
        refine Cd.cut (ι := Unit) (fun _ => [(0, .slice A n c), (1, .int .i64 a), (2, .int .i64 m), (3, .int .i64 b), (4, ordV), (18, .int .i64 ((a + b) / 2 : Nat)), (20, .int .i64 s), (24, .int .i64 e), (185, .bool (decide (s < m ∧ m < e)))]) (fun _ => [rowTb A n c D]) (fun _ => True) ?_ ?_
        · refine go [4,0,0,16,0] ?_
          refine Ent.split 181 (by rfl) (fun hT1 => ?_) (fun hT1 => ?_)
          · first | have hT1 := of_decide_eq_false hT1 | have hT1 := of_not_decide_false hT1 | skip
            refine go [1,1,1,10,2] ?_
            refine Ent.inv () ?_ ?_ ?_
            · exact trivial
            · (repeat (first | exact trivial | refine ⟨by rfl, ?_⟩ | refine ⟨by simp only [lenS]; rfl, ?_⟩ | refine ⟨by push_cast; rfl, ?_⟩ | refine ⟨by (show some (Value.bool _) = some (Value.bool _); congr 2; all_goals ((first | exact (decide_eq_decide.2 (by omega)) | exact (decide_eq_false (by omega)).symm | exact (decide_eq_true (by omega)).symm | exact decide_eq_true (by omega) | exact decide_eq_false (by omega)))), ?_⟩))
            · rfl
          · first | have hT1 := of_decide_eq_true hT1 | have hT1 := of_not_decide_true hT1 | skip
            refine go [0,0,16,9,2] ?_
            refine Ent.inv () ?_ ?_ ?_
            · exact trivial
            · (repeat (first | exact trivial | refine ⟨by rfl, ?_⟩ | refine ⟨by simp only [lenS]; rfl, ?_⟩ | refine ⟨by push_cast; rfl, ?_⟩ | refine ⟨by (show some (Value.bool _) = some (Value.bool _); congr 2; all_goals ((first | exact (decide_eq_decide.2 (by omega)) | exact (decide_eq_false (by omega)).symm | exact (decide_eq_true (by omega)).symm | exact decide_eq_true (by omega) | exact decide_eq_false (by omega)))), ?_⟩))
            · rfl
        rintro _ -
        refine Cd.cut (ι := List TbP) (fun _ => [(0, .slice A n c), (1, .int .i64 a), (2, .int .i64 m), (3, .int .i64 b), (4, ordV), (18, .int .i64 ((a + b) / 2 : Nat)), (20, .int .i64 s), (24, .int .i64 e)]) (fun D1 => [rowTb A n c D1]) (fun D1 => Rot s m e D D1) ?_ ?_
        · refine Cd.cond _ (by rfl) (fun h4 => ?_) (fun h4 => ?_)
          · have h4 := of_decide_eq_true h4
            refine go [4,0,0,0,0,0] ?_
            refine Ls.does (some 191) (Does.call [0] rfl Tryz.func142 (by kernel_rfl) (by kernel_rfl) (rot_sl A n c D s m e hn h4.1 h4.2 (by omega) hm) (by rfl) (by rfl) (by rfl)) (by rfl) (by rfl) ?_
            rintro D1 hrot
            refine Ls.nil ?_
            refine Ent.iA (D1) ?_
            (try dsimp only); exact hrot
          · have h4 := of_decide_eq_false h4
            refine Cd.skip ?_
            refine Ent.iA (D) ?_
            (try dsimp only); exact Rot.none_ (by omega)
        rintro D1 hrot
        have hl1 : D1.length = n := hrot.mv.len.trans hn
        have hrot' := hrot
        rw [he] at hrot'
        obtain ⟨q1, q2, q3, q4, q5⟩ := rot_cross ltT_ord hA hB hcut (by omega) hrot'
        rw [← he] at q3 q4
        refine go [3,3] ?_
        refine Cd.cut (ι := Unit) (fun _ => [(0, .slice A n c), (1, .int .i64 a), (2, .int .i64 m), (3, .int .i64 b), (4, ordV), (18, .int .i64 ((a + b) / 2 : Nat)), (20, .int .i64 s), (24, .int .i64 e), (199, .bool (decide (a < s ∧ s < (a + b) / 2)))]) (fun _ => [rowTb A n c D1]) (fun _ => True) ?_ ?_
        · refine go [4,0,0,16,0] ?_
          refine Ent.split 195 (by rfl) (fun hT1 => ?_) (fun hT1 => ?_)
          · first | have hT1 := of_decide_eq_false hT1 | have hT1 := of_not_decide_false hT1 | skip
            refine go [1,1,1,10,2] ?_
            refine Ent.inv () ?_ ?_ ?_
            · exact trivial
            · (repeat (first | exact trivial | refine ⟨by rfl, ?_⟩ | refine ⟨by simp only [lenS]; rfl, ?_⟩ | refine ⟨by push_cast; rfl, ?_⟩ | refine ⟨by (show some (Value.bool _) = some (Value.bool _); congr 2; all_goals ((first | exact (decide_eq_decide.2 (by omega)) | exact (decide_eq_false (by omega)).symm | exact (decide_eq_true (by omega)).symm | exact decide_eq_true (by omega) | exact decide_eq_false (by omega)))), ?_⟩))
            · rfl
          · first | have hT1 := of_decide_eq_true hT1 | have hT1 := of_not_decide_true hT1 | skip
            refine go [0,0,16,9,2] ?_
            refine Ent.inv () ?_ ?_ ?_
            · exact trivial
            · (repeat (first | exact trivial | refine ⟨by rfl, ?_⟩ | refine ⟨by simp only [lenS]; rfl, ?_⟩ | refine ⟨by push_cast; rfl, ?_⟩ | refine ⟨by (show some (Value.bool _) = some (Value.bool _); congr 2; all_goals ((first | exact (decide_eq_decide.2 (by omega)) | exact (decide_eq_false (by omega)).symm | exact (decide_eq_true (by omega)).symm | exact decide_eq_true (by omega) | exact decide_eq_false (by omega)))), ?_⟩))
            · rfl
        rintro _ -
        refine Cd.cut (ι := List TbP) (fun _ => [(0, .slice A n c), (1, .int .i64 a), (2, .int .i64 m), (3, .int .i64 b), (4, ordV), (18, .int .i64 ((a + b) / 2 : Nat)), (20, .int .i64 s), (24, .int .i64 e)]) (fun D2 => [rowTb A n c D2]) (fun D2 => Mv a ((a + b) / 2) D1 D2 ∧ SOn ltT D2 a ((a + b) / 2)) ?_ ?_
        · refine Cd.cond _ (by rfl) (fun h5 => ?_) (fun h5 => ?_)
          · have h5 := of_decide_eq_true h5
            refine go [4,0,0,0,0,0] ?_
            refine Ls.does (some 205) (Does.call [0] rfl Tryz.func120 (by kernel_rfl) (by kernel_rfl) (ih D1 a s ((a + b) / 2) (by omega) hl1 h5.1 h5.2 (by omega) q1 q2) (by rfl) (by rfl) (by rfl)) (by rfl) (by rfl) ?_
            rintro D2 hD2
            refine Ls.nil ?_
            refine Ent.iA (D2) ?_
            (try dsimp only); exact hD2
          · have h5 := of_decide_eq_false h5
            refine Cd.skip ?_
            refine Ent.iA (D1) ?_
            (try dsimp only); exact ⟨Mv.refl _ _ _, mid_sorted q1 q2 h5 l1 l4⟩
        rintro D2 ⟨hm2, hs2⟩
        have hl2 : D2.length = n := hm2.len.trans hl1
        have q3' := q3.stay hm2 (.inr (Nat.le_refl _))
        have q4' := q4.stay hm2 (.inr (by omega))
        refine Cd.seq ?_
        refine Cd.cut (ι := Unit) (fun _ => [(0, .slice A n c), (1, .int .i64 a), (2, .int .i64 m), (3, .int .i64 b), (4, ordV), (18, .int .i64 ((a + b) / 2 : Nat)), (24, .int .i64 e), (213, .bool (decide ((a + b) / 2 < e ∧ e < b)))]) (fun _ => [rowTb A n c D2]) (fun _ => True) ?_ ?_
        · refine go [4,0,0,16,0] ?_
          refine Ent.split 209 (by rfl) (fun hT1 => ?_) (fun hT1 => ?_)
          · first | have hT1 := of_decide_eq_false hT1 | have hT1 := of_not_decide_false hT1 | skip
            refine go [1,1,1,10,2] ?_
            refine Ent.inv () ?_ ?_ ?_
            · exact trivial
            · (repeat (first | exact trivial | refine ⟨by rfl, ?_⟩ | refine ⟨by simp only [lenS]; rfl, ?_⟩ | refine ⟨by push_cast; rfl, ?_⟩ | refine ⟨by (show some (Value.bool _) = some (Value.bool _); congr 2; all_goals ((first | exact (decide_eq_decide.2 (by omega)) | exact (decide_eq_false (by omega)).symm | exact (decide_eq_true (by omega)).symm | exact decide_eq_true (by omega) | exact decide_eq_false (by omega)))), ?_⟩))
            · rfl
          · first | have hT1 := of_decide_eq_true hT1 | have hT1 := of_not_decide_true hT1 | skip
            refine go [0,0,16,9,2] ?_
            refine Ent.inv () ?_ ?_ ?_
            · exact trivial
            · (repeat (first | exact trivial | refine ⟨by rfl, ?_⟩ | refine ⟨by simp only [lenS]; rfl, ?_⟩ | refine ⟨by push_cast; rfl, ?_⟩ | refine ⟨by (show some (Value.bool _) = some (Value.bool _); congr 2; all_goals ((first | exact (decide_eq_decide.2 (by omega)) | exact (decide_eq_false (by omega)).symm | exact (decide_eq_true (by omega)).symm | exact decide_eq_true (by omega) | exact decide_eq_false (by omega)))), ?_⟩))
            · rfl
        rintro _ -
        refine Cd.cut (ι := List TbP) (fun _ => [(0, .slice A n c)]) (fun D3 => [rowTb A n c D3]) (fun D3 => Mv ((a + b) / 2) b D2 D3 ∧ SOn ltT D3 ((a + b) / 2) b) ?_ ?_
        · refine Cd.cond _ (by rfl) (fun h6 => ?_) (fun h6 => ?_)
          · have h6 := of_decide_eq_true h6
            refine go [4,0,0,0,0,0] ?_
            refine Ls.does (some 219) (Does.call [0] rfl Tryz.func120 (by kernel_rfl) (by kernel_rfl) (ih D2 ((a + b) / 2) e b (by omega) hl2 h6.1 h6.2 hb q3' q4') (by rfl) (by rfl) (by rfl)) (by rfl) (by rfl) ?_
            rintro D3 hD3
            refine Ls.nil ?_
            refine Ent.iA (D3) ?_
            (try dsimp only); exact hD3
          · have h6 := of_decide_eq_false h6
            refine Cd.skip ?_
            refine Ent.iA (D2) ?_
            (try dsimp only); exact ⟨Mv.refl _ _ _, mid_sorted q3' q4' h6 (by omega) he2⟩
        rintro D3 ⟨hm3, hs3⟩
        refine Ent.fin (D3) (⟨((hrot.mv.wide l1 he2).trans (hm2.wide (Nat.le_refl _) (by omega))).trans (hm3.wide (by omega) (Nat.le_refl _)), SOn.join (hs2.stay hm3 (.inl (Nat.le_refl _))) hs3 (cross_stay q5 hm2 hm3)⟩) (Res.nothing (by rfl)) ?_ [0] (by rfl) ?_
        · rfl
        · rfl
theorem dbl_ (k : Nat) : Value.int .i64 (2 * (k : Int)) = Value.int .i64 ((2 * k : Nat) : Int) := by rw [Int.natCast_mul]; rfl
theorem dbl2_ (k : Nat) : Value.int .i64 ((k : Int) * 2) = Value.int .i64 ((2 * k : Nat) : Int) := by rw [Int.natCast_mul, Int.mul_comm]; rfl
set_option maxHeartbeats 2000000 in
theorem stable_sl (A : Option Addr) (n c : Nat) (D : List TbP) (hn : D.length = n) (hm : n ≤ 1000000000000) : Fn Tryz.prog 79 #[.slice A n c, .int .i64 n, ordV] [rowTb A n c D] (List TbP) (fun _ => .tuple #[]) (fun D' => [rowTb A n c D']) (fun D' => Mv 0 n D D' ∧ SOn ltT D' 0 n) := by
 refine Fn.enter Tryz.func79 rfl Tryz.ntmps79 (by rfl) ?_
 intro w0
 refine go [3,4,5,25,0,5,5,2,3,21] ?_
 refine Cd.loop (ι := Nat × List TbP) (fun p => [(0, .slice A n c), (1, .int .i64 n), (2, ordV), (6, .int .i64 20), (7, .int .i64 (20 * p.1 : Nat)), (8, .int .i64 (20 * p.1 + 20 : Nat))]) (fun p => [rowTb A n c p.2]) (fun p => Mv 0 n D p.2 ∧ (∀ j, j < p.1 → SOn ltT p.2 (j * 20) (j * 20 + 20)) ∧ 20 * p.1 ≤ n) (fun p => n - 20 * p.1) ((0, D)) (⟨Mv.refl _ _ _, fun j h => absurd h (Nat.not_lt_zero _), Nat.zero_le _⟩) ?_ rfl ?_
 · (repeat (first | exact trivial | refine ⟨by rfl, ?_⟩))
 rintro ⟨k, D1⟩ ⟨hmv, hso, hk⟩
 dsimp only at hmv hso hk ⊢
 have hl1 : D1.length = n := hmv.len.trans hn
 refine go [3,3,4,0,0] ?_
 refine Ls.qE 13 (Ev.leq rfl (by rfl) (by rfl)) ?_
 refine Ls.nil ?_
 refine Cd.cond _ (by rfl) (fun h2 => ?_) (fun h2 => ?_)
 · have hb : 20 * k + 20 ≤ n := by have := of_decide_eq_true h2; omega
   refine go [6,21,3,4,0,0,0,0] ?_
   refine Ls.does (some 18) (Does.call [0] rfl Tryz.func119 (by kernel_rfl) (by kernel_rfl) (ins_sl A n c D1 (20 * k) (20 * k + 20) hl1 hb (by omega) hm) (by rfl) (by rfl) (by rfl)) (by rfl) (by rfl) ?_
   rintro D2 ⟨hm2, hs2⟩
   refine go [25,0,5,2,4,0,0] ?_
   refine Ls.qE 22 (Ev.to (Ev.addI rfl (by rfl) (by rfl) (by omega)) (show Value.int .i64 (((20 * k + 20 : Nat) : Int) + 20) = Value.int .i64 ((20 * (k + 1) + 20 : Nat) : Int) by congr 1 <;> omega)) ?_
   refine go [5,2] ?_
   refine Ent.iA ((k + 1, D2)) ?_
   (try dsimp only); exact ⟨⟨hmv.trans (hm2.wide (Nat.zero_le _) hb), fun j hj => by
   by_cases e : j = k
   · subst e
     rw [Nat.mul_comm j 20]
     exact hs2
   · exact (hso j (by omega)).stay hm2 (.inl (by omega)), by omega⟩, by omega⟩
 · have hb : n < 20 * k + 20 := by have := of_decide_eq_false h2; omega
   refine Cd.exit ?_
   refine go [3,4,0,0,0,0] ?_
   refine Ls.does (some 27) (Does.call [0] rfl Tryz.func119 (by kernel_rfl) (by kernel_rfl) (ins_sl A n c D1 (20 * k) n hl1 (Nat.le_refl _) hk hm) (by rfl) (by rfl) (by rfl)) (by rfl) (by rfl) ?_
   rintro D2 ⟨hm2, hs2⟩
   refine go [2,21] ?_
   have hblk : Blk_ ltT D2 20 n := fun j => by
    by_cases e : j < k
    · exact ((hso j e).stay hm2 (.inl (by omega))).sub (Nat.le_refl _) (Nat.min_le_left _ _)
    · by_cases e2 : j = k
      · subst e2
        rw [Nat.mul_comm j 20]
        exact hs2.sub (Nat.le_refl _) (Nat.min_le_right _ _)
      · exact SOn.one (by omega)
   refine Cd.loop (ι := Nat × List TbP) (fun p => [(0, .slice A n c), (1, .int .i64 n), (2, ordV), (6, .int .i64 p.1)]) (fun p => [rowTb A n c p.2]) (fun p => 20 ≤ p.1 ∧ p.1 ≤ 2 * n + 20 ∧ Mv 0 n D p.2 ∧ Blk_ ltT p.2 p.1 n) (fun p => n - p.1) ((20, D2)) (⟨Nat.le_refl _, by dsimp only; omega, hmv.trans (hm2.wide (Nat.zero_le _) (Nat.le_refl _)), hblk⟩) ?_ rfl ?_
   · (repeat (first | exact trivial | refine ⟨by rfl, ?_⟩))
   rintro ⟨bs, D3⟩ ⟨hbs, hbs2, hm3, hb3⟩
   dsimp only at hbs hbs2 hm3 hb3 ⊢
   refine go [3,3,4,0,0,16,2] ?_
   refine Cd.cond _ (by rfl) (fun h3 => ?_) (fun h3 => ?_)
   · have hbn : bs < n := by have := of_decide_eq_true h3; omega
     refine go [6,21,3,4,0] ?_
     refine Ls.qE 32 (Ev.to (Ev.mulI rfl (by rfl) (by rfl) (by omega)) (dbl_ bs)) ?_
     refine go [5,5,2,3,21] ?_
     refine Cd.loop (ι := Nat × Nat × List TbP) (fun p => [(0, .slice A n c), (1, .int .i64 n), (2, ordV), (6, .int .i64 bs), (7, .int .i64 p.2.1), (8, .int .i64 (p.2.1 + 2 * bs : Nat))]) (fun p => [rowTb A n c p.2.2]) (fun p => p.2.1 = p.1 * (2 * bs) ∧ p.2.1 ≤ n ∧ Mv 0 n D p.2.2 ∧ Mrg ltT p.2.2 bs n p.1) (fun p => n - p.2.1) ((0, 0, D3)) (⟨(Nat.zero_mul _).symm, Nat.zero_le _, hm3, Mrg.start hb3⟩) ?_ rfl ?_
     · (first | exact ⟨by rfl, by rfl, by rfl, by rfl, by rfl, by (show some (Value.int .i64 ((2 * bs : Nat) : Int)) = some (Value.int .i64 ((0 + 2 * bs : Nat) : Int)); rw [Nat.zero_add]), trivial⟩)
     rintro ⟨k2, a, D4⟩ ⟨ha, han, hm4, hg⟩
     dsimp only at ha han hm4 hg ⊢
     have hl4 : D4.length = n := hm4.len.trans hn
     have hpt := hg.parts
     rw [← ha] at hpt
     refine go [3,3,4,0,0] ?_
     refine Ls.qE 35 (Ev.leq rfl (by rfl) (by rfl)) ?_
     refine Ls.nil ?_
     refine Cd.cond _ (by rfl) (fun h4 => ?_) (fun h4 => ?_)
     · have hab : a + 2 * bs ≤ n := by have := of_decide_eq_true h4; omega
       rw [Nat.min_eq_left (by omega), Nat.min_eq_left hab] at hpt
       refine go [6,21,3,4,0,0,0,0] ?_
       refine Ls.qE 40 (Ev.addN rfl (by rfl) (by rfl) (by omega)) ?_
       refine go [0,0] ?_
       refine Ls.does (some 43) (Does.call [0] rfl Tryz.func120 (by kernel_rfl) (by kernel_rfl) (sym_sl A n c hm (2 * bs) D4 a (a + bs) (a + 2 * bs) (by omega) hl4 (by omega) (by omega) hab hpt.1 hpt.2) (by rfl) (by rfl) (by rfl)) (by rfl) (by rfl) ?_
       rintro D5 ⟨hm5, hs5⟩
       refine go [25,0,5,2,4,0,0] ?_
       refine Ls.qE 47 (Ev.to (Ev.mulI rfl (by rfl) (by rfl) (by omega)) (dbl_ bs)) ?_
       refine Ls.qE 48 (Ev.addN rfl (by rfl) (by rfl) (by omega)) ?_
       refine go [5,2] ?_
       refine Ent.iA ((k2 + 1, a + 2 * bs, D5)) ?_
       (try dsimp only); exact ⟨⟨by rw [ha]; exact (Nat.succ_mul k2 (2 * bs)).symm, hab, hm4.trans (hm5.wide (Nat.zero_le _) hab), by rw [ha] at hm5 hs5; exact hg.step hm5 hs5⟩, by omega⟩
     · have hab : n < a + 2 * bs := by have := of_decide_eq_false h4; omega
       refine Cd.exit ?_
       refine go [3,3,4,0,0] ?_
       refine Ls.qE 51 (Ev.addN rfl (by rfl) (by rfl) (by omega)) ?_
       refine go [5,25,0,0,16,2] ?_
       refine Cd.cut (ι := List TbP) (fun _ => [(0, .slice A n c), (1, .int .i64 n), (2, ordV), (6, .int .i64 bs)]) (fun D5 => [rowTb A n c D5]) (fun D5 => Mv 0 n D D5 ∧ Blk_ ltT D5 (2 * bs) n) ?_ ?_
       · refine Cd.cond _ (by rfl) (fun h5 => ?_) (fun h5 => ?_)
         · have han2 : a + bs < n := by have := of_decide_eq_true h5; omega
           rw [Nat.min_eq_left (by omega), Nat.min_eq_right (by omega)] at hpt
           refine go [4,0,0,0,0,0] ?_
           refine Ls.does (some 60) (Does.call [0] rfl Tryz.func120 (by kernel_rfl) (by kernel_rfl) (sym_sl A n c hm n D4 a (a + bs) n (by omega) hl4 (by omega) han2 (Nat.le_refl _) hpt.1 hpt.2) (by rfl) (by rfl) (by rfl)) (by rfl) (by rfl) ?_
           rintro D5 ⟨hm5, hs5⟩
           refine Ls.nil ?_
           refine Ent.iA (D5) ?_
           (try dsimp only); exact ⟨hm4.trans (hm5.wide (Nat.zero_le _) (Nat.le_refl _)), by rw [ha] at hm5 hs5 hab; exact hg.last hab hm5 hs5⟩
         · have han2 : n ≤ a + bs := by have := of_decide_eq_false h5; omega
           rw [Nat.min_eq_right han2] at hpt
           refine Cd.skip ?_
           refine Ent.iA (D4) ?_
           (try dsimp only); exact ⟨hm4, by rw [ha] at hpt hab; exact hg.last hab (Mv.refl _ _ _) hpt.1⟩
       rintro D5 ⟨hm5, hb5⟩
       refine go [4,0] ?_
       refine Ls.qE 62 (Ev.to (Ev.mulI rfl (by rfl) (by rfl) (by omega)) (dbl2_ bs)) ?_
       refine go [5,2] ?_
       refine Ent.iA ((2 * bs, D5)) ?_
       (try dsimp only); exact ⟨⟨by omega, by omega, hm5, hb5⟩, by omega⟩
   · have hbn : n ≤ bs := by have := of_decide_eq_false h3; omega
     refine Cd.exit ?_
     refine Ent.fin (D3) (⟨hm3, hb3.all hbn⟩) (Res.nothing (by rfl)) ?_ [0] (by rfl) ?_
     · rfl
     · rfl
theorem sort_sl (A : Option Addr) (n c : Nat) (D : List TbP) (hn : D.length = n) (hm : n ≤ 1000000000000) : Fn Tryz.prog 39 #[.slice A n c, ordV] [rowTb A n c D] (List TbP) (fun _ => .tuple #[]) (fun D' => [rowTb A n c D']) (fun D' => D'.Perm D ∧ D'.Pairwise fun x y => ltT y x = false) := by
 refine Fn.enter Tryz.func39 rfl Tryz.ntmps39 (by rfl) ?_
 intro w0
 refine go [4,0,0] ?_
 refine Ls.qE 6 (Ev.len rfl (by rfl) Tryz.underlying22) ?_
 refine Ls.qM 7 ?_
 refine Ls.does (some 8) (Does.call [0] rfl Tryz.func79 (by kernel_rfl) (by kernel_rfl) (stable_sl A n c D hn hm) (by rfl) (by rfl) (by rfl)) (by rfl) (by rfl) ?_
 rintro D' ⟨h1, h2⟩
 refine Ls.nil ?_
 refine Ent.fin (D') (⟨h1.perm, h2.pair (Nat.le_of_eq (h1.len.trans hn))⟩) (Res.nothing (by rfl)) ?_ [0] (by rfl) ?_
 · rfl
 · rfl
theorem cloneT_sl (A : Option Addr) (c : Nat) (l : List TbP) (hn : l.length ≤ 1000000000) : Fn Tryz.prog 35 #[.slice A l.length c] [rdT A l] (Option Addr × Nat) (fun p => .slice p.1 l.length p.2) (fun p => [rowTb p.1 l.length p.2 l]) (fun _ => True) := by
 refine Fn.enter Tryz.func35 rfl Tryz.ntmps35 (by rfl) ?_
 intro w0
 cases A with
 | none =>
  by_cases h0 : 0 < l.length
  · refine Ent.rdSome 0 (by rfl) h0 (fun ad had => ?_)
    cases had
  · obtain rfl : l = [] := List.length_eq_zero_iff.1 (by omega)
    refine go [3,4,5,2,3,3,4,0] ?_
    refine Ls.qE 4 (Ev.isNil rfl (by rfl) (by rfl) Tryz.underlying22) ?_
    refine go [2,23,3,4,5,2] ?_
    refine Ent.nil 42 4 ?_
    refine Cd.ret ?_
    exact Ent.rA ((none, 0)) [0] trivial rT_
 | some ad =>
  refine go [3,4,5,2,3,3,4,0] ?_
  refine Ls.qE 4 (Ev.isNil rfl (by rfl) (by rfl) Tryz.underlying22) ?_
  refine go [2,24,6,3,4] ?_
  refine Ls.does (some 5) (Does.lit0 (sz := 4) rfl Tryz.underlying22 (by kernel_rfl)) (by rfl) (by rfl) ?_
  intro g1 _
  refine Ls.qM 6 ?_
  refine Ls.does (some 7) (Does.app0 (news := tbs l) 0 rfl (by rfl) (by rfl) (by rfl) (ReadsIn.rd 1 (by rfl)) elem_tb (one_tb l) (show l.length * 48 ≤ 140737488355328 by omega)) (by rfl) (by rfl) ?_
  rintro p -
  refine go [5,2,22] ?_
  exact Ent.rA (p) [0] trivial rT_
def cntV (l : List TbP) (k : Nat) (q : Int) : Value := .int .i64 ((((l.take k).map TbP.num).count q : Nat) : Int)
theorem cntV_step {l : List TbP} {k : Nat} {t : TbP} (ht : l[k]? = some t) : put (cntV l k) t.num (.int .i64 (((((l.take k).map TbP.num).count t.num : Nat) : Int) + 1)) = cntV l (k + 1) := by
 funext q
 have e : (l.take (k + 1)).map TbP.num = (l.take k).map TbP.num ++ [t.num] := by
  rw [List.take_add_one, ht, List.map_append]
  rfl
 unfold cntV put
 rw [e, List.count_append]
 by_cases h : q = t.num
 · subst h
   rw [if_pos rfl]
   simp
 · rw [if_neg h]
   have : List.count q [t.num] = 0 := List.count_eq_zero.2 (by simpa using h)
   rw [this, Nat.add_zero]
theorem cnt_one {nx : Int} {l : List TbP} {k : Nat} {t : TbP} (ht : l[k]? = some t) : ((((l.take (k + 1)).map TbP.num).count t.num : Nat) : Int) ≤ 1 ↔ ∀ (j : Nat) (u : TbP), j < k → l[j]? = some u → u.num ≠ t.num := by
 have _ := nx
 have e : (l.take (k + 1)).map TbP.num = (l.take k).map TbP.num ++ [t.num] := by
  rw [List.take_add_one, ht, List.map_append]
  rfl
 rw [e, List.count_append, show List.count t.num [t.num] = 1 by simp]
 constructor
 · intro h j u hj hu he
   have h0 : ((l.take k).map TbP.num).count t.num = 0 := by omega
   refine List.count_eq_zero.1 h0 (List.mem_map.2 ⟨u, ?_, he⟩)
   exact List.mem_of_getElem? (i := j) (by rw [List.getElem?_take, if_pos hj]; exact hu)
 · intro h
   have h0 : ((l.take k).map TbP.num).count t.num = 0 := List.count_eq_zero.2 fun hm => by
    obtain ⟨u, hu, he⟩ := List.mem_map.1 hm
    obtain ⟨j, hj⟩ := List.getElem?_of_mem hu
    rw [List.getElem?_take] at hj
    split at hj
    · rename_i hjk
      exact h j u hjk hj he
    · cases hj
   omega
theorem Does.mapPutL {Γ : Ctx} {N : Frm} {P : Program} {E : Env} {H : List Chunk} {o : Oper} {x y u : Operand} {t k e b n : Nat} {z v : Value} {f : Int → Value} {q : Int} (i : Nat) (ho : o.op = .mapUpdate t x y u) (hx : E.ev x = some (.map (some b))) (hy : E.ev y = some (.int .i64 q)) (hu : E.ev u = some v) (hi : H[i]? = some (mapc P k b n z f)) (hk : P.underlying k = some (.int .i64)) (ht : P.underlying t = some (.map k e)) (hn : n < 1000000000) (hq : -9223372036854775808 ≤ q ∧ q ≤ 9223372036854775807) :
 Does Γ N P E H o Unit (fun _ => undef) (fun _ => H.set i (mapc P k b (n + 1) z (put f q v))) (fun _ => True) := .of fun ρ hρ w hs => by
 obtain ⟨m, hm, h⟩ := hs.mem hi
 obtain ⟨w', hrun, h1, h2⟩ := h.put_ hk ht (show m < maxLen by unfold maxLen; omega) (wf64 hq) v
 refine ⟨(), w', trivial, hs.turn hi rfl h2 ⟨m + 1, by omega, h1⟩ (fun k hk => .inl hk), .inr ⟨rfl, ?_⟩⟩
 simp [execOp, ho, hρ x _ hx, hρ y _ hy, hρ u _ hu, hrun]
set_option maxHeartbeats 4000000 in
theorem good_slV (v : VsP) (A : Option Addr) (c : Nat) (hn : v.tbs.length ≤ 90000000) (hz : ∀ t ∈ v.tbs, t.fst.length ≤ 140737488355328 ∧ t.lst.length ≤ 140737488355328 ∧ in64 t.num) : Fn Tryz.prog 34 #[.agg (v.val A c).toArray] [rdT A v.tbs] Unit (fun _ => .bool (decide (goodP v))) (fun _ => []) (fun _ => True) := by
 obtain ⟨l, nx, lg, sq⟩ := v
 dsimp only [VsP.val] at hn hz ⊢
 refine Fn.enter Tryz.func34 rfl Tryz.ntmps34 (by rfl) ?_
 intro w0
 refine go [3,4] ?_
 refine Ls.does (some 1) (Does.box rfl (by rfl)) (by rfl) (by rfl) ?_
 intro g1 _
 refine go [5,2,3,3] ?_
 by_cases hr : RngOk ⟨l, nx, lg, sq⟩
 rotate_left
 · have hr2 := hr
   unfold RngOk at hr2
   dsimp only at hr2
   refine Cd.cut (ι := Unit) (fun _ => [(1, ptrW g1), (33, .bool true)]) (fun _ => []) (fun _ => True) ?_ ?_
   · refine go [4,7,1,8,0,16,0] ?_
     refine Ent.split 9 (by rfl) (fun hT1 => ?_) (fun hT1 => ?_)
     · first | have hT1 := of_decide_eq_false hT1 | have hT1 := of_not_decide_false hT1 | skip
       refine go [7,1,8,0,18,10,0] ?_
       refine Ent.split 14 (by rfl) (fun hT2 => ?_) (fun hT2 => ?_)
       · first | have hT2 := of_decide_eq_false hT2 | have hT2 := of_not_decide_false hT2 | skip
         refine go [7,2,8,0,16,10,0] ?_
         refine Ent.split 19 (by rfl) (fun hT3 => ?_) (fun hT3 => ?_)
         · first | have hT3 := of_decide_eq_false hT3 | have hT3 := of_not_decide_false hT3 | skip
           refine go [7,2,8,0,18,10,0] ?_
           refine Ent.split 24 (by rfl) (fun hT4 => ?_) (fun hT4 => ?_)
           · first | have hT4 := of_decide_eq_false hT4 | have hT4 := of_not_decide_false hT4 | skip
             refine go [7,3,8,0,16,10,0] ?_
             refine Ent.split 29 (by rfl) (fun hT5 => ?_) (fun hT5 => ?_)
             · first | have hT5 := of_decide_eq_false hT5 | have hT5 := of_not_decide_false hT5 | skip
               refine go [7,3,8,0,18,10,2] ?_
               refine Ent.pick [] (by rfl) ?_
               refine Ent.inv () ?_ ?_ ?_
               · exact trivial
               · (repeat (first | exact trivial | refine ⟨by rfl, ?_⟩ | refine ⟨by simp only [lenS]; rfl, ?_⟩ | refine ⟨by push_cast; rfl, ?_⟩ | refine ⟨by (show some (Value.bool _) = some (Value.bool _); congr 2; all_goals ((first | rfl | exact (decide_eq_true (by omega)).symm | exact (decide_eq_true (by omega)) | omega))), ?_⟩))
               · rfl
             · first | have hT5 := of_decide_eq_true hT5 | have hT5 := of_not_decide_true hT5 | skip
               refine go [1,1,1,9,2] ?_
               refine Ent.pick [] (by rfl) ?_
               refine Ent.inv () ?_ ?_ ?_
               · exact trivial
               · (repeat (first | exact trivial | refine ⟨by rfl, ?_⟩ | refine ⟨by simp only [lenS]; rfl, ?_⟩ | refine ⟨by push_cast; rfl, ?_⟩ | refine ⟨by (show some (Value.bool _) = some (Value.bool _); congr 2; all_goals ((first | rfl | exact (decide_eq_true (by omega)).symm | exact (decide_eq_true (by omega)) | omega))), ?_⟩))
               · rfl
           · first | have hT4 := of_decide_eq_true hT4 | have hT4 := of_not_decide_true hT4 | skip
             refine go [1,1,1,9,0,1,1,1,9,2] ?_
             refine Ent.pick [] (by rfl) ?_
             refine Ent.inv () ?_ ?_ ?_
             · exact trivial
             · (repeat (first | exact trivial | refine ⟨by rfl, ?_⟩ | refine ⟨by simp only [lenS]; rfl, ?_⟩ | refine ⟨by push_cast; rfl, ?_⟩ | refine ⟨by (show some (Value.bool _) = some (Value.bool _); congr 2; all_goals ((first | rfl | exact (decide_eq_true (by omega)).symm | exact (decide_eq_true (by omega)) | omega))), ?_⟩))
             · rfl
         · first | have hT3 := of_decide_eq_true hT3 | have hT3 := of_not_decide_true hT3 | skip
           refine go [1,1,1,9,0,1,1,1,9,0,1,1,1,9,2] ?_
           refine Ent.pick [] (by rfl) ?_
           refine Ent.inv () ?_ ?_ ?_
           · exact trivial
           · (repeat (first | exact trivial | refine ⟨by rfl, ?_⟩ | refine ⟨by simp only [lenS]; rfl, ?_⟩ | refine ⟨by push_cast; rfl, ?_⟩ | refine ⟨by (show some (Value.bool _) = some (Value.bool _); congr 2; all_goals ((first | rfl | exact (decide_eq_true (by omega)).symm | exact (decide_eq_true (by omega)) | omega))), ?_⟩))
           · rfl
       · first | have hT2 := of_decide_eq_true hT2 | have hT2 := of_not_decide_true hT2 | skip
         refine go [1,1,1,9,0,1,1,1,9,0,1,1,1,9,0,1,1,1,9,2] ?_
         refine Ent.pick [] (by rfl) ?_
         refine Ent.inv () ?_ ?_ ?_
         · exact trivial
         · (repeat (first | exact trivial | refine ⟨by rfl, ?_⟩ | refine ⟨by simp only [lenS]; rfl, ?_⟩ | refine ⟨by push_cast; rfl, ?_⟩ | refine ⟨by (show some (Value.bool _) = some (Value.bool _); congr 2; all_goals ((first | rfl | exact (decide_eq_true (by omega)).symm | exact (decide_eq_true (by omega)) | omega))), ?_⟩))
         · rfl
     · first | have hT1 := of_decide_eq_true hT1 | have hT1 := of_not_decide_true hT1 | skip
       refine go [1,1,1,9,0,1,1,1,9,0,1,1,1,9,0,1,1,1,9,0,1,1,1,9] ?_
       refine Ls.nil ?_
       refine Ent.pick [] (by rfl) ?_
       refine Ent.inv () ?_ ?_ ?_
       · exact trivial
       · (repeat (first | exact trivial | refine ⟨by rfl, ?_⟩ | refine ⟨by simp only [lenS]; rfl, ?_⟩ | refine ⟨by push_cast; rfl, ?_⟩ | refine ⟨by (show some (Value.bool _) = some (Value.bool _); congr 2; all_goals ((first | rfl | exact (decide_eq_true (by omega)).symm | exact (decide_eq_true (by omega)) | omega))), ?_⟩))
       · rfl
   rintro _ -
   refine go [23,3,4,5,2,22] ?_
   refine Ent.ret (()) (trivial) (Res.tmp (by rfl) (by rfl)) ?_ [] (by rfl) ?_
   · exact congrArg Value.bool (decide_eq_false (fun h => hr h.1)).symm
   · rfl
 · have hr2 := hr
   unfold RngOk at hr2
   dsimp only at hr2
   refine Cd.cut (ι := Unit) (fun _ => [(1, ptrW g1), (33, .bool false)]) (fun _ => [blk g1 24 [.slice A l.length c, .int .i64 nx, .int .i64 lg, .int .i64 sq], rdT A l]) (fun _ => True) ?_ ?_
   · refine go [4,7,1,8,0,16,0] ?_
     refine Ent.split 9 (by rfl) (fun hT1 => ?_) (fun hT1 => ?_)
     · first | have hT1 := of_decide_eq_false hT1 | have hT1 := of_not_decide_false hT1 | skip
       refine go [7,1,8,0,18,10,0] ?_
       refine Ent.split 14 (by rfl) (fun hT2 => ?_) (fun hT2 => ?_)
       · first | have hT2 := of_decide_eq_false hT2 | have hT2 := of_not_decide_false hT2 | skip
         refine go [7,2,8,0,16,10,0] ?_
         refine Ent.split 19 (by rfl) (fun hT3 => ?_) (fun hT3 => ?_)
         · first | have hT3 := of_decide_eq_false hT3 | have hT3 := of_not_decide_false hT3 | skip
           refine go [7,2,8,0,18,10,0] ?_
           refine Ent.split 24 (by rfl) (fun hT4 => ?_) (fun hT4 => ?_)
           · first | have hT4 := of_decide_eq_false hT4 | have hT4 := of_not_decide_false hT4 | skip
             refine go [7,3,8,0,16,10,0] ?_
             refine Ent.split 29 (by rfl) (fun hT5 => ?_) (fun hT5 => ?_)
             · first | have hT5 := of_decide_eq_false hT5 | have hT5 := of_not_decide_false hT5 | skip
               refine go [7,3,8,0,18,10,2] ?_
               refine Ent.inv () ?_ ?_ ?_
               · exact trivial
               · (repeat (first | exact trivial | refine ⟨by rfl, ?_⟩ | refine ⟨by simp only [lenS]; rfl, ?_⟩ | refine ⟨by push_cast; rfl, ?_⟩ | refine ⟨by (show some (Value.bool _) = some (Value.bool _); congr 2; all_goals ((first | rfl | exact (decide_eq_false (by omega)).symm | exact (decide_eq_false (by omega)) | omega))), ?_⟩))
               · rfl
             · first | have hT5 := of_decide_eq_true hT5 | have hT5 := of_not_decide_true hT5 | skip
               refine go [1,1,1,9,2] ?_
               refine Ent.inv () ?_ ?_ ?_
               · exact trivial
               · (repeat (first | exact trivial | refine ⟨by rfl, ?_⟩ | refine ⟨by simp only [lenS]; rfl, ?_⟩ | refine ⟨by push_cast; rfl, ?_⟩ | refine ⟨by (show some (Value.bool _) = some (Value.bool _); congr 2; all_goals ((first | rfl | exact (decide_eq_false (by omega)).symm | exact (decide_eq_false (by omega)) | omega))), ?_⟩))
               · rfl
           · first | have hT4 := of_decide_eq_true hT4 | have hT4 := of_not_decide_true hT4 | skip
             refine go [1,1,1,9,0,1,1,1,9,2] ?_
             refine Ent.inv () ?_ ?_ ?_
             · exact trivial
             · (repeat (first | exact trivial | refine ⟨by rfl, ?_⟩ | refine ⟨by simp only [lenS]; rfl, ?_⟩ | refine ⟨by push_cast; rfl, ?_⟩ | refine ⟨by (show some (Value.bool _) = some (Value.bool _); congr 2; all_goals ((first | rfl | exact (decide_eq_false (by omega)).symm | exact (decide_eq_false (by omega)) | omega))), ?_⟩))
             · rfl
         · first | have hT3 := of_decide_eq_true hT3 | have hT3 := of_not_decide_true hT3 | skip
           refine go [1,1,1,9,0,1,1,1,9,0,1,1,1,9,2] ?_
           refine Ent.inv () ?_ ?_ ?_
           · exact trivial
           · (repeat (first | exact trivial | refine ⟨by rfl, ?_⟩ | refine ⟨by simp only [lenS]; rfl, ?_⟩ | refine ⟨by push_cast; rfl, ?_⟩ | refine ⟨by (show some (Value.bool _) = some (Value.bool _); congr 2; all_goals ((first | rfl | exact (decide_eq_false (by omega)).symm | exact (decide_eq_false (by omega)) | omega))), ?_⟩))
           · rfl
       · first | have hT2 := of_decide_eq_true hT2 | have hT2 := of_not_decide_true hT2 | skip
         refine go [1,1,1,9,0,1,1,1,9,0,1,1,1,9,0,1,1,1,9,2] ?_
         refine Ent.inv () ?_ ?_ ?_
         · exact trivial
         · (repeat (first | exact trivial | refine ⟨by rfl, ?_⟩ | refine ⟨by simp only [lenS]; rfl, ?_⟩ | refine ⟨by push_cast; rfl, ?_⟩ | refine ⟨by (show some (Value.bool _) = some (Value.bool _); congr 2; all_goals ((first | rfl | exact (decide_eq_false (by omega)).symm | exact (decide_eq_false (by omega)) | omega))), ?_⟩))
         · rfl
     · first | have hT1 := of_decide_eq_true hT1 | have hT1 := of_not_decide_true hT1 | skip
       refine go [1,1,1,9,0,1,1,1,9,0,1,1,1,9,0,1,1,1,9,0,1,1,1,9] ?_
       refine Ls.nil ?_
       refine Ent.inv () ?_ ?_ ?_
       · exact trivial
       · (repeat (first | exact trivial | refine ⟨by rfl, ?_⟩ | refine ⟨by simp only [lenS]; rfl, ?_⟩ | refine ⟨by push_cast; rfl, ?_⟩ | refine ⟨by (show some (Value.bool _) = some (Value.bool _); congr 2; all_goals ((first | rfl | exact (decide_eq_false (by omega)).symm | exact (decide_eq_false (by omega)) | omega))), ?_⟩))
       · rfl
   rintro _ -
   refine go [24,6,3,4] ?_
   refine Ls.does (some 34) (Does.mapNew 3 (.int .i64 0) rfl) (by rfl) (by rfl) ?_
   rintro b -
   refine go [5,2,3,3,4,7,0,8,1] ?_
   refine Ls.qE 37 (Ev.len rfl (by rfl) Tryz.underlying22) ?_
   refine go [0,2,21] ?_
   refine Cd.loop (ι := Nat) (fun i => [(1, ptrW g1), (3, .map (some b)), (36, .slice A l.length c), (37, .int .i64 l.length), (38, .int .i64 i)]) (fun i => [mapc Tryz.prog 3 b i (.int .i64 0) (cntV l i), blk g1 24 [.slice A l.length c, .int .i64 nx, .int .i64 lg, .int .i64 sq], rdT A l]) (fun i => i ≤ l.length ∧ ∀ (j : Nat) (t : TbP), j < i → l[j]? = some t → OkAt nx l j t) (fun i => l.length - i) (0) (⟨Nat.zero_le _, fun j t h => absurd h (Nat.not_lt_zero _)⟩) ?_ rfl ?_
   · (repeat (first | exact trivial | refine ⟨by rfl, ?_⟩))
   rintro i ⟨hi, hall⟩
   refine go [3,4,16,2,3] ?_
   refine Cd.cond _ (by rfl) (fun h2 => ?_) (fun h2 => ?_)
   · have hlt : i < l.length := by have := of_decide_eq_true h2; omega
     obtain ⟨t, ht⟩ := get_of_lt hlt
     have htz := hz t (List.mem_of_getElem? ht)
     have hfs : (txt t.fst).size = t.fst.length := rfl
     have hls2 : (txt t.lst).size = t.lst.length := rfl
     refine Ent.rdSome 2 (by rfl) (by omega) (fun ad had => ?_)
     subst had
     refine go [6,3,21,3,4,0] ?_
     refine Ls.qE 41 (Ev.indexAt (sz := 4) rfl (by rfl) (by rfl) Tryz.underlying22 (by kernel_rfl) (by omega)) ?_
     refine Ls.qE 42 (Ev.loadEl (enc := TbP.enc) (sz := 4) rfl (by rfl) (ReadsIn.rd 2 (by rfl)) (by kernel_rfl) (fun _ => rfl) ht) ?_
     refine Ls.does (some 5) (Does.alloc (cs := [.int .i64 0, .int .i64 0, .string ⟨#[]⟩, .string ⟨#[]⟩]) rfl (ZeroIs.mk (.agg #[.int .i64 0, .int .i64 0, .string ⟨#[]⟩, .string ⟨#[]⟩]) (by kernel_rfl) (by rfl))) (by rfl) (by rfl) ?_
     intro g2 _
     refine go [5,15,0,25,0,7,0,8,0] ?_
     refine Ls.qE 46 (Ev.look 1 rfl (by rfl) (by rfl) (by rfl) Tryz.underlying3 Tryz.underlying121 (zero_of (by kernel_rfl)) htz.2.2) ?_
     have hcl : ((l.take i).map TbP.num).count t.num ≤ 90000000 := Nat.le_trans List.count_le_length (by rw [List.length_map, List.length_take]; omega)
     refine Ls.qE 47 (Ev.to (Ev.addI (a := ((((l.take i).map TbP.num).count t.num : Nat) : Int)) (b := 1) rfl (by rfl) (by rfl) (by omega)) rfl) ?_
     refine Ls.qD (Does.mapPutL 1 rfl (by rfl) (by rfl) (by rfl) (by rfl) Tryz.underlying3 Tryz.underlying121 (by omega) htz.2.2) ?_
     rintro _ -
     rw [cntV_step ht]
     refine go [2,21,3,3] ?_
     refine Cd.cut (ι := Unit) (fun _ => [(1, ptrW g1), (3, .map (some b)), (4, .int .i64 i), (5, ptrW g2), (36, .slice (some ad) l.length c), (37, .int .i64 l.length), (38, .int .i64 i), (48, .bool (decide (t.lev ≠ 0 ∧ t.lev ≠ 1)))]) (fun _ => [blk g2 42 t.enc, mapc Tryz.prog 3 b (i + 1) (.int .i64 0) (cntV l (i + 1)), blk g1 24 [.slice (some ad) l.length c, .int .i64 nx, .int .i64 lg, .int .i64 sq], rdT (some ad) l]) (fun _ => True) ?_ ?_
     · refine go [4,7,1,8,0,17,0] ?_
       refine Ent.split 52 (by rfl) (fun hT1 => ?_) (fun hT1 => ?_)
       · first | have hT1 := of_decide_eq_false hT1 | have hT1 := of_not_decide_false hT1 | skip
         refine go [1,1,1,10,5,2] ?_
         refine Ent.inv () ?_ ?_ ?_
         · exact trivial
         · (repeat (first | exact trivial | refine ⟨by rfl, ?_⟩ | refine ⟨by simp only [lenS]; rfl, ?_⟩ | refine ⟨by push_cast; rfl, ?_⟩ | refine ⟨by (show some (Value.bool _) = some (Value.bool _); congr 2; all_goals ((first | exact decide_eq_decide.2 (by omega) | exact (decide_eq_false (by omega)).symm | exact decide_eq_false (by omega) | omega))), ?_⟩))
         · rfl
       · first | have hT1 := of_decide_eq_true hT1 | have hT1 := of_not_decide_true hT1 | skip
         refine go [7,1,8,0,17,9,5,2] ?_
         refine Ent.inv () ?_ ?_ ?_
         · exact trivial
         · (repeat (first | exact trivial | refine ⟨by rfl, ?_⟩ | refine ⟨by simp only [lenS]; rfl, ?_⟩ | refine ⟨by push_cast; rfl, ?_⟩ | refine ⟨by (show some (Value.bool _) = some (Value.bool _); congr 2; all_goals ((first | exact decide_eq_decide.2 (by omega) | exact (decide_eq_false (by omega)).symm | exact decide_eq_false (by omega) | omega))), ?_⟩))
         · rfl
     rintro _ -
     refine Cd.cond _ (by rfl) (fun h3 => ?_) (fun h3 => ?_)
     · have k3 := of_decide_eq_true h3
       refine Cd.skip ?_
       refine Cd.cond_true (by rfl) (h3) ?_
       refine go [3,4,5,2,22] ?_
       refine Ent.ret (()) (trivial) (Res.tmp (by rfl) (by rfl)) ?_ [] (by rfl) ?_
       · exact congrArg Value.bool (decide_eq_false (fun h => (fun h=>by have := h.ok.lev; omega) (h.2 i t ht))).symm
       · rfl
     · have k3 := of_decide_eq_false h3
       refine go [3,4,7,0,8,0,16,5,2] ?_
       refine Cd.cond _ (by rfl) (fun h4 => ?_) (fun h4 => ?_)
       · have k4 := of_decide_eq_true h4
         refine Cd.skip ?_
         refine Cd.cond_true (by rfl) (h4) ?_
         refine go [3,4,5,2,22] ?_
         refine Ent.ret (()) (trivial) (Res.tmp (by rfl) (by rfl)) ?_ [] (by rfl) ?_
         · exact congrArg Value.bool (decide_eq_false (fun h => (fun h=>by have := h.ok.lo; omega) (h.2 i t ht))).symm
         · rfl
       · have k4 := of_decide_eq_false h4
         refine go [3,4,7,0,8,0,18,5,2] ?_
         refine Cd.cond _ (by rfl) (fun h5 => ?_) (fun h5 => ?_)
         · have k5 := of_decide_eq_true h5
           refine Cd.skip ?_
           refine Cd.cond_true (by rfl) (h5) ?_
           refine go [3,4,5,2,22] ?_
           refine Ent.ret (()) (trivial) (Res.tmp (by rfl) (by rfl)) ?_ [] (by rfl) ?_
           · exact congrArg Value.bool (decide_eq_false (fun h => (fun h=>by have := h.ok.hi; omega) (h.2 i t ht))).symm
           · rfl
         · have k5 := of_decide_eq_false h5
           refine go [4,7,0,8,0,7,1,8,2] ?_
           refine Ls.qE 67 (Ev.geq rfl (by rfl) (by rfl)) ?_
           refine go [5,2] ?_
           refine Cd.cond _ (by rfl) (fun h6 => ?_) (fun h6 => ?_)
           · have k6 := of_decide_eq_true h6
             refine go [3,4,5,2,22] ?_
             refine Ent.ret (()) (trivial) (Res.tmp (by rfl) (by rfl)) ?_ [] (by rfl) ?_
             · exact congrArg Value.bool (decide_eq_false (fun h => by have : t.num < nx := (h.2 i t ht).ok.next; omega)).symm
             · rfl
           · have k6 := of_decide_eq_false h6
             have hone := cnt_one (nx := nx) ht
             have hcv : cntV l (i + 1) t.num = .int .i64 ((((l.take (i + 1)).map TbP.num).count t.num : Nat) : Int) := rfl
             generalize (((l.take (i + 1)).map TbP.num).count t.num : Nat) = cn at hone hcv
             refine go [3,3,4,0,7,0,8,0] ?_
             refine Ls.qE 72 (Ev.to (Ev.look 1 rfl (by rfl) (by rfl) (by rfl) Tryz.underlying3 Tryz.underlying121 (zero_of (by kernel_rfl)) htz.2.2) hcv) ?_
             refine go [18,5,2] ?_
             refine Cd.cond _ (by rfl) (fun h7 => ?_) (fun h7 => ?_)
             · have k7 := of_decide_eq_true h7
               refine Cd.skip ?_
               refine Cd.cond_true (by rfl) (h7) ?_
               refine go [3,4,5,2,22] ?_
               refine Ent.ret (()) (trivial) (Res.tmp (by rfl) (by rfl)) ?_ [] (by rfl) ?_
               · exact congrArg Value.bool (decide_eq_false (fun h => (fun h=>by have := hone.2 h.once; omega) (h.2 i t ht))).symm
               · rfl
             · have k7 := of_decide_eq_false h7
               have honce := hone.1 (by omega)
               refine go [3,4,7,2,8,0,7,3,8,0] ?_
               refine Ls.qE 78 (Ev.to (Ev.gtrS rfl (by rfl) (by rfl)) (congrArg Value.bool (gtr_txt t.fst t.lst))) ?_
               refine go [5,2] ?_
               refine Cd.cond _ (by rfl) (fun h8 => ?_) (fun h8 => ?_)
               · have k8 := of_decide_eq_true h8
                 refine Cd.skip ?_
                 refine Cd.cond_true (by rfl) (h8) ?_
                 refine go [3,4,5,2,22] ?_
                 refine Ent.ret (()) (trivial) (Res.tmp (by rfl) (by rfl)) ?_ [] (by rfl) ?_
                 · exact congrArg Value.bool (decide_eq_false (fun h => (fun h=>h.ok.keys k8) (h.2 i t ht))).symm
                 · rfl
               · have k8 := of_decide_eq_false h8
                 refine go [3,4,7,2,8,0] ?_
                 refine Ls.qE 81 (Ev.lenS rfl (by rfl) Tryz.underlying9) ?_
                 refine go [18,5,2] ?_
                 refine Cd.cond _ (by rfl) (fun h9 => ?_) (fun h9 => ?_)
                 · have k9 := of_decide_eq_true h9
                   refine Cd.skip ?_
                   refine Cd.cond_true (by rfl) (h9) ?_
                   refine go [3,4,5,2,22] ?_
                   refine Ent.ret (()) (trivial) (Res.tmp (by rfl) (by rfl)) ?_ [] (by rfl) ?_
                   · exact congrArg Value.bool (decide_eq_false (fun h => (fun h=>by have := h.ok.fst; omega) (h.2 i t ht))).symm
                   · rfl
                 · have k9 := of_decide_eq_false h9
                   refine go [4,7,3,8,0] ?_
                   refine Ls.qE 85 (Ev.lenS rfl (by rfl) Tryz.underlying9) ?_
                   refine go [18,5,2] ?_
                   refine Cd.cond _ (by rfl) (fun h10 => ?_) (fun h10 => ?_)
                   · have k10 := of_decide_eq_true h10
                     refine go [3,4,5,2,22] ?_
                     refine Ent.ret (()) (trivial) (Res.tmp (by rfl) (by rfl)) ?_ [] (by rfl) ?_
                     · exact congrArg Value.bool (decide_eq_false (fun h => by have := (h.2 i t ht).ok.lst; omega)).symm
                     · rfl
                   · have k10 := of_decide_eq_false h10
                     have hok : TbOk nx t := ⟨by omega, by omega, by omega, by omega, k8, by omega, by omega⟩
                     refine Cd.seq ?_
                     by_cases h0 : 1 ≤ i
                     · obtain ⟨u, hu⟩ := get_of_lt (show i - 1 < l.length by omega)
                       refine Cd.draw [] (by kernel_rfl) ?_
                       refine Rg.qE 0 88 (by rfl) (Ev.move rfl (by rfl)) ?_
                       refine Rg.qE 1 89 (by rfl) (Ev.gtr rfl (by rfl) (by rfl)) ?_
                       refine Rg.qE 2 90 (by rfl) (Ev.move rfl (by rfl)) ?_
                       refine Ent.known 90 true (by rfl) (by exact (decide_eq_true (show (0 : Int) < (i : Int) by omega))) ?_
                       refine Rg.qE 3 91 (by rfl) (Ev.fieldAddr (k := 0) rfl (by rfl) (by kernel_rfl) (by rfl)) ?_
                       refine Rg.qE 4 92 (by rfl) (Ev.load 2 rfl (by rfl) (by rfl) (by kernel_rfl) (by rfl)) ?_
                       refine Rg.qE 5 93 (by rfl) (Ev.move rfl (by rfl)) ?_
                       refine Rg.qE 6 94 (by rfl) (Ev.subN (b := 1) rfl (by rfl) (by rfl) (by omega)) ?_
                       refine Rg.qE 7 95 (by rfl) (Ev.indexAt (sz := 4) rfl (by rfl) (by rfl) Tryz.underlying22 (by kernel_rfl) (by omega)) ?_
                       refine Rg.qE 8 96 (by rfl) (Ev.loadEl rfl (by rfl) (ReadsIn.rd 3 (by rfl)) (by kernel_rfl) (by intro _; rfl) (by assumption)) ?_
                       refine Rg.qE 9 97 (by rfl) (Ev.loads 0 rfl (by rfl) (by rfl) (n := 4) (by kernel_rfl) (by rfl) (by rfl)) ?_
                       refine Rg.does 10 (by rfl) (by kernel_rfl) (Does.read rfl Tryz.func40 (by kernel_rfl) (by kernel_rfl) (order_sl u t) (by rfl) (by rfl) trivial) (by rfl) (some 98) (by rfl) (by exact fun _ _ h => h) ?_
                       rintro _ -
                       refine Rg.qE 11 99 (by rfl) (Ev.geq rfl (by rfl) (by rfl)) ?_
                       refine Rg.qE 12 100 (by rfl) (Ev.pickT rfl (by rfl) (by rfl)) ?_
                       refine Rg.qE 13 87 (by rfl) (Ev.assign rfl (by rfl)) ?_
                       refine Rg.done (by kernel_rfl) ?_ _
                       have hord : decide ((0 : Int) ≤ ordI u t) = !(ltT u t) := by
                        rw [← ordI_lt]
                        by_cases q : ordI u t < 0
                        · rw [decide_eq_true q, decide_eq_false (by omega)]
                          rfl
                        · rw [decide_eq_false q, decide_eq_true (by omega)]
                          rfl
                       rw [hord]
                       cases hlu : ltT u t with
                       | true =>
                        refine go [24,6,4] ?_
                        refine Ls.qE 101 (Ev.addN (b := 1) rfl (by rfl) (by rfl) (by omega)) ?_
                        refine go [0,2] ?_
                        refine Ent.pick [1, 2, 3] (by rfl) ?_
                        refine Ent.iA (i + 1) ?_
                        (try dsimp only); exact ⟨⟨hlt, fun j w hj hw => by
                        by_cases e : j = i
                        · subst e
                          rw [ht] at hw
                          obtain rfl := Option.some.inj hw
                          exact ⟨hok, honce, fun w _ hw => by rw [hu] at hw; obtain rfl := Option.some.inj hw; exact hlu⟩
                        · exact hall j w (by omega) hw⟩, by omega⟩
                       | false =>
                        refine go [23,3,4,5,2,22] ?_
                        refine Ent.ret (()) (trivial) (Res.tmp (by rfl) (by rfl)) ?_ [] (by rfl) ?_
                        · exact congrArg Value.bool (decide_eq_false (fun h => by
                           have := (h.2 i t ht).ahead u h0 hu
                           rw [hlu] at this
                           cases this)).symm
                        · rfl
                     · obtain rfl : i = 0 := by omega
                       refine Cd.draw [] (by kernel_rfl) ?_
                       refine Rg.qE 0 88 (by rfl) (Ev.move rfl (by rfl)) ?_
                       refine Rg.qE 1 89 (by rfl) (Ev.gtr rfl (by rfl) (by rfl)) ?_
                       refine Rg.qE 2 90 (by rfl) (Ev.move rfl (by rfl)) ?_
                       refine Ent.known 90 false (by rfl) (by exact (decide_eq_false (show ¬ ((0 : Int) < ((0 : Nat) : Int)) by decide))) ?_
                       refine Rg.qP 3 91 ?_
                       refine Rg.qP 4 92 ?_
                       refine Rg.qP 5 93 ?_
                       refine Rg.qP 6 94 ?_
                       refine Rg.qP 7 95 ?_
                       refine Rg.qP 8 96 ?_
                       refine Rg.qP 9 97 ?_
                       refine Rg.qP 10 98 ?_
                       refine Rg.qP 11 99 ?_
                       refine Rg.qE 12 100 (by rfl) (Ev.pickF rfl (by rfl) (by rfl)) ?_
                       refine Rg.qE 13 87 (by rfl) (Ev.assign rfl (by rfl)) ?_
                       refine Rg.done (by kernel_rfl) ?_ _
                       refine go [24,6,4] ?_
                       refine Ls.qE 101 (Ev.addN (b := 1) rfl (by rfl) (by rfl) (by omega)) ?_
                       refine go [0,2] ?_
                       refine Ent.pick [1, 2, 3] (by rfl) ?_
                       refine Ent.iA (1) ?_
                       (try dsimp only); exact ⟨⟨hlt, fun j w hj hw => by
                       obtain rfl : j = 0 := by omega
                       rw [ht] at hw
                       obtain rfl := Option.some.inj hw
                       exact ⟨hok, honce, fun w h => absurd h (by decide)⟩⟩, by omega⟩
   · have hge : l.length ≤ i := by have := of_decide_eq_false h2; omega
     refine Cd.exit ?_
     refine go [3,4,5,2,22] ?_
     refine Ent.ret (()) (trivial) (Res.tmp (by rfl) (by rfl)) ?_ [] (by rfl) ?_
     · refine congrArg Value.bool (decide_eq_true ⟨hr, fun j t ht => hall j t ?_ ht⟩).symm
       have := (List.getElem?_eq_some_iff.1 ht).1
       dsimp only at this
       omega
     · rfl
abbrev numV (g : Nat) : Value := .func (.func 37) #[] #[ptrW g]
abbrev rnum (g : Nat) (n : Int) : Chunk := rblk g 3 [.int .i64 n]
theorem fit1_sl (g : Nat) (n : Int) (t : TbP) : Fn Tryz.prog 37 #[.agg t.enc.toArray, ptrW g] [rnum g n] Unit (fun _ => .bool (decide (t.num = n))) (fun _ => []) (fun _ => True) := by
 dsimp only [TbP.enc]
 refine Fn.enter Tryz.func37 rfl Tryz.ntmps37 (by rfl) ?_
 intro w0
 refine go [3,4] ?_
 refine Ls.does (some 2) (Does.box rfl (by rfl)) (by rfl) (by rfl) ?_
 intro g1 _
 refine go [5,25,7,0,8,0,13,1,19,5,2,22] ?_
 exact Ent.rA (()) [] trivial rT_
theorem fit1_fnv (g : Nat) (n : Int) (t : TbP) : FnV Tryz.prog (numV g) [.agg t.enc.toArray] [rnum g n] Unit (fun _ => .bool (decide (t.num = n))) (fun _ => []) (fun _ => True) :=
 ⟨37, Tryz.f37, [ptrW g], rfl, Tryz.func37, by kernel_rfl, by kernel_rfl, fit1_sl g n t⟩
def IdxR (l : List TbP) (n r : Int) : Prop := (r = -1 ∧ ∀ t ∈ l, t.num ≠ n) ∨ ∃ (i : Nat) (t : TbP), r = i ∧ l[i]? = some t ∧ t.num = n
theorem index_sl (A : Option Addr) (c : Nat) (l : List TbP) (g : Nat) (n : Int) (hl : l.length ≤ 1000000000) : Fn Tryz.prog 36 #[.slice A l.length c, numV g] [rdT A l, rnum g n] Int (fun r => .int .i64 r) (fun _ => []) (IdxR l n) := by
 refine Fn.enter Tryz.func36 rfl Tryz.ntmps36 (by rfl) ?_
 intro w0
 refine go [3,4,5,2,3,3,4,0] ?_
 refine Ls.qE 7 (Ev.len rfl (by rfl) Tryz.underlying22) ?_
 refine go [0,2,21] ?_
 refine Cd.loop (ι := Nat) (fun k => [(0, .slice A l.length c), (1, numV g), (7, .int .i64 l.length), (8, .int .i64 k)]) (fun _ => [rdT A l, rnum g n]) (fun k => k ≤ l.length ∧ ∀ t ∈ l.take k, t.num ≠ n) (fun k => l.length - k) (0) (⟨Nat.zero_le _, fun t h => absurd (show t ∈ [] from h) List.not_mem_nil⟩) ?_ rfl ?_
 · (repeat (first | exact trivial | refine ⟨by rfl, ?_⟩))
 rintro k ⟨hk, hall⟩
 refine go [3,4,16,2,3] ?_
 refine Cd.cond _ (by rfl) (fun h2 => ?_) (fun h2 => ?_)
 · have hlt : k < l.length := by have := of_decide_eq_true h2; omega
   obtain ⟨t, ht⟩ := get_of_lt hlt
   refine Ent.rdSome 0 (by rfl) (by omega) (fun ad had => ?_)
   subst had
   refine go [6,3,21,3,4,0,5,2,3] ?_
   refine Cd.regionI ?_
   refine Li.ev (some 11) (Ev.move rfl (by rfl)) (by rfl) (by rfl) ?_
   refine Li.ev (some 12) (Ev.move rfl (by rfl)) (by rfl) (by rfl) ?_
   refine Li.ev (some 13) (Ev.move rfl (by rfl)) (by rfl) (by rfl) ?_
   refine Li.ev (some 14) (Ev.indexAt (sz := 4) rfl (by rfl) (by rfl) Tryz.underlying22 (by kernel_rfl) (by omega)) (by rfl) (by rfl) ?_
   refine Li.ev (some 15) (Ev.loadEl (enc := TbP.enc) (sz := 4) rfl (by rfl) (ReadsIn.rd 0 (by rfl)) (by kernel_rfl) (fun _ => rfl) ht) (by rfl) (by rfl) ?_
   refine Li.does (some 16) (Does.readV rfl (by rfl) (fit1_fnv g n t) (by rfl) (by rfl) ⟨rblkIn 1 (by rfl), trivial⟩) (by rfl) (by rfl) ?_
   rintro _ -
   refine Li.nil ?_
   refine Cd.cond _ (by rfl) (fun h3 => ?_) (fun h3 => ?_)
   · refine go [3,4,0,5,2,22] ?_
     exact Ent.rA ((k : Int)) [] (.inr ⟨k, t, rfl, ht, of_decide_eq_true h3⟩) rT_
   · have h3 := of_decide_eq_false h3
     refine go [6,4] ?_
     refine Ls.qE 18 (Ev.addN (b := 1) rfl (by rfl) (by rfl) (by omega)) ?_
     refine go [0,2] ?_
     refine Ent.iA (k + 1) ?_
     (try dsimp only); exact ⟨⟨hlt, fun u hu => by
     rw [List.take_add_one, ht] at hu
     rcases List.mem_append.1 hu with hu | hu
     · exact hall u hu
     · obtain rfl : u = t := by simpa using hu
       exact h3⟩, by omega⟩
 · have hge : l.length ≤ k := by have := of_decide_eq_false h2; omega
   rw [List.take_of_length_le hge] at hall
   refine Cd.exit ?_
   refine go [3,4] ?_
   refine Ls.qE 4 (Ev.assign (show Oper.op _ = Op.assign (Operand.const (Value.int IntKind.i64 (-1))) from rfl) (by rfl)) ?_
   refine go [2,22] ?_
   exact Ent.rA ((-1 : Int)) [] (.inl ⟨rfl, hall⟩) rT_
section
variable {Γ : Ctx} {N : Frm} {P : Program} {E : Env} {H : List Chunk} {o : Oper} {x y : Operand}
theorem Does.appIn {t e sz bytes n c k m d : Nat} {A : Option Addr} {bd : Addr} {xs news : List Value} (i : Nat) (ho : o.op = .call { callee := .builtin .append, args := #[x, y], argTypes := #[t, t] }) (hx : E.ev x = some (.slice A k c)) (hy : E.ev y = some (.slice (some bd) m d)) (hi : H[i]? = some (row A n c e sz xs)) (hn0 : 0 < n) (hr : ReadsIn Γ H sz (some bd) m news) (hel : Elem P t e sz bytes) (h1 : ∀ u ∈ news, u.oneCell' = true) (hkm : k + m ≤ n) :
 Does Γ N P E H o Unit (fun _ => .slice A (k + m) c) (fun _ => H.set i (row A n c e sz (setR xs (k * sz) news))) (fun _ => True) := .of fun ρ hρ w hs => by
 obtain ⟨ie, z, ht, hie, hz, hsize, hby, hzs, hsz, hb0⟩ := hel
 have ho' : Own w 0 e sz A n c xs := hs.mem hi
 have hrw := hr w hs
 rcases ho'.form with ⟨_, e0, _⟩ | ⟨g, cur, hg, _, hb, hnc, hcm, hcs, hxs⟩
 · omega
 · subst hg
   subst hsize
   have hnl : news.length = m * ie.size := hrw.1
   have hcells : ∀ j u, news[j]? = some u → w.cell? (bd.add j) = some u := fun j u hu => by
    rcases Nat.eq_zero_or_pos m with h0 | h0
    · subst h0
      rw [Nat.zero_mul] at hnl
      rw [List.eq_nil_of_length_eq_zero hnl] at hu
      simp at hu
    · obtain ⟨ad, h, _, hc⟩ := hrw.2 h0
      obtain rfl := Option.some.inj h
      exact hc j u hu
   have hmul : k * ie.size + news.length ≤ n * ie.size := by
    rw [hnl, ← Nat.add_mul]
    exact Nat.mul_le_mul_right _ hkm
   have hmul2 : n * ie.size ≤ cur.size := by
    rw [hcs]
    exact Nat.mul_le_mul_right _ hnc
   have hrun := run_append_room (P := P) w t o.type e ie ht hie g k c cur hb bd m d news hnl hcells h1 (by omega) (by omega)
   refine ⟨(), w.setRow g (setR cur.toList (k * ie.size) news).toArray, trivial, ?_, .inl ?_⟩
   · refine hs.turn hi rfl ⟨rfl, rfl, rfl, by simp, fun j hj hn => setRow_other w g j _ (fun e => hn (by rw [e]; rfl))⟩ ?_ (fun j hj => .inl hj)
     have hb2 := setRow_heap w g cur (setR cur.toList (k * ie.size) news).toArray e (0, 0) hb
     have hlen : (setR cur.toList (k * ie.size) news).toArray.size = c * ie.size := by
      rw [List.size_toArray, ← hcs]
      unfold setR
      simp only [List.length_append, List.length_take, List.length_drop, Array.length_toList]
      omega
     have := Own.of_blk (base := 0) (n := n) hb2 (Nat.zero_le _) hnc hcm hlen
     rw [setR_take hmul (by rw [Array.length_toList]; exact hmul2), hxs] at this
     exact this
   · have hrun2 : (Builtin.append_ #[t, t] o.type #[.slice (some ⟨g, 0, none⟩) k c, .slice (some bd) m d]).run P w = .ok (.slice (some ⟨g, 0, none⟩) (k + m) c) (w.setRow g (setR cur.toList (k * ie.size) news).toArray) := hrun
     simp [execOp, ho, resolve, invoke, builtin, hρ x _ hx, hρ y _ hy, hrun2]
theorem Does.clearK {t e sz n c c' m k : Nat} {A : Option Addr} {ad : Addr} {xs : List Value} {v : Value} (i : Nat) (ho : o.op = .call { callee := .builtin .clear, args := #[x], argTypes := #[t] }) (hx : E.ev x = some (.slice (some (ad.add (k * sz))) m c')) (hi : H[i]? = some (row A n c e sz xs)) (hA : A = some ad) (ht : P.underlying t = some (.slice e)) (hz : (P.info? e).bind (·.zero) = some v) (hv : v.cells.size = sz) (h1 : ∀ u ∈ v.cells.toList, u.oneCell' = true) (hm : 0 < m ∧ k + m ≤ n) :
 Does Γ N P E H o Unit (fun _ => .tuple #[]) (fun _ => H.set i (row A n c e sz (setR xs (k * sz) (Builtin.zeroCells v.cells m).toList))) (fun _ => True) := .of fun ρ hρ w hs => by
 have ho' : Own w 0 e sz A n c xs := hs.mem hi
 subst hA
 rcases ho'.form with ⟨e1, _⟩ | ⟨g, cur, e1, hg, hb, hn, hc, hsz, hxs⟩
 · cases e1
 · injection e1 with e1
   subst e1
   have hmm : (⟨g, 0, none⟩ : Addr).add (k * sz) = ⟨g, k * sz, none⟩ := by rw [add_at]; simp
   have hzl : (Builtin.zeroCells v.cells m).toList.length = m * sz := by
    rw [Array.length_toList, size_zeroCells, hv]
   have hmul : k * sz + m * sz ≤ n * sz := by
    rw [← Nat.add_mul]
    exact Nat.mul_le_mul_right _ hm.2
   have hmul2 : n * sz ≤ cur.size := by
    rw [hsz]
    exact Nat.mul_le_mul_right _ hn
   have hone : ∀ u ∈ (Builtin.zeroCells v.cells m).toList, u.oneCell' = true := fun u hu => by
    obtain ⟨j, hj, rfl⟩ := List.getElem_of_mem hu
    rw [hzl] at hj
    have hpos : 0 < sz := by
     rcases Nat.eq_zero_or_pos sz with h0 | h0
     · rw [h0, Nat.mul_zero] at hj
       omega
     · exact h0
    have hlt : j % v.cells.size < v.cells.size := Nat.mod_lt _ (by rw [hv]; exact hpos)
    refine h1 _ ?_
    simp only [Builtin.zeroCells, Array.getElem_toList, Array.getElem_map, Array.getElem_range]
    rw [getElem!_pos v.cells (j % v.cells.size) hlt]
    exact Array.mem_toList_iff.2 (Array.getElem_mem hlt)
   have hst := run_storeCells_at P g (k * sz) e (Builtin.zeroCells v.cells m).toList 0 cur w hb (by rw [hzl, Nat.add_zero]; omega) hone
   simp only [Nat.add_zero] at hst
   have hzv : (zeroValue e).run P w = .ok v w := by
    obtain ⟨ie, hie, hz⟩ := Option.bind_eq_some_iff.1 hz
    simp [zeroValue, typeInfo, hie, hz]
   refine ⟨(), w.setRow g (setR cur.toList (k * sz) (Builtin.zeroCells v.cells m).toList).toArray, trivial, ?_, .inl ?_⟩
   · refine hs.turn hi rfl ⟨rfl, rfl, rfl, by simp, fun j hj hn => setRow_other w g j _ (fun e => hn (by rw [e]; rfl))⟩ ?_ (fun j hj => .inl hj)
     have hb2 := setRow_heap w g cur (setR cur.toList (k * sz) (Builtin.zeroCells v.cells m).toList).toArray e (0, 0) hb
     have hlen : (setR cur.toList (k * sz) (Builtin.zeroCells v.cells m).toList).toArray.size = c * sz := by
      rw [List.size_toArray, ← hsz]
      unfold setR
      simp only [List.length_append, List.length_take, List.length_drop, Array.length_toList]
      rw [Array.length_toList] at hzl
      omega
     have := Own.of_blk (base := 0) (n := n) hb2 (Nat.zero_le _) hn hc hlen
     rw [setR_take (by rw [hzl]; exact hmul) (by rw [Array.length_toList]; exact hmul2), hxs] at this
     exact this
   · obtain ⟨m', rfl⟩ : ∃ m', m = m' + 1 := ⟨m - 1, by omega⟩
     rw [hmm] at hx
     simp [execOp, ho, resolve, invoke, hρ x _ hx, builtin, Builtin.clear_, run_underlying ht, hzv, hst, setR]
end
theorem tbs_drop : ∀ (l : List TbP) (k : Nat), (tbs l).drop (k * 4) = tbs (l.drop k)
 | [], k => by simp [tbs]
 | t :: l, 0 => by simp
 | t :: l, k + 1 => by
  have : tbs (t :: l) = t.enc ++ tbs l := List.flatMap_cons
  rw [this, Nat.succ_mul, Nat.add_comm, ← List.drop_drop, List.drop_left' (tb_len t), tbs_drop l k, List.drop_succ_cons]
theorem tbs_take : ∀ (l : List TbP) (k : Nat), (tbs l).take (k * 4) = tbs (l.take k)
 | [], k => by simp [tbs]
 | t :: l, 0 => by simp [tbs]
 | t :: l, k + 1 => by
  have h1 : tbs (t :: l) = t.enc ++ tbs l := List.flatMap_cons
  have h2 : tbs (t :: l.take k) = t.enc ++ tbs (l.take k) := List.flatMap_cons
  rw [h1, List.take_succ_cons, h2, List.take_append, tb_len, List.take_of_length_le (by rw [tb_len]; omega), show (k + 1) * 4 - 4 = k * 4 by omega, tbs_take l k]
theorem tbs_length (l : List TbP) : (tbs l).length = l.length * 4 := by
 unfold tbs
 rw [List.length_flatMap]
 simp only [tb_len]
 rw [List.map_const', List.sum_replicate_nat]
theorem tbs_append (a b : List TbP) : tbs (a ++ b) = tbs a ++ tbs b := List.flatMap_append
theorem cut_reads {Γ : Ctx} {H : List Chunk} {A : Option Addr} {n c : Nat} {l : List TbP} (i k : Nat) (hi : H[i]? = some (rowTb A n c l)) (hn : l.length = n) (hk : k ≤ n) (hc : n ≤ c) : ReadsIn Γ H 4 (cutA A c k 4) (n - k) (tbs (l.drop k)) := fun w hs => by
 have hs1 := hs.see (C' := rd A n 4 (tbs l)) hi rfl row_rd.1 row_rd.2
 have hlt := (List.getElem?_eq_some_iff.1 hi).1
 have hs2 := Sat.cut (A := A) (n := n) (sz := 4) (xs := tbs l) i k n c (by rw [List.getElem?_set]; simp [hlt]) hk (Nat.le_refl _) hc hs1
 have h3 : Reads w w.heap.size 4 (cutA A c k 4) (n - k) (((tbs l).drop (k * 4)).take ((n - k) * 4)) := hs2.mem (i := 0) rfl
 rw [tbs_drop, List.take_of_length_le (by rw [tbs_length, List.length_drop]; omega)] at h3
 exact h3
theorem del_sl (A : Option Addr) (n c i : Nat) (l : List TbP) (hn : l.length = n) (hi : i < n) (hm : n ≤ 1000000000) : Fn Tryz.prog 38 #[.slice A n c, .int .i64 i, .int .i64 (i + 1 : Nat)] [rowTb A n c l] Unit (fun _ => .slice A (n - 1) c) (fun _ => [rowTb A (n - 1) c (l.eraseIdx i)]) (fun _ => True) := by
 refine Fn.enter Tryz.func38 rfl Tryz.ntmps38 (by rfl) ?_
 intro w0
 refine Ent.fact 0 (by rfl) (p := n ≤ c ∧ c ≤ maxLen) (fun w hw => ⟨Own.le hw, Own.capLe hw⟩) (fun hc => ?_)
 have hcm := hc.2
 unfold maxLen at hcm
 refine Ent.rowSome 0 (by rfl) (by omega) (fun ad had => ?_)
 obtain rfl : A = some ad := had
 refine go [3,4,5,25,0,0,0,0] ?_
 refine Ls.qE 12 (Ev.len rfl (by rfl) Tryz.underlying22) ?_
 refine Ls.qE 13 (Ev.sliceLHMs (sz := 4) rfl (by rfl) (by rfl) (by rfl) (by rfl) Tryz.underlying22 (by kernel_rfl) (by omega)) ?_
 refine go [2,3,3,4,0,0,19,2] ?_
 refine Cd.cond_false (by rfl) (decide_eq_false (show ¬ ((i : Int) = ((i + 1 : Nat) : Int)) by omega)) ?_
 obtain ⟨bd, hbd⟩ : ∃ bd, cutA (some ad) c (i + 1) 4 = some bd := by
  unfold cutA
  split
  · exact ⟨_, rfl⟩
  · exact ⟨_, rfl⟩
 have hrd := cut_reads (Γ := ⟨w0, [rowTb (some ad) n c l]⟩) (H := [rowTb (some ad) n c l]) (A := some ad) (n := n) (c := c) (l := l) 0 (i + 1) rfl hn (by omega) hc.1
 rw [hbd] at hrd
 refine go [6,3,4,0] ?_
 refine Ls.qE 19 (Ev.len rfl (by rfl) Tryz.underlying22) ?_
 refine go [5,2,3] ?_
 refine Cd.draw [6] (by kernel_rfl) ?_
 refine Rg.qE 0 20 (by rfl) (Ev.move rfl (by rfl)) ?_
 refine Rg.qE 1 21 (by rfl) (Ev.move rfl (by rfl)) ?_
 refine Rg.qE 2 22 (by rfl) (Ev.sliceHn (sz := 4) rfl (by rfl) (by rfl) Tryz.underlying22 (by kernel_rfl) (by omega)) ?_
 refine Rg.qE 3 23 (by rfl) (Ev.move rfl (by rfl)) ?_
 refine Rg.qE 4 24 (by rfl) (Ev.move rfl (by rfl)) ?_
 refine Rg.qE 5 25 (by rfl) (Ev.sliceLn (sz := 4) rfl (by rfl) (by rfl) Tryz.underlying22 (by kernel_rfl) (by omega)) ?_
 rw [hbd]
 refine Rg.tail 6 [] (by rfl) (by kernel_rfl) (Does.appIn (k := i) (m := n - (i + 1)) (news := tbs (l.drop (i + 1))) 0 rfl (by rfl) (by rfl) (by rfl) (by omega) hrd elem_tb (one_tb _) (by omega)) (by rfl) (some 26) (by rfl) (by kernel_rfl) (by kernel_rfl) ?_
 rintro _ -
 rw [show i + (n - (i + 1)) = n - 1 by omega]
 have hlen : (tbs (l.eraseIdx i)).length = (n - 1) * 4 := by
  rw [tbs_length, List.length_eraseIdx_of_lt (by omega), hn]
 have htk : (setR (tbs l) (i * 4) (tbs (l.drop (i + 1)))).take ((n - 1) * 4) = tbs (l.eraseIdx i) := by
  unfold setR
  rw [tbs_take, ← tbs_append, ← List.eraseIdx_eq_take_drop_succ, ← hlen, List.take_left]
 have hfin : ∀ z, (setR (setR (tbs l) (i * 4) (tbs (l.drop (i + 1)))) ((n - 1) * 4) z).take ((n - 1) * 4) = tbs (l.eraseIdx i) := fun z => by
  generalize setR (tbs l) (i * 4) (tbs (l.drop (i + 1))) = X at htk
  unfold setR
  rw [htk, List.append_assoc, ← hlen, List.take_left]
 generalize setR (tbs l) (i * 4) (tbs (l.drop (i + 1))) = X at hfin ⊢
 have hcut : cutA (some ad) c (n - 1) 4 = some (ad.add ((n - 1) * 4)) := by
  unfold cutA
  rw [if_neg (by omega)]
  rfl
 refine Rg.qE 7 0 (by rfl) (Ev.assign rfl (by rfl)) ?_
 refine Rg.done (by kernel_rfl) ?_ _
 refine go [3,4,0,0] ?_
 refine Ls.qE 29 (Ev.len rfl (by rfl) Tryz.underlying22) ?_
 refine Ls.qM 30 ?_
 refine Ls.qE 31 (Ev.sliceLHn (l := n - 1) (h := n) (sz := 4) rfl (by rfl) (by rfl) (by rfl) Tryz.underlying22 (by kernel_rfl) (by omega)) ?_
 rw [hcut, show n - (n - 1) = 1 by omega]
 refine Ls.qD (Does.clearK (k := n - 1) (m := 1) (v := .agg #[.int .i64 0, .int .i64 0, .string ⟨#[]⟩, .string ⟨#[]⟩]) 0 rfl (by rfl) (by rfl) rfl Tryz.underlying22 (by kernel_rfl) (by rfl) (List.all_eq_true.1 (by rfl)) (by omega)) ?_
 rintro _ -
 refine go [25,0,5,2] ?_
 refine Ent.trunc 0 (n - 1) (by rfl) (by omega) ?_
 refine Cd.ret ?_
 refine Ent.ret (()) (trivial) (Res.tmp (by rfl) (by rfl)) ?_ [0] (by rfl) ?_
 · rfl
 · show [row _ _ _ _ _ _] = [row _ _ _ _ _ _]
   rw [hfin]
abbrev EdP.val (e : EdP) (B : Option Addr) (b : Nat) (D : Option Addr) (d : Nat) : List Value := [.slice B e.add.length b, .slice D e.drop.length d, .int .i64 e.nx, .int .i64 e.lg, .int .i64 e.sq]
def Fine (l : List TbP) : Prop := ∀ t ∈ l, t.fst.length ≤ 140737488355328 ∧ t.lst.length ≤ 140737488355328 ∧ in64 t.num
abbrev noV : Value := .agg #[.slice none 0 0, .int .i64 0, .int .i64 0, .int .i64 0]
def fitV (v : VsP) (e : EdP) : Option (Option Addr × Nat) → Value
 | none => .tuple #[noV, .int .i64 80]
 | some p => .tuple #[.agg ((outP v e).val p.1 p.2).toArray, .int .i64 0]
def fitC (v : VsP) (e : EdP) : Option (Option Addr × Nat) → List Chunk
 | none => []
 | some p => [rowTb p.1 (outP v e).tbs.length p.2 (outP v e).tbs]
set_option maxHeartbeats 4000000 in
theorem fit_sl (v : VsP) (e : EdP) (A B D : Option Addr) (c b d : Nat) (hv : v.tbs.length ≤ 70000000) (he : e.add.length ≤ 10000000) (hd : e.drop.length ≤ 1000000000) (fv : Fine v.tbs) (fe : Fine e.add) (hdr : ∀ x ∈ e.drop, in64 x) : Fn Tryz.prog 9 #[.agg (v.val A c).toArray, .agg (e.val B b D d).toArray] [rdT A v.tbs, rdT B e.add, rd D e.drop.length 1 (ints e.drop)] (Option (Option Addr × Nat)) (fitV v e) (fitC v e) (fun p => p.isSome = true ↔ FitOk v e) := by
 refine Fn.enter Tryz.func9 rfl Tryz.ntmps9 (by rfl) ?_
 intro w0
 refine go [3,4] ?_
 refine Ls.does (some 2) (Does.box rfl (by rfl)) (by rfl) (by rfl) ?_
 intro g1 _
 refine Ls.does (some 3) (Does.box rfl (by rfl)) (by rfl) (by rfl) ?_
 intro g2 _
 refine Ls.does (some 4) (Does.alloc (cs := [.slice none 0 0, .int .i64 0, .int .i64 0, .int .i64 0]) rfl (ZeroIs.mk (.agg #[.slice none 0 0, .int .i64 0, .int .i64 0, .int .i64 0]) (by kernel_rfl) (by rfl))) (by rfl) (by rfl) ?_
 intro g3 _
 refine go [5,2,3,3] ?_
 by_cases hg : goodP v ∧ RiseOk v e
 rotate_left
 · refine Cd.cut (ι := Unit) (fun _ => [(4, ptrW g3), (48, .bool true)]) (fun _ => [blk g3 24 [.slice none 0 0, .int .i64 0, .int .i64 0, .int .i64 0]]) (fun _ => True) ?_ ?_
   · by_cases hg1 : goodP v
     · have hr : ¬ (¬ (e.nx ≠ 0 ∧ e.nx < v.nx) ∧ ¬ (e.lg ≠ 0 ∧ e.lg < v.lg) ∧ ¬ (e.sq ≠ 0 ∧ e.sq < v.sq)) := fun h => hg ⟨hg1, h⟩
       refine go [4,12,2,4] ?_
       refine Ls.does (some 11) (Does.read rfl Tryz.func34 (by kernel_rfl) (by kernel_rfl) (good_slV v A c (by omega) fv) (by rfl) (by rfl) ⟨ReadsIn.rd 3 (by rfl), trivial⟩) (by rfl) (by rfl) ?_
       rintro _ -
       refine go [20,0] ?_
       refine Ent.split 13 (by rfl) (fun hT1 => ?_) (fun hT1 => ?_)
       · first | have hT1 := of_decide_eq_false hT1 | have hT1 := of_not_decide_false hT1 | skip
         refine go [7,2,8,1,17,0] ?_
         refine Ent.split 17 (by rfl) (fun hT2 => ?_) (fun hT2 => ?_)
         · first | have hT2 := of_decide_eq_false hT2 | have hT2 := of_not_decide_false hT2 | skip
           refine go [1,1,1,1,1,10,10,0,7,3,8,1,17,0] ?_
           refine Ent.split 29 (by rfl) (fun hT3 => ?_) (fun hT3 => ?_)
           · first | have hT3 := of_decide_eq_false hT3 | have hT3 := of_not_decide_false hT3 | skip
             refine go [1,1,1,1,1,10,10,0,7,4,8,1,17,0] ?_
             refine Ent.split 41 (by rfl) (fun hT4 => ?_) (fun hT4 => ?_)
             · first | have hT4 := of_decide_eq_false hT4 | have hT4 := of_not_decide_false hT4 | skip
               refine go [1,1,1,1,1,10,10,2] ?_
               refine Ent.pick [0] (by rfl) ?_
               refine Ent.inv () ?_ ?_ ?_
               · exact trivial
               · (repeat (first | exact trivial | refine ⟨by rfl, ?_⟩ | refine ⟨by simp only [lenS]; rfl, ?_⟩ | refine ⟨by push_cast; rfl, ?_⟩ | refine ⟨by (show some (Value.bool _) = some (Value.bool _); congr 2; all_goals ((first | rfl | exact absurd hg1 hT1 | exact decide_eq_true (by omega) | exact (decide_eq_true (by omega)).symm | (exfalso; omega)))), ?_⟩))
               · rfl
             · first | have hT4 := of_decide_eq_true hT4 | have hT4 := of_not_decide_true hT4 | skip
               refine go [7,4,8,1,7,3,8,2,16,9,10,2] ?_
               refine Ent.pick [0] (by rfl) ?_
               refine Ent.inv () ?_ ?_ ?_
               · exact trivial
               · (repeat (first | exact trivial | refine ⟨by rfl, ?_⟩ | refine ⟨by simp only [lenS]; rfl, ?_⟩ | refine ⟨by push_cast; rfl, ?_⟩ | refine ⟨by (show some (Value.bool _) = some (Value.bool _); congr 2; all_goals ((first | rfl | exact absurd hg1 hT1 | exact decide_eq_true (by omega) | exact (decide_eq_true (by omega)).symm | (exfalso; omega)))), ?_⟩))
               · rfl
           · first | have hT3 := of_decide_eq_true hT3 | have hT3 := of_not_decide_true hT3 | skip
             refine go [7,3,8,1,7,2,8,2,16,9,10,0] ?_
             refine Ent.split 37 (by rfl) (fun hT4 => ?_) (fun hT4 => ?_)
             · first | have hT4 := of_decide_eq_false hT4 | have hT4 := of_not_decide_false hT4 | skip
               refine go [7,4,8,1,17,0] ?_
               refine Ent.split 41 (by rfl) (fun hT5 => ?_) (fun hT5 => ?_)
               · first | have hT5 := of_decide_eq_false hT5 | have hT5 := of_not_decide_false hT5 | skip
                 refine go [1,1,1,1,1,10,10,2] ?_
                 refine Ent.pick [0] (by rfl) ?_
                 refine Ent.inv () ?_ ?_ ?_
                 · exact trivial
                 · (repeat (first | exact trivial | refine ⟨by rfl, ?_⟩ | refine ⟨by simp only [lenS]; rfl, ?_⟩ | refine ⟨by push_cast; rfl, ?_⟩ | refine ⟨by (show some (Value.bool _) = some (Value.bool _); congr 2; all_goals ((first | rfl | exact absurd hg1 hT1 | exact decide_eq_true (by omega) | exact (decide_eq_true (by omega)).symm | (exfalso; omega)))), ?_⟩))
                 · rfl
               · first | have hT5 := of_decide_eq_true hT5 | have hT5 := of_not_decide_true hT5 | skip
                 refine go [7,4,8,1,7,3,8,2,16,9,10,2] ?_
                 refine Ent.pick [0] (by rfl) ?_
                 refine Ent.inv () ?_ ?_ ?_
                 · exact trivial
                 · (repeat (first | exact trivial | refine ⟨by rfl, ?_⟩ | refine ⟨by simp only [lenS]; rfl, ?_⟩ | refine ⟨by push_cast; rfl, ?_⟩ | refine ⟨by (show some (Value.bool _) = some (Value.bool _); congr 2; all_goals ((first | rfl | exact absurd hg1 hT1 | exact decide_eq_true (by omega) | exact (decide_eq_true (by omega)).symm | (exfalso; omega)))), ?_⟩))
                 · rfl
             · first | have hT4 := of_decide_eq_true hT4 | have hT4 := of_not_decide_true hT4 | skip
               refine go [1,1,1,1,1,1,1,1,1,1,9,2] ?_
               refine Ent.pick [0] (by rfl) ?_
               refine Ent.inv () ?_ ?_ ?_
               · exact trivial
               · (repeat (first | exact trivial | refine ⟨by rfl, ?_⟩ | refine ⟨by simp only [lenS]; rfl, ?_⟩ | refine ⟨by push_cast; rfl, ?_⟩ | refine ⟨by (show some (Value.bool _) = some (Value.bool _); congr 2; all_goals ((first | rfl | exact absurd hg1 hT1 | exact decide_eq_true (by omega) | exact (decide_eq_true (by omega)).symm | (exfalso; omega)))), ?_⟩))
               · rfl
         · first | have hT2 := of_decide_eq_true hT2 | have hT2 := of_not_decide_true hT2 | skip
           refine go [7,2,8,1,7,1,8,2,16,9,10,0] ?_
           refine Ent.split 25 (by rfl) (fun hT3 => ?_) (fun hT3 => ?_)
           · first | have hT3 := of_decide_eq_false hT3 | have hT3 := of_not_decide_false hT3 | skip
             refine go [7,3,8,1,17,0] ?_
             refine Ent.split 29 (by rfl) (fun hT4 => ?_) (fun hT4 => ?_)
             · first | have hT4 := of_decide_eq_false hT4 | have hT4 := of_not_decide_false hT4 | skip
               refine go [1,1,1,1,1,10,10,0,7,4,8,1,17,0] ?_
               refine Ent.split 41 (by rfl) (fun hT5 => ?_) (fun hT5 => ?_)
               · first | have hT5 := of_decide_eq_false hT5 | have hT5 := of_not_decide_false hT5 | skip
                 refine go [1,1,1,1,1,10,10,2] ?_
                 refine Ent.pick [0] (by rfl) ?_
                 refine Ent.inv () ?_ ?_ ?_
                 · exact trivial
                 · (repeat (first | exact trivial | refine ⟨by rfl, ?_⟩ | refine ⟨by simp only [lenS]; rfl, ?_⟩ | refine ⟨by push_cast; rfl, ?_⟩ | refine ⟨by (show some (Value.bool _) = some (Value.bool _); congr 2; all_goals ((first | rfl | exact absurd hg1 hT1 | exact decide_eq_true (by omega) | exact (decide_eq_true (by omega)).symm | (exfalso; omega)))), ?_⟩))
                 · rfl
               · first | have hT5 := of_decide_eq_true hT5 | have hT5 := of_not_decide_true hT5 | skip
                 refine go [7,4,8,1,7,3,8,2,16,9,10,2] ?_
                 refine Ent.pick [0] (by rfl) ?_
                 refine Ent.inv () ?_ ?_ ?_
                 · exact trivial
                 · (repeat (first | exact trivial | refine ⟨by rfl, ?_⟩ | refine ⟨by simp only [lenS]; rfl, ?_⟩ | refine ⟨by push_cast; rfl, ?_⟩ | refine ⟨by (show some (Value.bool _) = some (Value.bool _); congr 2; all_goals ((first | rfl | exact absurd hg1 hT1 | exact decide_eq_true (by omega) | exact (decide_eq_true (by omega)).symm | (exfalso; omega)))), ?_⟩))
                 · rfl
             · first | have hT4 := of_decide_eq_true hT4 | have hT4 := of_not_decide_true hT4 | skip
               refine go [7,3,8,1,7,2,8,2,16,9,10,0] ?_
               refine Ent.split 37 (by rfl) (fun hT5 => ?_) (fun hT5 => ?_)
               · first | have hT5 := of_decide_eq_false hT5 | have hT5 := of_not_decide_false hT5 | skip
                 refine go [7,4,8,1,17,0] ?_
                 refine Ent.split 41 (by rfl) (fun hT6 => ?_) (fun hT6 => ?_)
                 · first | have hT6 := of_decide_eq_false hT6 | have hT6 := of_not_decide_false hT6 | skip
                   refine go [1,1,1,1,1,10,10,2] ?_
                   refine Ent.pick [0] (by rfl) ?_
                   refine Ent.inv () ?_ ?_ ?_
                   · exact trivial
                   · (repeat (first | exact trivial | refine ⟨by rfl, ?_⟩ | refine ⟨by simp only [lenS]; rfl, ?_⟩ | refine ⟨by push_cast; rfl, ?_⟩ | refine ⟨by (show some (Value.bool _) = some (Value.bool _); congr 2; all_goals ((first | rfl | exact absurd hg1 hT1 | exact decide_eq_true (by omega) | exact (decide_eq_true (by omega)).symm | (exfalso; omega)))), ?_⟩))
                   · rfl
                 · first | have hT6 := of_decide_eq_true hT6 | have hT6 := of_not_decide_true hT6 | skip
                   refine go [7,4,8,1,7,3,8,2,16,9,10,2] ?_
                   refine Ent.pick [0] (by rfl) ?_
                   refine Ent.inv () ?_ ?_ ?_
                   · exact trivial
                   · (repeat (first | exact trivial | refine ⟨by rfl, ?_⟩ | refine ⟨by simp only [lenS]; rfl, ?_⟩ | refine ⟨by push_cast; rfl, ?_⟩ | refine ⟨by (show some (Value.bool _) = some (Value.bool _); congr 2; all_goals ((first | rfl | exact absurd hg1 hT1 | exact decide_eq_true (by omega) | exact (decide_eq_true (by omega)).symm | (exfalso; omega)))), ?_⟩))
                   · rfl
               · first | have hT5 := of_decide_eq_true hT5 | have hT5 := of_not_decide_true hT5 | skip
                 refine go [1,1,1,1,1,1,1,1,1,1,9,2] ?_
                 refine Ent.pick [0] (by rfl) ?_
                 refine Ent.inv () ?_ ?_ ?_
                 · exact trivial
                 · (repeat (first | exact trivial | refine ⟨by rfl, ?_⟩ | refine ⟨by simp only [lenS]; rfl, ?_⟩ | refine ⟨by push_cast; rfl, ?_⟩ | refine ⟨by (show some (Value.bool _) = some (Value.bool _); congr 2; all_goals ((first | rfl | exact absurd hg1 hT1 | exact decide_eq_true (by omega) | exact (decide_eq_true (by omega)).symm | (exfalso; omega)))), ?_⟩))
                 · rfl
           · first | have hT3 := of_decide_eq_true hT3 | have hT3 := of_not_decide_true hT3 | skip
             refine go [1,1,1,1,1,1,1,1,1,1,9,0,1,1,1,1,1,1,1,1,1,1,9,2] ?_
             refine Ent.pick [0] (by rfl) ?_
             refine Ent.inv () ?_ ?_ ?_
             · exact trivial
             · (repeat (first | exact trivial | refine ⟨by rfl, ?_⟩ | refine ⟨by simp only [lenS]; rfl, ?_⟩ | refine ⟨by push_cast; rfl, ?_⟩ | refine ⟨by (show some (Value.bool _) = some (Value.bool _); congr 2; all_goals ((first | rfl | exact absurd hg1 hT1 | exact decide_eq_true (by omega) | exact (decide_eq_true (by omega)).symm | (exfalso; omega)))), ?_⟩))
             · rfl
       · first | have hT1 := of_decide_eq_true hT1 | have hT1 := of_not_decide_true hT1 | skip
         refine go [1,1,1,1,1,1,1,1,1,1,9,0,1,1,1,1,1,1,1,1,1,1,9,0] ?_
         refine go [1,1,1,1,1,1,1,1,1,1,9,2] ?_
         refine Ent.pick [0] (by rfl) ?_
         refine Ent.inv () ?_ ?_ ?_
         · exact trivial
         · (repeat (first | exact trivial | refine ⟨by rfl, ?_⟩ | refine ⟨by simp only [lenS]; rfl, ?_⟩ | refine ⟨by push_cast; rfl, ?_⟩ | refine ⟨by (show some (Value.bool _) = some (Value.bool _); congr 2; all_goals ((first | rfl | exact absurd hg1 hT1 | exact decide_eq_true (by omega) | exact (decide_eq_true (by omega)).symm | (exfalso; omega)))), ?_⟩))
         · rfl
     · refine go [4,12,2,4] ?_
       refine Ls.does (some 11) (Does.read rfl Tryz.func34 (by kernel_rfl) (by kernel_rfl) (good_slV v A c (by omega) fv) (by rfl) (by rfl) ⟨ReadsIn.rd 3 (by rfl), trivial⟩) (by rfl) (by rfl) ?_
       rintro _ -
       refine go [20,0] ?_
       refine Ent.split 13 (by rfl) (fun hT1 => ?_) (fun hT1 => ?_)
       · first | have hT1 := of_decide_eq_false hT1 | have hT1 := of_not_decide_false hT1 | skip
         refine go [7,2,8,1,17,0] ?_
         refine Ent.split 17 (by rfl) (fun hT2 => ?_) (fun hT2 => ?_)
         · first | have hT2 := of_decide_eq_false hT2 | have hT2 := of_not_decide_false hT2 | skip
           refine go [1,1,1,1,1,10,10,0,7,3,8,1,17,0] ?_
           refine Ent.split 29 (by rfl) (fun hT3 => ?_) (fun hT3 => ?_)
           · first | have hT3 := of_decide_eq_false hT3 | have hT3 := of_not_decide_false hT3 | skip
             refine go [1,1,1,1,1,10,10,0,7,4,8,1,17,0] ?_
             refine Ent.split 41 (by rfl) (fun hT4 => ?_) (fun hT4 => ?_)
             · first | have hT4 := of_decide_eq_false hT4 | have hT4 := of_not_decide_false hT4 | skip
               refine go [1,1,1,1,1,10,10,2] ?_
               refine Ent.pick [0] (by rfl) ?_
               refine Ent.inv () ?_ ?_ ?_
               · exact trivial
               · (repeat (first | exact trivial | refine ⟨by rfl, ?_⟩ | refine ⟨by simp only [lenS]; rfl, ?_⟩ | refine ⟨by push_cast; rfl, ?_⟩ | refine ⟨by (show some (Value.bool _) = some (Value.bool _); congr 2; all_goals ((first | rfl | exact absurd hT1 hg1 | (exfalso; exact hg1 hT1)))), ?_⟩))
               · rfl
             · first | have hT4 := of_decide_eq_true hT4 | have hT4 := of_not_decide_true hT4 | skip
               refine go [7,4,8,1,7,3,8,2,16,9,10,2] ?_
               refine Ent.pick [0] (by rfl) ?_
               refine Ent.inv () ?_ ?_ ?_
               · exact trivial
               · (repeat (first | exact trivial | refine ⟨by rfl, ?_⟩ | refine ⟨by simp only [lenS]; rfl, ?_⟩ | refine ⟨by push_cast; rfl, ?_⟩ | refine ⟨by (show some (Value.bool _) = some (Value.bool _); congr 2; all_goals ((first | rfl | exact absurd hT1 hg1 | (exfalso; exact hg1 hT1)))), ?_⟩))
               · rfl
           · first | have hT3 := of_decide_eq_true hT3 | have hT3 := of_not_decide_true hT3 | skip
             refine go [7,3,8,1,7,2,8,2,16,9,10,0] ?_
             refine Ent.split 37 (by rfl) (fun hT4 => ?_) (fun hT4 => ?_)
             · first | have hT4 := of_decide_eq_false hT4 | have hT4 := of_not_decide_false hT4 | skip
               refine go [7,4,8,1,17,0] ?_
               refine Ent.split 41 (by rfl) (fun hT5 => ?_) (fun hT5 => ?_)
               · first | have hT5 := of_decide_eq_false hT5 | have hT5 := of_not_decide_false hT5 | skip
                 refine go [1,1,1,1,1,10,10,2] ?_
                 refine Ent.pick [0] (by rfl) ?_
                 refine Ent.inv () ?_ ?_ ?_
                 · exact trivial
                 · (repeat (first | exact trivial | refine ⟨by rfl, ?_⟩ | refine ⟨by simp only [lenS]; rfl, ?_⟩ | refine ⟨by push_cast; rfl, ?_⟩ | refine ⟨by (show some (Value.bool _) = some (Value.bool _); congr 2; all_goals ((first | rfl | exact absurd hT1 hg1 | (exfalso; exact hg1 hT1)))), ?_⟩))
                 · rfl
               · first | have hT5 := of_decide_eq_true hT5 | have hT5 := of_not_decide_true hT5 | skip
                 refine go [7,4,8,1,7,3,8,2,16,9,10,2] ?_
                 refine Ent.pick [0] (by rfl) ?_
                 refine Ent.inv () ?_ ?_ ?_
                 · exact trivial
                 · (repeat (first | exact trivial | refine ⟨by rfl, ?_⟩ | refine ⟨by simp only [lenS]; rfl, ?_⟩ | refine ⟨by push_cast; rfl, ?_⟩ | refine ⟨by (show some (Value.bool _) = some (Value.bool _); congr 2; all_goals ((first | rfl | exact absurd hT1 hg1 | (exfalso; exact hg1 hT1)))), ?_⟩))
                 · rfl
             · first | have hT4 := of_decide_eq_true hT4 | have hT4 := of_not_decide_true hT4 | skip
               refine go [1,1,1,1,1,1,1,1,1,1,9,2] ?_
               refine Ent.pick [0] (by rfl) ?_
               refine Ent.inv () ?_ ?_ ?_
               · exact trivial
               · (repeat (first | exact trivial | refine ⟨by rfl, ?_⟩ | refine ⟨by simp only [lenS]; rfl, ?_⟩ | refine ⟨by push_cast; rfl, ?_⟩ | refine ⟨by (show some (Value.bool _) = some (Value.bool _); congr 2; all_goals ((first | rfl | exact absurd hT1 hg1 | (exfalso; exact hg1 hT1)))), ?_⟩))
               · rfl
         · first | have hT2 := of_decide_eq_true hT2 | have hT2 := of_not_decide_true hT2 | skip
           refine go [7,2,8,1,7,1,8,2,16,9,10,0] ?_
           refine Ent.split 25 (by rfl) (fun hT3 => ?_) (fun hT3 => ?_)
           · first | have hT3 := of_decide_eq_false hT3 | have hT3 := of_not_decide_false hT3 | skip
             refine go [7,3,8,1,17,0] ?_
             refine Ent.split 29 (by rfl) (fun hT4 => ?_) (fun hT4 => ?_)
             · first | have hT4 := of_decide_eq_false hT4 | have hT4 := of_not_decide_false hT4 | skip
               refine go [1,1,1,1,1,10,10,0,7,4,8,1,17,0] ?_
               refine Ent.split 41 (by rfl) (fun hT5 => ?_) (fun hT5 => ?_)
               · first | have hT5 := of_decide_eq_false hT5 | have hT5 := of_not_decide_false hT5 | skip
                 refine go [1,1,1,1,1,10,10,2] ?_
                 refine Ent.pick [0] (by rfl) ?_
                 refine Ent.inv () ?_ ?_ ?_
                 · exact trivial
                 · (repeat (first | exact trivial | refine ⟨by rfl, ?_⟩ | refine ⟨by simp only [lenS]; rfl, ?_⟩ | refine ⟨by push_cast; rfl, ?_⟩ | refine ⟨by (show some (Value.bool _) = some (Value.bool _); congr 2; all_goals ((first | rfl | exact absurd hT1 hg1 | (exfalso; exact hg1 hT1)))), ?_⟩))
                 · rfl
               · first | have hT5 := of_decide_eq_true hT5 | have hT5 := of_not_decide_true hT5 | skip
                 refine go [7,4,8,1,7,3,8,2,16,9,10,2] ?_
                 refine Ent.pick [0] (by rfl) ?_
                 refine Ent.inv () ?_ ?_ ?_
                 · exact trivial
                 · (repeat (first | exact trivial | refine ⟨by rfl, ?_⟩ | refine ⟨by simp only [lenS]; rfl, ?_⟩ | refine ⟨by push_cast; rfl, ?_⟩ | refine ⟨by (show some (Value.bool _) = some (Value.bool _); congr 2; all_goals ((first | rfl | exact absurd hT1 hg1 | (exfalso; exact hg1 hT1)))), ?_⟩))
                 · rfl
             · first | have hT4 := of_decide_eq_true hT4 | have hT4 := of_not_decide_true hT4 | skip
               refine go [7,3,8,1,7,2,8,2,16,9,10,0] ?_
               refine Ent.split 37 (by rfl) (fun hT5 => ?_) (fun hT5 => ?_)
               · first | have hT5 := of_decide_eq_false hT5 | have hT5 := of_not_decide_false hT5 | skip
                 refine go [7,4,8,1,17,0] ?_
                 refine Ent.split 41 (by rfl) (fun hT6 => ?_) (fun hT6 => ?_)
                 · first | have hT6 := of_decide_eq_false hT6 | have hT6 := of_not_decide_false hT6 | skip
                   refine go [1,1,1,1,1,10,10,2] ?_
                   refine Ent.pick [0] (by rfl) ?_
                   refine Ent.inv () ?_ ?_ ?_
                   · exact trivial
                   · (repeat (first | exact trivial | refine ⟨by rfl, ?_⟩ | refine ⟨by simp only [lenS]; rfl, ?_⟩ | refine ⟨by push_cast; rfl, ?_⟩ | refine ⟨by (show some (Value.bool _) = some (Value.bool _); congr 2; all_goals ((first | rfl | exact absurd hT1 hg1 | (exfalso; exact hg1 hT1)))), ?_⟩))
                   · rfl
                 · first | have hT6 := of_decide_eq_true hT6 | have hT6 := of_not_decide_true hT6 | skip
                   refine go [7,4,8,1,7,3,8,2,16,9,10,2] ?_
                   refine Ent.pick [0] (by rfl) ?_
                   refine Ent.inv () ?_ ?_ ?_
                   · exact trivial
                   · (repeat (first | exact trivial | refine ⟨by rfl, ?_⟩ | refine ⟨by simp only [lenS]; rfl, ?_⟩ | refine ⟨by push_cast; rfl, ?_⟩ | refine ⟨by (show some (Value.bool _) = some (Value.bool _); congr 2; all_goals ((first | rfl | exact absurd hT1 hg1 | (exfalso; exact hg1 hT1)))), ?_⟩))
                   · rfl
               · first | have hT5 := of_decide_eq_true hT5 | have hT5 := of_not_decide_true hT5 | skip
                 refine go [1,1,1,1,1,1,1,1,1,1,9,2] ?_
                 refine Ent.pick [0] (by rfl) ?_
                 refine Ent.inv () ?_ ?_ ?_
                 · exact trivial
                 · (repeat (first | exact trivial | refine ⟨by rfl, ?_⟩ | refine ⟨by simp only [lenS]; rfl, ?_⟩ | refine ⟨by push_cast; rfl, ?_⟩ | refine ⟨by (show some (Value.bool _) = some (Value.bool _); congr 2; all_goals ((first | rfl | exact absurd hT1 hg1 | (exfalso; exact hg1 hT1)))), ?_⟩))
                 · rfl
           · first | have hT3 := of_decide_eq_true hT3 | have hT3 := of_not_decide_true hT3 | skip
             refine go [1,1,1,1,1,1,1,1,1,1,9,0,1,1,1,1,1,1,1,1,1,1,9,2] ?_
             refine Ent.pick [0] (by rfl) ?_
             refine Ent.inv () ?_ ?_ ?_
             · exact trivial
             · (repeat (first | exact trivial | refine ⟨by rfl, ?_⟩ | refine ⟨by simp only [lenS]; rfl, ?_⟩ | refine ⟨by push_cast; rfl, ?_⟩ | refine ⟨by (show some (Value.bool _) = some (Value.bool _); congr 2; all_goals ((first | rfl | exact absurd hT1 hg1 | (exfalso; exact hg1 hT1)))), ?_⟩))
             · rfl
       · first | have hT1 := of_decide_eq_true hT1 | have hT1 := of_not_decide_true hT1 | skip
         refine go [1,1,1,1,1,1,1,1,1,1,9,0,1,1,1,1,1,1,1,1,1,1,9,0] ?_
         refine go [1,1,1,1,1,1,1,1,1,1,9,2] ?_
         refine Ent.pick [0] (by rfl) ?_
         refine Ent.inv () ?_ ?_ ?_
         · exact trivial
         · (repeat (first | exact trivial | refine ⟨by rfl, ?_⟩ | refine ⟨by simp only [lenS]; rfl, ?_⟩ | refine ⟨by push_cast; rfl, ?_⟩ | refine ⟨by (show some (Value.bool _) = some (Value.bool _); congr 2; all_goals ((first | rfl | exact absurd hT1 hg1 | (exfalso; exact hg1 hT1)))), ?_⟩))
         · rfl
   rintro _ -
   refine go [23,3,4] ?_
   refine Ls.qE 49 (Ev.buildP (pl := [(0, 1), (1, 1), (2, 1), (3, 1)]) (zs := [.slice none 0 0, .int .i64 0, .int .i64 0, .int .i64 0]) rfl (by rfl) (by kernel_rfl) (by rfl)) ?_
   refine go [15,0,5,2,22] ?_
   exact Ent.rA (none) [] (⟨fun h => (by cases h), fun h => absurd ⟨h.1, h.2.1⟩ hg⟩) (Res.cell_tmp 0 (by rfl) (by rfl) (by rfl) (n := 4) (by kernel_rfl) (by rfl) (by rfl) (by rfl))
 · obtain ⟨hg1, hg2⟩ := hg
   have hr : ¬ (e.nx ≠ 0 ∧ e.nx < v.nx) ∧ ¬ (e.lg ≠ 0 ∧ e.lg < v.lg) ∧ ¬ (e.sq ≠ 0 ∧ e.sq < v.sq) := hg2
   refine Cd.cut (ι := Unit) (fun _ => [(2, ptrW g1), (3, ptrW g2), (4, ptrW g3), (48, .bool false)]) (fun _ => [blk g3 24 [.slice none 0 0, .int .i64 0, .int .i64 0, .int .i64 0], blk g2 27 [.slice B e.add.length b, .slice D e.drop.length d, .int .i64 e.nx, .int .i64 e.lg, .int .i64 e.sq], blk g1 24 [.slice A v.tbs.length c, .int .i64 v.nx, .int .i64 v.lg, .int .i64 v.sq], rdT A v.tbs, rdT B e.add, rd D e.drop.length 1 (ints e.drop)]) (fun _ => True) ?_ ?_
   · refine go [4,12,2,4] ?_
     refine Ls.does (some 11) (Does.read rfl Tryz.func34 (by kernel_rfl) (by kernel_rfl) (good_slV v A c (by omega) fv) (by rfl) (by rfl) ⟨ReadsIn.rd 3 (by rfl), trivial⟩) (by rfl) (by rfl) ?_
     rintro _ -
     refine go [20,0] ?_
     refine Ent.split 13 (by rfl) (fun hT1 => ?_) (fun hT1 => ?_)
     · first | have hT1 := of_decide_eq_false hT1 | have hT1 := of_not_decide_false hT1 | skip
       refine go [7,2,8,1,17,0] ?_
       refine Ent.split 17 (by rfl) (fun hT2 => ?_) (fun hT2 => ?_)
       · first | have hT2 := of_decide_eq_false hT2 | have hT2 := of_not_decide_false hT2 | skip
         refine go [1,1,1,1,1,10,10,0,7,3,8,1,17,0] ?_
         refine Ent.split 29 (by rfl) (fun hT3 => ?_) (fun hT3 => ?_)
         · first | have hT3 := of_decide_eq_false hT3 | have hT3 := of_not_decide_false hT3 | skip
           refine go [1,1,1,1,1,10,10,0,7,4,8,1,17,0] ?_
           refine Ent.split 41 (by rfl) (fun hT4 => ?_) (fun hT4 => ?_)
           · first | have hT4 := of_decide_eq_false hT4 | have hT4 := of_not_decide_false hT4 | skip
             refine go [1,1,1,1,1,10,10,2] ?_
             refine Ent.inv () ?_ ?_ ?_
             · exact trivial
             · (repeat (first | exact trivial | refine ⟨by rfl, ?_⟩ | refine ⟨by simp only [lenS]; rfl, ?_⟩ | refine ⟨by push_cast; rfl, ?_⟩ | refine ⟨by (show some (Value.bool _) = some (Value.bool _); congr 2; all_goals ((first | rfl | exact absurd hg1 hT1 | exact decide_eq_false (by omega) | exact (decide_eq_false (by omega)).symm | (exfalso; omega)))), ?_⟩))
             · rfl
           · first | have hT4 := of_decide_eq_true hT4 | have hT4 := of_not_decide_true hT4 | skip
             refine go [7,4,8,1,7,3,8,2,16,9,10,2] ?_
             refine Ent.inv () ?_ ?_ ?_
             · exact trivial
             · (repeat (first | exact trivial | refine ⟨by rfl, ?_⟩ | refine ⟨by simp only [lenS]; rfl, ?_⟩ | refine ⟨by push_cast; rfl, ?_⟩ | refine ⟨by (show some (Value.bool _) = some (Value.bool _); congr 2; all_goals ((first | rfl | exact absurd hg1 hT1 | exact decide_eq_false (by omega) | exact (decide_eq_false (by omega)).symm | (exfalso; omega)))), ?_⟩))
             · rfl
         · first | have hT3 := of_decide_eq_true hT3 | have hT3 := of_not_decide_true hT3 | skip
           refine go [7,3,8,1,7,2,8,2,16,9,10,0] ?_
           refine Ent.split 37 (by rfl) (fun hT4 => ?_) (fun hT4 => ?_)
           · first | have hT4 := of_decide_eq_false hT4 | have hT4 := of_not_decide_false hT4 | skip
             refine go [7,4,8,1,17,0] ?_
             refine Ent.split 41 (by rfl) (fun hT5 => ?_) (fun hT5 => ?_)
             · first | have hT5 := of_decide_eq_false hT5 | have hT5 := of_not_decide_false hT5 | skip
               refine go [1,1,1,1,1,10,10,2] ?_
               refine Ent.inv () ?_ ?_ ?_
               · exact trivial
               · (repeat (first | exact trivial | refine ⟨by rfl, ?_⟩ | refine ⟨by simp only [lenS]; rfl, ?_⟩ | refine ⟨by push_cast; rfl, ?_⟩ | refine ⟨by (show some (Value.bool _) = some (Value.bool _); congr 2; all_goals ((first | rfl | exact absurd hg1 hT1 | exact decide_eq_false (by omega) | exact (decide_eq_false (by omega)).symm | (exfalso; omega)))), ?_⟩))
               · rfl
             · first | have hT5 := of_decide_eq_true hT5 | have hT5 := of_not_decide_true hT5 | skip
               refine go [7,4,8,1,7,3,8,2,16,9,10,2] ?_
               refine Ent.inv () ?_ ?_ ?_
               · exact trivial
               · (repeat (first | exact trivial | refine ⟨by rfl, ?_⟩ | refine ⟨by simp only [lenS]; rfl, ?_⟩ | refine ⟨by push_cast; rfl, ?_⟩ | refine ⟨by (show some (Value.bool _) = some (Value.bool _); congr 2; all_goals ((first | rfl | exact absurd hg1 hT1 | exact decide_eq_false (by omega) | exact (decide_eq_false (by omega)).symm | (exfalso; omega)))), ?_⟩))
               · rfl
           · first | have hT4 := of_decide_eq_true hT4 | have hT4 := of_not_decide_true hT4 | skip
             refine go [1,1,1,1,1,1,1,1,1,1,9,2] ?_
             refine Ent.inv () ?_ ?_ ?_
             · exact trivial
             · (repeat (first | exact trivial | refine ⟨by rfl, ?_⟩ | refine ⟨by simp only [lenS]; rfl, ?_⟩ | refine ⟨by push_cast; rfl, ?_⟩ | refine ⟨by (show some (Value.bool _) = some (Value.bool _); congr 2; all_goals ((first | rfl | exact absurd hg1 hT1 | exact decide_eq_false (by omega) | exact (decide_eq_false (by omega)).symm | (exfalso; omega)))), ?_⟩))
             · rfl
       · first | have hT2 := of_decide_eq_true hT2 | have hT2 := of_not_decide_true hT2 | skip
         refine go [7,2,8,1,7,1,8,2,16,9,10,0] ?_
         refine Ent.split 25 (by rfl) (fun hT3 => ?_) (fun hT3 => ?_)
         · first | have hT3 := of_decide_eq_false hT3 | have hT3 := of_not_decide_false hT3 | skip
           refine go [7,3,8,1,17,0] ?_
           refine Ent.split 29 (by rfl) (fun hT4 => ?_) (fun hT4 => ?_)
           · first | have hT4 := of_decide_eq_false hT4 | have hT4 := of_not_decide_false hT4 | skip
             refine go [1,1,1,1,1,10,10,0,7,4,8,1,17,0] ?_
             refine Ent.split 41 (by rfl) (fun hT5 => ?_) (fun hT5 => ?_)
             · first | have hT5 := of_decide_eq_false hT5 | have hT5 := of_not_decide_false hT5 | skip
               refine go [1,1,1,1,1,10,10,2] ?_
               refine Ent.inv () ?_ ?_ ?_
               · exact trivial
               · (repeat (first | exact trivial | refine ⟨by rfl, ?_⟩ | refine ⟨by simp only [lenS]; rfl, ?_⟩ | refine ⟨by push_cast; rfl, ?_⟩ | refine ⟨by (show some (Value.bool _) = some (Value.bool _); congr 2; all_goals ((first | rfl | exact absurd hg1 hT1 | exact decide_eq_false (by omega) | exact (decide_eq_false (by omega)).symm | (exfalso; omega)))), ?_⟩))
               · rfl
             · first | have hT5 := of_decide_eq_true hT5 | have hT5 := of_not_decide_true hT5 | skip
               refine go [7,4,8,1,7,3,8,2,16,9,10,2] ?_
               refine Ent.inv () ?_ ?_ ?_
               · exact trivial
               · (repeat (first | exact trivial | refine ⟨by rfl, ?_⟩ | refine ⟨by simp only [lenS]; rfl, ?_⟩ | refine ⟨by push_cast; rfl, ?_⟩ | refine ⟨by (show some (Value.bool _) = some (Value.bool _); congr 2; all_goals ((first | rfl | exact absurd hg1 hT1 | exact decide_eq_false (by omega) | exact (decide_eq_false (by omega)).symm | (exfalso; omega)))), ?_⟩))
               · rfl
           · first | have hT4 := of_decide_eq_true hT4 | have hT4 := of_not_decide_true hT4 | skip
             refine go [7,3,8,1,7,2,8,2,16,9,10,0] ?_
             refine Ent.split 37 (by rfl) (fun hT5 => ?_) (fun hT5 => ?_)
             · first | have hT5 := of_decide_eq_false hT5 | have hT5 := of_not_decide_false hT5 | skip
               refine go [7,4,8,1,17,0] ?_
               refine Ent.split 41 (by rfl) (fun hT6 => ?_) (fun hT6 => ?_)
               · first | have hT6 := of_decide_eq_false hT6 | have hT6 := of_not_decide_false hT6 | skip
                 refine go [1,1,1,1,1,10,10,2] ?_
                 refine Ent.inv () ?_ ?_ ?_
                 · exact trivial
                 · (repeat (first | exact trivial | refine ⟨by rfl, ?_⟩ | refine ⟨by simp only [lenS]; rfl, ?_⟩ | refine ⟨by push_cast; rfl, ?_⟩ | refine ⟨by (show some (Value.bool _) = some (Value.bool _); congr 2; all_goals ((first | rfl | exact absurd hg1 hT1 | exact decide_eq_false (by omega) | exact (decide_eq_false (by omega)).symm | (exfalso; omega)))), ?_⟩))
                 · rfl
               · first | have hT6 := of_decide_eq_true hT6 | have hT6 := of_not_decide_true hT6 | skip
                 refine go [7,4,8,1,7,3,8,2,16,9,10,2] ?_
                 refine Ent.inv () ?_ ?_ ?_
                 · exact trivial
                 · (repeat (first | exact trivial | refine ⟨by rfl, ?_⟩ | refine ⟨by simp only [lenS]; rfl, ?_⟩ | refine ⟨by push_cast; rfl, ?_⟩ | refine ⟨by (show some (Value.bool _) = some (Value.bool _); congr 2; all_goals ((first | rfl | exact absurd hg1 hT1 | exact decide_eq_false (by omega) | exact (decide_eq_false (by omega)).symm | (exfalso; omega)))), ?_⟩))
                 · rfl
             · first | have hT5 := of_decide_eq_true hT5 | have hT5 := of_not_decide_true hT5 | skip
               refine go [1,1,1,1,1,1,1,1,1,1,9,2] ?_
               refine Ent.inv () ?_ ?_ ?_
               · exact trivial
               · (repeat (first | exact trivial | refine ⟨by rfl, ?_⟩ | refine ⟨by simp only [lenS]; rfl, ?_⟩ | refine ⟨by push_cast; rfl, ?_⟩ | refine ⟨by (show some (Value.bool _) = some (Value.bool _); congr 2; all_goals ((first | rfl | exact absurd hg1 hT1 | exact decide_eq_false (by omega) | exact (decide_eq_false (by omega)).symm | (exfalso; omega)))), ?_⟩))
               · rfl
         · first | have hT3 := of_decide_eq_true hT3 | have hT3 := of_not_decide_true hT3 | skip
           refine go [1,1,1,1,1,1,1,1,1,1,9,0,1,1,1,1,1,1,1,1,1,1,9,2] ?_
           refine Ent.inv () ?_ ?_ ?_
           · exact trivial
           · (repeat (first | exact trivial | refine ⟨by rfl, ?_⟩ | refine ⟨by simp only [lenS]; rfl, ?_⟩ | refine ⟨by push_cast; rfl, ?_⟩ | refine ⟨by (show some (Value.bool _) = some (Value.bool _); congr 2; all_goals ((first | rfl | exact absurd hg1 hT1 | exact decide_eq_false (by omega) | exact (decide_eq_false (by omega)).symm | (exfalso; omega)))), ?_⟩))
           · rfl
     · first | have hT1 := of_decide_eq_true hT1 | have hT1 := of_not_decide_true hT1 | skip
       refine go [1,1,1,1,1,1,1,1,1,1,9,0,1,1,1,1,1,1,1,1,1,1,9,0] ?_
       refine go [1,1,1,1,1,1,1,1,1,1,9,2] ?_
       refine Ent.inv () ?_ ?_ ?_
       · exact trivial
       · (repeat (first | exact trivial | refine ⟨by rfl, ?_⟩ | refine ⟨by simp only [lenS]; rfl, ?_⟩ | refine ⟨by push_cast; rfl, ?_⟩ | refine ⟨by (show some (Value.bool _) = some (Value.bool _); congr 2; all_goals ((first | rfl | exact absurd hg1 hT1 | exact decide_eq_false (by omega) | exact (decide_eq_false (by omega)).symm | (exfalso; omega)))), ?_⟩))
       · rfl
   rintro _ -
   refine go [24,6,3,4,12,2,4] ?_
   refine Ls.does (some 6) (Does.alloc (cs := [.slice none 0 0, .int .i64 0, .int .i64 0, .int .i64 0]) rfl (ZeroIs.mk (.agg #[.slice none 0 0, .int .i64 0, .int .i64 0, .int .i64 0]) (by kernel_rfl) (by rfl))) (by rfl) (by rfl) ?_
   intro g4 _
   refine go [15,0,25,7,0,8,3] ?_
   refine Ls.does (some 53) (Does.readN rfl Tryz.func35 (by kernel_rfl) (by kernel_rfl) (cloneT_sl A c v.tbs (by omega)) (by rfl) (by rfl) ⟨ReadsIn.rd 4 (by rfl), trivial⟩ (fun _ => by rfl)) (by rfl) (by rfl) ?_
   rintro ⟨C, k⟩ -
   refine go [7,0,15,1,2,3,3,4,7,1,8,3] ?_
   refine Ls.qE 57 (Ev.len rfl (by rfl) Tryz.underlying25) ?_
   refine go [0,2,21] ?_
   have hk0 : keptT v [] = v.tbs := List.filter_eq_self.2 fun t _ => decide_eq_true List.not_mem_nil
   refine Cd.loop (ι := Nat × List TbP) (fun p => [(2, ptrW g1), (3, ptrW g2), (4, ptrW g3), (6, ptrW g4), (56, .slice D e.drop.length d), (57, .int .i64 e.drop.length), (58, .int .i64 p.1)]) (fun p => [rowTb C p.2.length k p.2, blk g4 24 [.slice C p.2.length k, .int .i64 v.nx, .int .i64 v.lg, .int .i64 v.sq], blk g3 24 [.slice none 0 0, .int .i64 0, .int .i64 0, .int .i64 0], blk g2 27 [.slice B e.add.length b, .slice D e.drop.length d, .int .i64 e.nx, .int .i64 e.lg, .int .i64 e.sq], blk g1 24 [.slice A v.tbs.length c, .int .i64 v.nx, .int .i64 v.lg, .int .i64 v.sq], rdT A v.tbs, rdT B e.add, rd D e.drop.length 1 (ints e.drop)]) (fun p => p.1 ≤ e.drop.length ∧ p.2 = keptT v (e.drop.take p.1) ∧ DropOk v (e.drop.take p.1)) (fun p => e.drop.length - p.1) ((0, v.tbs)) (⟨Nat.zero_le _, hk0.symm, DropOk.nil v⟩) ?_ rfl ?_
   · (repeat (first | exact trivial | refine ⟨by rfl, ?_⟩))
   rintro ⟨j, K⟩ ⟨hj, hK, hD⟩
   dsimp only at hj hK hD ⊢
   have hKl : K.length ≤ 70000000 := by
    rw [hK]
    exact Nat.le_trans (List.length_filter_le _ _) hv
   refine go [3,4,16,2,3] ?_
   refine Cd.cond _ (by rfl) (fun h2 => ?_) (fun h2 => ?_)
   · have hjl : j < e.drop.length := by have := of_decide_eq_true h2; omega
     obtain ⟨x, hx⟩ := get_of_lt hjl
     have htk : e.drop.take (j + 1) = e.drop.take j ++ [x] := by rw [List.take_add_one, hx]; rfl
     refine Ent.rdSome 7 (by rfl) (by omega) (fun dd hdd => ?_)
     obtain rfl : D = some dd := hdd
     refine go [6,3,21,3,4] ?_
     refine Ls.qE 60 (Ev.indexAt (sz := 1) rfl (by rfl) (by rfl) Tryz.underlying25 (by kernel_rfl) (by omega)) ?_
     refine Ls.qE 61 (Ev.loadInt rfl (by rfl) (ReadsIn.rd 7 (by rfl)) (by kernel_rfl) (by assumption)) ?_
     refine Ls.does (some 8) (Does.alloc (cs := [.int .i64 0]) rfl (ZeroIs.mk (.int .i64 0) (by kernel_rfl) (by rfl))) (by rfl) (by rfl) ?_
     intro g5 _
     refine go [15,0,25,7,0,8,2] ?_
     refine Ls.qE 64 (Ev.makeFunc1 rfl (by rfl)) ?_
     refine Ls.does (some 65) (Does.read rfl Tryz.func36 (by kernel_rfl) (by kernel_rfl) (index_sl C k K g5 x (by omega)) (by rfl) (by rfl) ⟨ReadsIn.row 1 (by rfl), blkIn 0 (by rfl), trivial⟩) (by rfl) (by rfl) ?_
     rintro r hr2
     refine go [5,2,3,3,4,0,16,2] ?_
     have hspl : e.drop = e.drop.take j ++ x :: e.drop.drop (j + 1) := by
      obtain ⟨q1, q2⟩ := List.getElem?_eq_some_iff.1 hx
      rw [← q2, ← List.drop_eq_getElem_cons q1, List.take_append_drop]
     rcases hr2 with ⟨rfl, hno⟩ | ⟨i, t, rfl, hit, hnum⟩
     · refine Cd.cond_true (by rfl) (decide_eq_true (show (-1 : Int) < 0 by decide)) ?_
       refine go [3,4] ?_
       refine Ls.qE 68 (Ev.buildP (pl := [(0, 1), (1, 1), (2, 1), (3, 1)]) (zs := [.slice none 0 0, .int .i64 0, .int .i64 0, .int .i64 0]) rfl (by rfl) (by kernel_rfl) (by rfl)) ?_
       refine go [15,3,5,2,22] ?_
       exact Ent.rA (none) [] (⟨fun h => (by cases h), fun h => absurd h.2.2.1 (by rw [hspl]; exact drop_bad (by rw [← hK]; exact hno))⟩) (Res.cell_tmp 3 (by rfl) (by rfl) (by rfl) (n := 4) (by kernel_rfl) (by rfl) (by rfl) (by rfl))
     · have hil := (List.getElem?_eq_some_iff.1 hit).1
       obtain ⟨m1, m2, m3⟩ := kept_step hg1 (ds := e.drop.take j) (n := x) (i := i) (t := t) (by rw [← hK]; exact hit) hnum
       rw [← hK] at m1
       have hel : (K.eraseIdx i).length = K.length - 1 := List.length_eraseIdx_of_lt hil
       refine Cd.cond_false (by rfl) (decide_eq_false (show ¬ ((i : Int) < 0) by omega)) ?_
       refine go [6,4,7,0,8,2,0,0] ?_
       refine Ls.qE 73 (Ev.addN (b := 1) rfl (by rfl) (by rfl) (by omega)) ?_
       refine Ls.does (some 74) (Does.call [1, 0, 2, 3, 4, 5, 6, 7, 8] rfl Tryz.func38 (by kernel_rfl) (by kernel_rfl) (del_sl C K.length k i K rfl hil (by omega)) (by rfl) (by rfl) (by rfl)) (by rfl) (by rfl) ?_
       rintro _ -
       rw [← hel]
       refine go [7,0,15,2,2,4] ?_
       refine Ls.qE 76 (Ev.addN (b := 1) rfl (by rfl) (by rfl) (by omega)) ?_
       refine go [0,2] ?_
       refine Ent.pick [0, 2, 3, 4, 5, 6, 7, 8] (by rfl) ?_
       refine Ent.iA ((j + 1, K.eraseIdx i)) ?_
       (try dsimp only); exact ⟨⟨hjl, by rw [htk]; exact m1, by rw [htk]; exact hD.snoc m2 m3⟩, by omega⟩
   · have hge : e.drop.length ≤ j := by have := of_decide_eq_false h2; omega
     rw [List.take_of_length_le hge] at hK hD
     refine Cd.exit ?_
     refine go [3,4,7,0,8,1,7,0,8,3] ?_
     refine Ls.does (some 81) (Does.app (xs := tbs K) (news := tbs e.add) 0 rfl (by rfl) (by rfl) (by rfl) (ReadsIn.rd 6 (by rfl)) elem_tb (one_tb _) (show (K.length + e.add.length) * 48 ≤ 140737488355328 by omega)) (by rfl) (by rfl) ?_
     rintro ⟨qA, qc⟩ -
     dsimp only
     have hL : row qA (K.length + e.add.length) qc 42 4 (tbs K ++ tbs e.add) = rowTb qA (K.length + e.add.length) qc (K ++ e.add) := by
      dsimp only [rowTb]
      rw [tbs_append]
     rw [hL]
     refine go [7,0,15,1,25,7,0,8,1] ?_
     refine Ls.does (some 85) (Does.call [0, 1, 2, 3, 4, 5, 6, 7] rfl Tryz.func39 (by kernel_rfl) (by kernel_rfl) (sort_sl qA (K.length + e.add.length) qc (K ++ e.add) List.length_append (by omega)) (by rfl) (by rfl) (by rfl)) (by rfl) (by rfl) ?_
     rintro Q ⟨hp, hs⟩
     have hQl : K.length + e.add.length = Q.length := by rw [hp.length_eq, List.length_append]
     rw [hQl]
     have hmx : ∀ a b : Int, (if a < b then b else a) = max a b := fun a b => by split <;> omega
     refine go [2,3] ?_
     refine Cd.drawS [3, 4] [20] (by kernel_rfl) ?_
     refine Rg.ev 0 (by rfl) (fun _ h => h.pick [3, 4] rfl) (Ev.fieldAddr (k := 1) rfl (by rfl) (by kernel_rfl) (by rfl)) (by rfl) (some 86) (by rfl) (by kernel_rfl) (by kernel_rfl) (by kernel_rfl) (by kernel_rfl) ?_
     refine Rg.ev 1 (by rfl) (fun _ h => h.pick [3, 4] rfl) (Ev.load 1 rfl (by rfl) (by rfl) (by kernel_rfl) (by rfl)) (by rfl) (some 87) (by rfl) (by kernel_rfl) (by kernel_rfl) (by kernel_rfl) (by kernel_rfl) ?_
     refine Rg.ev 2 (by rfl) (fun _ h => h.pick [3, 4] rfl) (Ev.fieldAddr (k := 2) rfl (by rfl) (by kernel_rfl) (by rfl)) (by rfl) (some 88) (by rfl) (by kernel_rfl) (by kernel_rfl) (by kernel_rfl) (by kernel_rfl) ?_
     refine Rg.ev 3 (by rfl) (fun _ h => h.pick [3, 4] rfl) (Ev.load 0 rfl (by rfl) (by rfl) (by kernel_rfl) (by rfl)) (by rfl) (some 89) (by rfl) (by kernel_rfl) (by kernel_rfl) (by kernel_rfl) (by kernel_rfl) ?_
     refine Rg.ev 4 (by rfl) (fun _ h => h.pick [3, 4] rfl) (Ev.max rfl (by rfl) (by rfl)) (by rfl) (some 90) (by rfl) (by kernel_rfl) (by kernel_rfl) (by kernel_rfl) (by kernel_rfl) ?_
     refine Rg.ev 5 (by rfl) (fun _ h => h.pick [3, 4] rfl) (Ev.fieldAddr (k := 2) rfl (by rfl) (by kernel_rfl) (by rfl)) (by rfl) (some 91) (by rfl) (by kernel_rfl) (by kernel_rfl) (by kernel_rfl) (by kernel_rfl) ?_
     refine Rg.ev 6 (by rfl) (fun _ h => h.pick [3, 4] rfl) (Ev.load 1 rfl (by rfl) (by rfl) (by kernel_rfl) (by rfl)) (by rfl) (some 92) (by rfl) (by kernel_rfl) (by kernel_rfl) (by kernel_rfl) (by kernel_rfl) ?_
     refine Rg.ev 7 (by rfl) (fun _ h => h.pick [3, 4] rfl) (Ev.fieldAddr (k := 3) rfl (by rfl) (by kernel_rfl) (by rfl)) (by rfl) (some 93) (by rfl) (by kernel_rfl) (by kernel_rfl) (by kernel_rfl) (by kernel_rfl) ?_
     refine Rg.ev 8 (by rfl) (fun _ h => h.pick [3, 4] rfl) (Ev.load 0 rfl (by rfl) (by rfl) (by kernel_rfl) (by rfl)) (by rfl) (some 94) (by rfl) (by kernel_rfl) (by kernel_rfl) (by kernel_rfl) (by kernel_rfl) ?_
     refine Rg.ev 9 (by rfl) (fun _ h => h.pick [3, 4] rfl) (Ev.max rfl (by rfl) (by rfl)) (by rfl) (some 95) (by rfl) (by kernel_rfl) (by kernel_rfl) (by kernel_rfl) (by kernel_rfl) ?_
     refine Rg.ev 10 (by rfl) (fun _ h => h.pick [3, 4] rfl) (Ev.fieldAddr (k := 3) rfl (by rfl) (by kernel_rfl) (by rfl)) (by rfl) (some 96) (by rfl) (by kernel_rfl) (by kernel_rfl) (by kernel_rfl) (by kernel_rfl) ?_
     refine Rg.ev 11 (by rfl) (fun _ h => h.pick [3, 4] rfl) (Ev.load 1 rfl (by rfl) (by rfl) (by kernel_rfl) (by rfl)) (by rfl) (some 97) (by rfl) (by kernel_rfl) (by kernel_rfl) (by kernel_rfl) (by kernel_rfl) ?_
     refine Rg.ev 12 (by rfl) (fun _ h => h.pick [3, 4] rfl) (Ev.fieldAddr (k := 4) rfl (by rfl) (by kernel_rfl) (by rfl)) (by rfl) (some 98) (by rfl) (by kernel_rfl) (by kernel_rfl) (by kernel_rfl) (by kernel_rfl) ?_
     refine Rg.ev 13 (by rfl) (fun _ h => h.pick [3, 4] rfl) (Ev.load 0 rfl (by rfl) (by rfl) (by kernel_rfl) (by rfl)) (by rfl) (some 99) (by rfl) (by kernel_rfl) (by kernel_rfl) (by kernel_rfl) (by kernel_rfl) ?_
     refine Rg.ev 14 (by rfl) (fun _ h => h.pick [3, 4] rfl) (Ev.max rfl (by rfl) (by rfl)) (by rfl) (some 100) (by rfl) (by kernel_rfl) (by kernel_rfl) (by kernel_rfl) (by kernel_rfl) ?_
     refine Rg.ev 15 (by rfl) (fun _ h => h.pick [3, 4] rfl) (Ev.fieldAddr (k := 1) rfl (by rfl) (by kernel_rfl) (by rfl)) (by rfl) (some 101) (by rfl) (by kernel_rfl) (by kernel_rfl) (by kernel_rfl) (by kernel_rfl) ?_
     refine Rg.keep 16 (by rfl) (by kernel_rfl) (Does.store 1 rfl (by rfl) (by rfl) (by rfl) (by kernel_rfl) (by rfl) (by kernel_rfl) (by rfl)) (by rfl) none (by rfl) (fun _ _ h => by have h2 := h.pick [3, 4] (by rfl); exact h2) ?_
     intro _ _
     refine Rg.ev 17 (by rfl) (fun _ h => h.pick [3, 4] rfl) (Ev.fieldAddr (k := 2) rfl (by rfl) (by kernel_rfl) (by rfl)) (by rfl) (some 102) (by rfl) (by kernel_rfl) (by kernel_rfl) (by kernel_rfl) (by kernel_rfl) ?_
     refine Rg.keep 18 (by rfl) (by kernel_rfl) (Does.store 1 rfl (by rfl) (by rfl) (by rfl) (by kernel_rfl) (by rfl) (by kernel_rfl) (by rfl)) (by rfl) none (by rfl) (fun _ _ h => by have h2 := h.pick [3, 4] (by rfl); exact h2) ?_
     intro _ _
     refine Rg.ev 19 (by rfl) (fun _ h => h.pick [3, 4] rfl) (Ev.fieldAddr (k := 3) rfl (by rfl) (by kernel_rfl) (by rfl)) (by rfl) (some 103) (by rfl) (by kernel_rfl) (by kernel_rfl) (by kernel_rfl) (by kernel_rfl) ?_
     refine Rg.tail 20 [] (by rfl) (by kernel_rfl) (Does.store 1 rfl (by rfl) (by rfl) (by rfl) (by kernel_rfl) (by rfl) (by kernel_rfl) (by rfl)) (by rfl) none (by rfl) (by kernel_rfl) (by kernel_rfl) ?_
     intro _ _
     refine Rg.done (by kernel_rfl) ?_ _
     refine go [3,3] ?_
     rw [hmx, hmx, hmx]
     have hfQ : Fine Q := fun t ht => by
      rcases List.mem_append.1 (hp.mem_iff.1 ht) with h | h
      · rw [hK] at h
        exact fv t (List.mem_filter.1 h).1
      · exact fe t h
     have hgs := good_sort (nx := max v.nx e.nx) (lg := max v.lg e.lg) (sq := max v.sq e.sq) hp hs
     have hout : outP v e = ⟨sortT (K ++ e.add), max v.nx e.nx, max v.lg e.lg, max v.sq e.sq⟩ := by
      unfold outP
      rw [← hK]
     refine go [4,12,1,4] ?_
     refine Ls.does (some 105) (Does.read rfl Tryz.func34 (by kernel_rfl) (by kernel_rfl) (good_slV ⟨Q, max v.nx e.nx, max v.lg e.lg, max v.sq e.sq⟩ qA qc (by dsimp only; omega) hfQ) (by rfl) (by rfl) ⟨ReadsIn.row 0 (by rfl), trivial⟩) (by rfl) (by rfl) ?_
     rintro _ -
     refine go [20,2] ?_
     by_cases hGo : goodP ⟨Q, max v.nx e.nx, max v.lg e.lg, max v.sq e.sq⟩
     · have hQ := hgs.2 hGo
       rw [decide_eq_true hGo]
       refine go [24,6,3,4,12,1,4,15,2,5,2,22] ?_
       refine Ent.ret (some (qA, qc)) (⟨fun _ => ⟨hg1, hg2, hD, by rw [hout]; exact hgs.1.1 hGo⟩, fun _ => rfl⟩) (Res.cell_tmp 2 (by rfl) (by rfl) (by rfl) (n := 4) (by kernel_rfl) (by rfl) (by rfl) (by rfl)) ?_ [0] (by rfl) ?_
       · unfold fitV
         rw [hout, ← hQ]
         try rfl
       · unfold fitC
         rw [hout, ← hQ]
         try rfl
     · rw [decide_eq_false hGo]
       refine go [23,3,4] ?_
       refine Ls.qE 107 (Ev.buildP (pl := [(0, 1), (1, 1), (2, 1), (3, 1)]) (zs := [.slice none 0 0, .int .i64 0, .int .i64 0, .int .i64 0]) rfl (by rfl) (by kernel_rfl) (by rfl)) ?_
       refine go [15,2,5,2,22] ?_
       exact Ent.rA (none) [] (⟨fun h => (by cases h), fun h => absurd (hgs.1.2 (by rw [← hout]; exact h.2.2.2)) hGo⟩) (Res.cell_tmp 2 (by rfl) (by rfl) (by rfl) (n := 4) (by kernel_rfl) (by rfl) (by rfl) (by rfl))
def textB (l : List UInt8) : List UInt8 := uintL l.length ++ l
theorem textB_length (l : List UInt8) : (textB l).length = (uintL l.length).length + l.length := by
 unfold textB
 rw [List.length_append]
theorem uint_sl (n : Nat) (hn : n < 18446744073709551616) : Fn Tryz.prog 92 #[.int .u64 n] [] (Option Addr × Nat) (fun p => .slice p.1 (uintL n).length p.2) (fun p => [rowB p.1 p.2 (uintL n)]) (fun _ => True) :=
 Fn.of_own (res := fun p => .slice p.1 (uintL n).length p.2) fun w _ => uint_any n w hn
theorem refUint_sl (n : Nat) (hn : n < 18446744073709551616) : Fn Tryz.prog 112 #[.int .u64 n] [] (Option Addr × Nat) (fun p => .slice p.1 (uintL n).length p.2) (fun p => [rowB p.1 p.2 (uintL n)]) (fun _ => True) :=
 Fn.of_own (res := fun p => .slice p.1 (uintL n).length p.2) fun w _ => refUint_any n w hn
theorem ftext_sl (l : List UInt8) (hs : l.length ≤ 140737488351232) : Fn Tryz.prog 94 #[.string (txt l)] [] (Option Addr × Nat) (fun p => .slice p.1 (textB l).length p.2) (fun p => [rowB p.1 p.2 (textB l)]) (fun _ => True) :=
 Fn.of_own (res := fun p => .slice p.1 (textB l).length p.2) fun w _ => by
  have h := text_any (txt l) w hs
  rw [show (uintL (txt l).size).length + (txt l).size = (textB l).length from (textB_length l).symm] at h
  exact h
theorem refText_sl (l : List UInt8) (hs : l.length ≤ 140737488351232) : Fn Tryz.prog 113 #[.string (txt l)] [] (Option Addr × Nat) (fun p => .slice p.1 (textB l).length p.2) (fun p => [rowB p.1 p.2 (textB l)]) (fun _ => True) :=
 Fn.of_own (res := fun p => .slice p.1 (textB l).length p.2) fun w _ => by
  have h := refText_any (txt l) w hs
  rw [show (uintL (txt l).size).length + (txt l).size = (textB l).length from (textB_length l).symm] at h
  exact h
theorem takeUint_sl (A : Option Addr) (c : Nat) (l : List UInt8) (hn : l.length ≤ maxLen) : Fn Tryz.prog 129 #[.slice A l.length c] [rdB A l] Unit (fun _ => .tuple #[.int .u64 (takeU l).1, .int .i64 (takeU l).2]) (fun _ => []) (fun _ => True) :=
 Fn.of_same fun w hs => takeUint_any A l.length c l w (sat_rd 0 rfl hs) hn
theorem refTakeUint_sl (A : Option Addr) (c : Nat) (l : List UInt8) (hc : l.length ≤ c) (hn : l.length ≤ maxLen) : Fn Tryz.prog 140 #[.slice A l.length c] [rdB A l] Unit (fun _ => .tuple #[.int .u64 (takeU l).1, .int .i64 (takeU l).2]) (fun _ => []) (fun _ => True) :=
 Fn.of_below fun w hs => refTakeUint_any A l.length c l w (sat_rd 0 rfl hs) hc hn
theorem takeText_sl (A : Option Addr) (c : Nat) (l : List UInt8) (hc : l.length ≤ c) (hn : l.length ≤ maxLen) : Fn Tryz.prog 130 #[.slice A l.length c] [rdB A l] Unit (fun _ => .tuple #[.string ⟨(takeT l).1.toArray⟩, .int .i64 (takeT l).2]) (fun _ => []) (fun _ => True) :=
 Fn.of_same fun w hs => takeText_any A l.length c l w (sat_rd 0 rfl hs) hc hn
theorem refTakeText_sl (A : Option Addr) (c : Nat) (l : List UInt8) (hc : l.length ≤ c) (hn : l.length ≤ maxLen) : Fn Tryz.prog 111 #[.slice A l.length c] [rdB A l] Unit (fun _ => .tuple #[.string ⟨(takeT l).1.toArray⟩, .int .i64 (takeT l).2]) (fun _ => []) (fun _ => True) :=
 Fn.of_below fun w hs => refTakeText_any A l.length c l w (sat_rd 0 rfl hs) hc hn
def numC (l : List UInt8) : Nat × Nat × Bool := if (takeU l).2 = 0 ∨ 4611686018427387904 < (takeU l).1 then (0, 0, true) else ((takeU l).1, (takeU l).2, false)
def txtC (l : List UInt8) : ByteArray × Nat × Bool := if (takeT l).2 = 0 then (⟨#[]⟩, 0, true) else (txt (takeT l).1, (takeT l).2, false)
theorem takeT_le (l : List UInt8) : (takeT l).2 ≤ l.length ∧ (takeT l).1.length ≤ l.length := by
 have := takeU_le l
 unfold takeT
 split
 · simp
 · rename_i h
   simp only [List.length_take, List.length_drop]
   omega
theorem numC_le (l : List UInt8) : (numC l).2.1 ≤ l.length ∧ (numC l).1 ≤ 4611686018427387904 ∧ ((numC l).2.2 = false → 1 ≤ (numC l).2.1) := by
 have := takeU_le l
 unfold numC
 split
 · simp
 · dsimp only; omega
theorem txtC_le (l : List UInt8) : (txtC l).2.1 ≤ l.length ∧ (txtC l).1.size ≤ l.length ∧ ((txtC l).2.2 = false → 1 ≤ (txtC l).2.1) := by
 have h := takeT_le l
 unfold txtC
 split
 · exact ⟨Nat.zero_le _, Nat.zero_le _, fun h => by cases h⟩
 · refine ⟨h.1, ?_, fun _ => by dsimp only; omega⟩
   show (takeT l).1.toArray.size ≤ _
   simpa using h.2
section
variable {Γ : Ctx} {N : Frm} {P : Program} {E : Env} {H : List Chunk} {o : Oper} {x y z : Operand}
theorem Ent.cutB {A : Option Addr} {l : List UInt8} {B : Asrt} (i lo hi m : Nat) (hi' : H[i]? = some (rdB A l)) (hlo : lo ≤ hi ∧ hi ≤ l.length ∧ hi ≤ m) (h : Ent Γ N E (rdB (cutA A m lo 1) ((l.drop lo).take (hi - lo)) :: H) B) : Ent Γ N E H B := by
 refine Ent.cut i lo hi m hi' hlo ?_
 have e : ((u8s l).drop (lo * 1)).take ((hi - lo) * 1) = u8s ((l.drop lo).take (hi - lo)) := by
  rw [Nat.mul_one, Nat.mul_one, u8s_drop]
  simp [u8s, List.map_take]
 have e2 : ((l.drop lo).take (hi - lo)).length = hi - lo := by rw [List.length_take, List.length_drop]; omega
 rw [e]
 unfold rdB at h
 rw [e2] at h
 exact h
theorem Ent.dropB {A : Option Addr} {l : List UInt8} {B : Asrt} (i lo m : Nat) (hi' : H[i]? = some (rdB A l)) (hlo : lo ≤ l.length ∧ l.length ≤ m) (h : Ent Γ N E (rdB (cutA A m lo 1) (l.drop lo) :: H) B) : Ent Γ N E H B := by
 refine Ent.cutB i lo l.length m hi' ⟨hlo.1, Nat.le_refl _, hlo.2⟩ ?_
 rw [List.take_of_length_le (by rw [List.length_drop]; exact Nat.le_refl _)]
 exact h
theorem Ev.dropB {t e c lo : Nat} {A : Option Addr} {k : IntKind} {l : List UInt8} (ho : o.op = .slice t x (some y) none none) (hx : E.ev x = some (.slice A l.length c)) (hy : E.ev y = some (.int k lo)) (ht : P.underlying t = some (.slice e)) (he : (P.info? e).map (·.size) = some 1) (hl : lo ≤ l.length) :
 Ev Γ N P E H o (.slice (cutA A c lo 1) (l.drop lo).length (c - lo)) := by
 rw [List.length_drop]
 exact Ev.sliceLn ho hx hy ht he hl
end
def cutC (g : Nat) (l : List UInt8) (bad : Bool) (p : Option Addr × Nat) : List Chunk := [blk g 148 [.slice p.1 l.length p.2, .bool bad], rdB p.1 l]
theorem number_sl (g : Nat) (A : Option Addr) (c : Nat) (l : List UInt8) (bad : Bool) (hc : l.length ≤ c) (hm : l.length ≤ maxLen) :
 Fn Tryz.prog 89 #[ptrW g] (cutC g l bad (A, c)) (Option Addr × Nat) (fun _ => .int .i64 (numC l).1) (fun p => cutC g (l.drop (numC l).2.1) (bad || (numC l).2.2) p) (fun p => (l.drop (numC l).2.1).length ≤ p.2) := by
 have hle := takeU_le l
 refine Fn.enter Tryz.func89 rfl Tryz.ntmps89 (by rfl) ?_
 intro w0
 refine go [3,4,5,25,0,14,7,0,8,0] ?_
 refine Ls.does (some 10) (Does.read rfl Tryz.func129 (by kernel_rfl) (by kernel_rfl) (takeUint_sl A c l hm) (by rfl) (by rfl) ⟨ReadsIn.rd 1 (by rfl), trivial⟩) (by rfl) (by rfl) ?_
 rintro _ -
 refine go [0,11,11,5,5,2,3,3] ?_
 refine Cd.cut (ι := Unit) (fun _ => [(0, ptrW g), (3, .int .u64 (takeU l).1), (4, .int .i64 (takeU l).2), (18, .bool (decide ((takeU l).2 = 0 ∨ 4611686018427387904 < (takeU l).1)))]) (fun _ => cutC g l bad (A, c)) (fun _ => True) ?_ ?_
 · refine go [4,0,19,0] ?_
   refine Ent.split 15 (by rfl) (fun h => ?_) (fun h => ?_)
   · have h1 : (takeU l).2 ≠ 0 := by have := of_decide_eq_false h; omega
     refine go [0,18,10,2] ?_
     refine Ent.inv (()) ?_ ?_ ?_
     · (try dsimp only); skip
     · (repeat (first | exact trivial | refine ⟨by rfl, ?_⟩ | refine ⟨by simp only [lenS]; rfl, ?_⟩ | refine ⟨by push_cast; rfl, ?_⟩ | refine ⟨by (show some (Value.bool _) = some (Value.bool _); congr 2; rw [decide_eq_decide]; omega), ?_⟩))
     · rfl
   · have h1 : (takeU l).2 = 0 := by have := of_decide_eq_true h; omega
     refine go [1,1,9,2] ?_
     refine Ent.inv (()) ?_ ?_ ?_
     · (try dsimp only); skip
     · (repeat (first | exact trivial | refine ⟨by rfl, ?_⟩ | refine ⟨by simp only [lenS]; rfl, ?_⟩ | refine ⟨by push_cast; rfl, ?_⟩ | refine ⟨by (show some (Value.bool _) = some (Value.bool _); congr 2; exact (decide_eq_true (.inl h1)).symm), ?_⟩))
     · rfl
 rintro _ -
 refine Cd.cond _ (by rfl) (fun h => ?_) (fun h => ?_)
 · have hn : numC l = (0, 0, true) := by unfold numC; rw [if_pos (of_decide_eq_true h)]
   rw [hn]
   refine go [3,4,0,14,7,1,15,0,25,5,2,22] ?_
   refine Ent.ret ((A, c)) (hc) (Res.tmp (by rfl) (by rfl)) ?_ [0, 1] (by rfl) ?_
   · rfl
   · rw [Bool.or_true]; rfl
 · have hn : numC l = ((takeU l).1, (takeU l).2, false) := by unfold numC; rw [if_neg (of_decide_eq_false h)]
   have hbig := of_decide_eq_false h
   rw [hn]
   refine go [6,3,4,0,0,14,7,0,8,0,0] ?_
   refine Ls.qE 28 (Ev.dropB rfl (by rfl) (by rfl) Tryz.underlying47 (by kernel_rfl) hle.1) ?_
   refine Ent.dropB 1 (takeU l).2 c (by rfl) ⟨hle.1, hc⟩ ?_
   refine go [14,7,0,15,1,25,0] ?_
   refine Ls.qE 32 (Ev.convI rfl (by rfl) (by kernel_rfl) Tryz.underlying3 (by omega)) ?_
   refine go [5,2,22] ?_
   refine Ent.ret ((cutA A c (takeU l).2 1, c - (takeU l).2)) ((by dsimp only; rw [List.length_drop]; omega)) (Res.tmp (by rfl) (by rfl)) ?_ [1, 0] (by rfl) ?_
   · rfl
   · rw [Bool.or_false]; rfl
theorem text_sl (g : Nat) (A : Option Addr) (c : Nat) (l : List UInt8) (bad : Bool) (hc : l.length ≤ c) (hm : l.length ≤ maxLen) :
 Fn Tryz.prog 90 #[ptrW g] (cutC g l bad (A, c)) (Option Addr × Nat) (fun _ => .string (txtC l).1) (fun p => cutC g (l.drop (txtC l).2.1) (bad || (txtC l).2.2) p) (fun p => (l.drop (txtC l).2.1).length ≤ p.2) := by
 have hle := takeT_le l
 refine Fn.enter Tryz.func90 rfl Tryz.ntmps90 (by rfl) ?_
 intro w0
 refine go [3,4,5,25,0,14,7,0,8,0] ?_
 refine Ls.does (some 10) (Does.read rfl Tryz.func130 (by kernel_rfl) (by kernel_rfl) (takeText_sl A c l hc hm) (by rfl) (by rfl) ⟨ReadsIn.rd 1 (by rfl), trivial⟩) (by rfl) (by rfl) ?_
 rintro _ -
 refine go [0,11,11,5,5,2,3,3,4,0,19,2] ?_
 refine Cd.cond _ (by rfl) (fun h => ?_) (fun h => ?_)
 · have h1 : (takeT l).2 = 0 := by have := of_decide_eq_true h; omega
   have hn : txtC l = (⟨#[]⟩, 0, true) := by unfold txtC; rw [if_pos h1]
   rw [hn]
   refine go [3,4,0,14,7,1,15,0,25,5,2,22] ?_
   refine Ent.ret ((A, c)) (hc) (Res.tmp (by rfl) (by rfl)) ?_ [0, 1] (by rfl) ?_
   · rfl
   · rw [Bool.or_true]; rfl
 · have h1 : ¬ (takeT l).2 = 0 := by have := of_decide_eq_false h; omega
   have hn : txtC l = (txt (takeT l).1, (takeT l).2, false) := by unfold txtC; rw [if_neg h1]
   rw [hn]
   refine go [6,3,4,0,0,14,7,0,8,0,0] ?_
   refine Ls.qE 24 (Ev.dropB rfl (by rfl) (by rfl) Tryz.underlying47 (by kernel_rfl) hle.1) ?_
   refine Ent.dropB 1 (takeT l).2 c (by rfl) ⟨hle.1, hc⟩ ?_
   refine go [14,7,0,15,1,25,0,5,2,22] ?_
   refine Ent.ret ((cutA A c (takeT l).2 1, c - (takeT l).2)) ((by dsimp only; rw [List.length_drop]; omega)) (Res.tmp (by rfl) (by rfl)) ?_ [1, 0] (by rfl) ?_
   · rfl
   · rw [Bool.or_false]; rfl
end Go.Proofs.YtacbkganjkipdaaGreatDoor
namespace Go.Proofs.YtacbkganjkipdaaGreatDoor
def tabB (t : TbP) : List UInt8 := uintL t.num.toNat ++ uintL t.lev.toNat ++ textB t.fst ++ textB t.lst
def drpB (n : Int) : List UInt8 := uintL n.toNat
def edB (e : EdP) : List UInt8 := uintL e.add.length ++ e.add.flatMap tabB ++ uintL e.drop.length ++ e.drop.flatMap drpB ++ uintL e.nx.toNat ++ uintL e.lg.toNat ++ uintL e.sq.toNat
structure TabOk (t : TbP) : Prop where
 num : 0 ≤ t.num ∧ t.num ≤ 1000000
 lev : 0 ≤ t.lev ∧ t.lev ≤ 1000000
 fst : t.fst.length ≤ 64
 lst : t.lst.length ≤ 64
structure EncOk (e : EdP) : Prop where
 tab : ∀ t ∈ e.add, TabOk t
 drp : ∀ n ∈ e.drop, 0 ≤ n ∧ n ≤ 1000000
 nx : 0 ≤ e.nx ∧ e.nx ≤ 9223372036854775807
 lg : 0 ≤ e.lg ∧ e.lg ≤ 9223372036854775807
 sq : 0 ≤ e.sq ∧ e.sq ≤ 9223372036854775807
 add : e.add.length ≤ 10000000
 drl : e.drop.length ≤ 10000000
theorem flat_le {α : Type} {g : α → List UInt8} {b : Nat} : ∀ {l : List α}, (∀ x ∈ l, (g x).length ≤ b) → (l.flatMap g).length ≤ l.length * b
 | [], _ => Nat.zero_le _
 | x :: l, h => by
  have h1 := h x List.mem_cons_self
  have h2 := flat_le (l := l) fun y hy => h y (List.mem_cons_of_mem _ hy)
  rw [List.flatMap_cons, List.length_append, List.length_cons, Nat.succ_mul]
  omega
theorem textB_le {l : List UInt8} (h : l.length ≤ 64) : (textB l).length ≤ 74 := by
 have := uintL_len64 (n := l.length) (by omega)
 rw [textB_length]
 omega
theorem tabB_le {t : TbP} (h : TabOk t) : (tabB t).length ≤ 168 := by
 have h1 := uintL_len64 (n := t.num.toNat) (by have := h.num; omega)
 have h2 := uintL_len64 (n := t.lev.toNat) (by have := h.lev; omega)
 have h3 := textB_le h.fst
 have h4 := textB_le h.lst
 unfold tabB
 simp only [List.length_append]
 omega
theorem drpB_le {n : Int} (h : 0 ≤ n ∧ n ≤ 1000000) : (drpB n).length ≤ 10 := uintL_len64 (n := n.toNat) (by omega)
theorem RngOk.nx {v : VsP} (h : RngOk v) : 1 ≤ v.nx ∧ v.nx ≤ 1000000 := h.1
theorem RngOk.lg {v : VsP} (h : RngOk v) : 1 ≤ v.lg ∧ v.lg ≤ 999999 := h.2.1
theorem RngOk.sq {v : VsP} (h : RngOk v) : 0 ≤ v.sq ∧ v.sq ≤ 4611686018427387904 := h.2.2
theorem TbOk.tab {nx : Int} {t : TbP} (h : TbOk nx t) : TabOk t := ⟨by have k := h.lo; have k2 := h.hi; omega, by have := h.lev; omega, h.fst, h.lst⟩
theorem goodP.tab {v : VsP} (h : goodP v) : ∀ t ∈ v.tbs, TbOk v.nx t := fun t ht => by
 obtain ⟨i, hi⟩ := List.getElem?_of_mem ht
 exact (h.2 i t hi).ok
theorem good_fine {v : VsP} (h : goodP v) : Fine v.tbs := fun t ht => by
 have k := h.tab t ht
 have k1 := k.fst
 have k2 := k.lst
 have k3 := k.lo
 have k4 := k.hi
 exact ⟨by omega, by omega, by omega, by omega⟩
theorem pigG {α : Type} [DecidableEq α] : ∀ {l m : List α}, l.Nodup → (∀ x ∈ l, x ∈ m) → l.length ≤ m.length
 | [], _, _, _ => Nat.zero_le _
 | x :: l, m, hn, h => by
  obtain ⟨h1, h2⟩ := List.nodup_cons.1 hn
  have hx := h x List.mem_cons_self
  have := pigG (l := l) (m := m.erase x) h2 (fun y hy => (List.mem_erase_of_ne (fun e : y = x => h1 (by rw [← e]; exact hy))).2 (h y (List.mem_cons_of_mem _ hy)))
  rw [List.length_erase_of_mem hx] at this
  have : 0 < m.length := List.length_pos_of_mem hx
  rw [List.length_cons]
  omega
theorem good_few {v : VsP} (h : goodP v) : v.tbs.length ≤ 1000000 := by
 have h1 := good_nums h
 have h2 : (v.tbs.map TbP.num).length ≤ ((List.range 1000000).map fun k => ((k : Nat) : Int)).length := by
  refine pigG h1 fun n hn => ?_
  obtain ⟨t, ht, rfl⟩ := List.mem_map.1 hn
  have k := h.tab t ht
  have k1 := k.lo
  have k2 := k.hi
  exact List.mem_map.2 ⟨t.num.toNat, List.mem_range.2 (by omega), by omega⟩
 simpa using h2
theorem FitOk.enc {v : VsP} {e : EdP} (h : FitOk v e) (ha : e.add.length ≤ 10000000) (hn : e.nx ≤ 9223372036854775807 ∧ e.lg ≤ 9223372036854775807 ∧ e.sq ≤ 9223372036854775807) : EncOk e := by
 obtain ⟨hv, ⟨r1, r2, r3⟩, ⟨d1, d2⟩, ho⟩ := h
 have q1 := hv.1.nx
 have q2 := hv.1.lg
 have q3 := hv.1.sq
 have hdr : ∀ n ∈ e.drop, 0 ≤ n ∧ n ≤ 1000000 := fun n hn => by
  obtain ⟨t, ht, rfl⟩ := d2 n hn
  have k := hv.tab t ht
  have k1 := k.lo
  have k2 := k.hi
  exact ⟨by omega, by omega⟩
 refine ⟨fun t ht => ?_, hdr, by omega, by omega, by omega, ha, ?_⟩
 · refine (ho.tab t ?_).tab
   exact (sortT_perm _).mem_iff.2 (List.mem_append_right _ ht)
 · have h1 : e.drop.length ≤ (v.tbs.map TbP.num).length := pigG d1 fun n hn => by
    obtain ⟨t, ht, rfl⟩ := d2 n hn
    exact List.mem_map_of_mem ht
   rw [List.length_map] at h1
   have := good_few hv
   omega
theorem FitOk.out {v : VsP} {e : EdP} (h : FitOk v e) : goodP (outP v e) := h.2.2.2
def tabR (l : List UInt8) : TbP × List UInt8 × Bool :=
 let a := numC l
 let l1 := l.drop a.2.1
 let b := numC l1
 let l2 := l1.drop b.2.1
 let c := txtC l2
 let l3 := l2.drop c.2.1
 let d := txtC l3
 (⟨a.1, b.1, c.1.data.toList, d.1.data.toList⟩, l3.drop d.2.1, a.2.2 || b.2.2 || c.2.2 || d.2.2)
def stE (L : List TbP) (D : List Int) (l : List UInt8) : Option EdP :=
 let a := numC l
 let l1 := l.drop a.2.1
 let b := numC l1
 let l2 := l1.drop b.2.1
 let c := numC l2
 if (a.2.2 || b.2.2 || c.2.2) = true ∨ l2.drop c.2.1 ≠ [] then none else some ⟨L, D, a.1, b.1, c.1⟩
def stC (L : List TbP) : Nat → List Int → List UInt8 → Option EdP
 | 0, D, l => stE L D l
 | j + 1, D, l => if (numC l).2.2 then none else stC L j (D ++ [((numC l).1 : Int)]) (l.drop (numC l).2.1)
def stB (L : List TbP) (l : List UInt8) : Option EdP := if (numC l).2.2 then none else stC L (numC l).1 [] (l.drop (numC l).2.1)
def stA : Nat → List TbP → List UInt8 → Option EdP
 | 0, L, l => stB L l
 | j + 1, L, l => if (tabR l).2.2 then none else stA j (L ++ [(tabR l).1]) (tabR l).2.1
def decP (l : List UInt8) : Option EdP := if 4096 < l.length ∨ (numC l).2.2 = true then none else stA (numC l).1 [] (l.drop (numC l).2.1)
theorem numC_drop (l : List UInt8) : (l.drop (numC l).2.1).length ≤ l.length ∧ ((numC l).2.2 = false → (l.drop (numC l).2.1).length + 1 ≤ l.length) := by
 have := numC_le l
 rw [List.length_drop]
 refine ⟨by omega, fun h => ?_⟩
 have := this.2.2 h
 omega
theorem txtC_drop (l : List UInt8) : (l.drop (txtC l).2.1).length ≤ l.length := by
 rw [List.length_drop]
 omega
theorem tabR_le (l : List UInt8) : (tabR l).2.1.length ≤ l.length ∧ ((tabR l).2.2 = false → (tabR l).2.1.length + 1 ≤ l.length) := by
 have h1 := numC_drop l
 have h2 := numC_drop (l.drop (numC l).2.1)
 have h3 := txtC_drop ((l.drop (numC l).2.1).drop (numC (l.drop (numC l).2.1)).2.1)
 have h4 := txtC_drop (((l.drop (numC l).2.1).drop (numC (l.drop (numC l).2.1)).2.1).drop (txtC ((l.drop (numC l).2.1).drop (numC (l.drop (numC l).2.1)).2.1)).2.1)
 unfold tabR
 dsimp only
 refine ⟨by omega, fun h => ?_⟩
 have h5 : (numC l).2.2 = false := by
  cases hb : (numC l).2.2 with
  | false => rfl
  | true => rw [hb] at h; simp at h
 have := h1.2 h5
 omega
structure TabS (m : Nat) (t : TbP) : Prop where
 num : 0 ≤ t.num ∧ t.num ≤ 4611686018427387904
 lev : 0 ≤ t.lev ∧ t.lev ≤ 4611686018427387904
 fst : t.fst.length ≤ m
 lst : t.lst.length ≤ m
theorem tabR_s {m : Nat} (l : List UInt8) (h : l.length ≤ m) : TabS m (tabR l).1 := by
 have h1 := numC_le l
 have h2 := numC_le (l.drop (numC l).2.1)
 have h0 := numC_drop l
 have h00 := numC_drop (l.drop (numC l).2.1)
 have h3 := txtC_le ((l.drop (numC l).2.1).drop (numC (l.drop (numC l).2.1)).2.1)
 have h30 := txtC_drop ((l.drop (numC l).2.1).drop (numC (l.drop (numC l).2.1)).2.1)
 have h4 := txtC_le (((l.drop (numC l).2.1).drop (numC (l.drop (numC l).2.1)).2.1).drop (txtC ((l.drop (numC l).2.1).drop (numC (l.drop (numC l).2.1)).2.1)).2.1)
 refine ⟨?_, ?_, ?_, ?_⟩ <;> unfold tabR <;> dsimp only
 · omega
 · omega
 · have : ∀ x : ByteArray, x.data.toList.length = x.size := fun x => rfl
   rw [this]
   omega
 · have : ∀ x : ByteArray, x.data.toList.length = x.size := fun x => rfl
   rw [this]
   omega
structure EdS (m : Nat) (e : EdP) : Prop where
 tab : ∀ t ∈ e.add, TabS m t
 add : e.add.length ≤ m
 drp : ∀ n ∈ e.drop, 0 ≤ n ∧ n ≤ 4611686018427387904
 drl : e.drop.length ≤ m
 nx : 0 ≤ e.nx ∧ e.nx ≤ 4611686018427387904
 lg : 0 ≤ e.lg ∧ e.lg ≤ 4611686018427387904
 sq : 0 ≤ e.sq ∧ e.sq ≤ 4611686018427387904
theorem stE_s {m : Nat} {L : List TbP} {D : List Int} {l : List UInt8} {e : EdP} (hL : ∀ t ∈ L, TabS m t) (hl : L.length ≤ m) (hD : ∀ n ∈ D, 0 ≤ n ∧ n ≤ 4611686018427387904) (hd : D.length ≤ m) (h : stE L D l = some e) : EdS m e := by
 have h1 := numC_le l
 have h2 := numC_le (l.drop (numC l).2.1)
 have h3 := numC_le ((l.drop (numC l).2.1).drop (numC (l.drop (numC l).2.1)).2.1)
 unfold stE at h
 dsimp only at h
 split at h
 · cases h
 · obtain rfl := Option.some.inj h
   exact ⟨hL, hl, hD, hd, by dsimp only; omega, by dsimp only; omega, by dsimp only; omega⟩
theorem stC_s {m : Nat} {L : List TbP} {e : EdP} (hL : ∀ t ∈ L, TabS m t) (hl : L.length ≤ m) : ∀ {j : Nat} {D : List Int} {l : List UInt8}, (∀ n ∈ D, 0 ≤ n ∧ n ≤ 4611686018427387904) → D.length + l.length ≤ m → stC L j D l = some e → EdS m e
 | 0, D, l, hD, hd, h => stE_s hL hl hD (by omega) h
 | j + 1, D, l, hD, hd, h => by
  rw [stC] at h
  split at h
  · cases h
  · rename_i hb
    have h1 := (numC_drop l).2 (by simpa using hb)
    have h2 := numC_le l
    exact stC_s hL hl (fun n hn => (List.mem_append.1 hn).elim (hD n) fun hn => by rw [List.mem_singleton.1 hn]; omega) (by rw [List.length_append, List.length_singleton]; omega) h
theorem stA_s {m : Nat} {e : EdP} : ∀ {j : Nat} {L : List TbP} {l : List UInt8}, (∀ t ∈ L, TabS m t) → L.length + l.length ≤ m → stA j L l = some e → EdS m e
 | 0, L, l, hL, hl, h => by
  rw [stA, stB] at h
  split at h
  · cases h
  · have h1 := (numC_drop l).1
    exact stC_s hL (by omega) (fun n hn => absurd hn List.not_mem_nil) (by rw [List.length_nil]; omega) h
 | j + 1, L, l, hL, hl, h => by
  rw [stA] at h
  split at h
  · cases h
  · rename_i hb
    have h1 := (tabR_le l).2 (by simpa using hb)
    exact stA_s (fun t ht => (List.mem_append.1 ht).elim (hL t) fun ht => by rw [List.mem_singleton.1 ht]; exact tabR_s l (by omega)) (by rw [List.length_append, List.length_singleton]; omega) h
theorem decP_s {l : List UInt8} {e : EdP} (h : decP l = some e) : EdS 4096 e := by
 unfold decP at h
 split at h
 · cases h
 · rename_i hb
   have h1 := (numC_drop l).1
   exact stA_s (fun t ht => absurd ht List.not_mem_nil) (by rw [List.length_nil]; omega) h
def firstV : VsP := ⟨[], 1, 1, 0⟩
theorem firstV_good : goodP firstV := ⟨⟨by decide, by decide, by decide, by decide⟩, fun i t h => by cases h⟩
noncomputable def repP : VsP → List (List UInt8) → VsP
 | v, [] => v
 | v, p :: r => match decP p with
  | none => v
  | some e => if FitOk v e then repP (outP v e) r else v
theorem repP_good : ∀ {l : List (List UInt8)} {v : VsP}, goodP v → goodP (repP v l)
 | [], _, h => h
 | p :: r, v, h => by
  rw [repP]
  split
  · exact h
  · split
    · rename_i hf
      exact repP_good hf.out
    · exact h
def nowP (P : DrP) : List UInt8 := if numK kMan (P.bytes qCur) = 0 ∨ P.find (P.bytes qCur) = none then [] else P.bytes qCur
structure MfP where
 v : VsP
 num : Nat
 made : Bool
 dead : Bool
 deriving Inhabited
def topN (l : List (List UInt8)) (s : Nat) : Nat := l.foldl (fun m q => max m (numK kMan q + 1)) s
theorem topN_le : ∀ {l : List (List UInt8)} {s : Nat}, s ≤ 1000000 → topN l s ≤ 1000000 ∧ s ≤ topN l s
 | [], _, h => ⟨h, Nat.le_refl _⟩
 | q :: l, s, h => by
  have h1 := numK_le kMan q
  have ih := topN_le (l := l) (s := max s (numK kMan q + 1)) (by omega)
  refine ⟨ih.1, Nat.le_trans ?_ ih.2⟩
  omega
noncomputable def openP (P : DrP) : MfP := ⟨repP firstV (scanF (P.bytes (nowP P))).1, topN (P.fs.map FiP.nm) 1, false, false⟩
def runP : List (DrP → DrP × Int) → DrP → DrP × Int
 | [], P => (P, 0)
 | f :: r, P => if (f P).2 ≠ 0 then f P else runP r (f P).1
def snapE (v : VsP) : List EdP := ⟨[], [], v.nx, v.lg, v.sq⟩ :: v.tbs.map fun t => ⟨[t], [], 0, 0, 0⟩
def snapB (v : VsP) : List UInt8 := (snapE v).flatMap fun e => sealL (edB e)
def manN (l : List (List UInt8)) : List (List UInt8) := l.filter fun q => decide (numK kMan q ≠ 0)
def swapL (P : DrP) (log b : List UInt8) : List (DrP → DrP × Int) :=
 (if P.find qTmp = none then [] else [fun P => P.delete qTmp]) ++ [fun P => P.append log b, fun P => P.sync log, fun P => P.append qTmp log, fun P => P.sync qTmp, fun P => P.rename qTmp qCur] ++ (manN (P.fs.map FiP.nm)).map fun q P => P.delete q
noncomputable def chgP (P : DrP) (m : MfP) (e : EdP) : DrP × MfP × Int :=
 if ¬ FitOk m.v e then (P, m, 80)
 else if 4096 < (edB e).length then (P, m, 3)
 else if 999999 < m.num then (P, m, 5)
 else if m.dead then (P, m, 6)
 else
  let r := if m.made then runP [fun P => P.append (nameK kMan m.num) (sealL (edB e)), fun P => P.sync (nameK kMan m.num)] P else runP (swapL P (nameK kMan m.num) (snapB (outP m.v e))) P
  if r.2 ≠ 0 then (r.1, { m with dead := true }, 6) else (r.1, { m with made := true, v := outP m.v e }, 0)
def orphP (P : DrP) (v : VsP) : List (List UInt8) := (P.fs.map FiP.nm).filter fun q => decide ((numK kSst q ≠ 0 ∧ ∀ t ∈ v.tbs, t.num ≠ numK kSst q) ∨ q = qTmp ∨ (numK kMan q ≠ 0 ∧ q ≠ nowP P))
theorem DrP.Ok.rename {P : DrP} (h : P.Ok) (q p : List UInt8) : (DrP.rename P q p).1.Ok := by
 unfold DrP.rename
 split
 · exact h
 · rename_i hp
   have hp : Good p := Decidable.not_not.1 hp
   cases hf : P.find q with
   | none => exact h
   | some f =>
    dsimp only
    split
    · exact h
    · have hm := (findG_some hf).1
      have hw := h.step.without q
      refine hw.put hp (h.size f hm) (h.sync f hm) (.inr ?_)
      show (delG FiP.nm q P.fs).length < 256
      have h1 : (delG FiP.nm q P.fs).length < P.fs.length := by
       unfold delG
       refine List.length_filter_lt_length_iff_exists.2 ⟨f, hm, ?_⟩
       simp [(findG_some hf).2]
      have := h.len
      omega
end Go.Proofs.YtacbkganjkipdaaGreatDoor
namespace Go.Proofs.YtacbkganjkipdaaGreatDoor
open Go.RowKit
structure ByS where
 A : Option Addr
 c : Nat
 l : List UInt8
 deriving Inhabited
abbrev ByS.v (s : ByS) : Value := .slice s.A s.l.length s.c
abbrev ByS.R (s : ByS) : Chunk := row s.A s.l.length s.c 5 1 (u8s s.l)
abbrev ByS.r (s : ByS) : Chunk := rd s.A s.l.length 1 (u8s s.l)
abbrev payW (A : Option Addr) (c : Nat) (S : List ByS) : Chunk := row A S.length c 47 1 (S.map ByS.v)
abbrev payX (S : List ByS) : Chunk := starx (S.map ByS.R)
abbrev rdV (A : Option Addr) (S : List ByS) : Chunk := rd A S.length 1 (S.map ByS.v)
abbrev payR (S : List ByS) : Chunk := stars (S.map ByS.r)
theorem rpayIn {Γ : Ctx} {H : List Chunk} {S : List ByS} (i : Nat) (hi : H[i]? = some (payR S)) : ∀ w, Sat Γ H w → (payR S).holds w := fun _ hs => hs.mem hi
theorem Ev.loadV {Γ : Ctx} {N : Frm} {P : Program} {E : Env} {H : List Chunk} {o : Oper} {x : Operand} {t n k : Nat} {ad : Addr} {S : List ByS} {s : ByS} (ho : o.op = .load t x) (hx : E.ev x = some (.pointer (some (ad.add (k * 1))))) (hi : ReadsIn Γ H 1 (some ad) n (S.map ByS.v)) (ht : one P t = true) (hu : S[k]? = some s) : Ev Γ N P E H o s.v :=
 .loadOf ho hx fun w hs => by
  have hh : Reads w w.heap.size 1 (some ad) n (S.map ByS.v) := hi w hs
  have hk : k < S.length := (List.getElem?_eq_some_iff.1 hu).1
  have := hh.1
  exact run_loadVar_one ht (rd_cell hh (by simp at this; omega) (show (S.map ByS.v)[k * 1]? = some s.v by rw [Nat.mul_one, List.getElem?_map, hu]; rfl))
theorem payGet {Γ : Ctx} {H : List Chunk} {w : World} {S : List ByS} {s : ByS} (i : Nat) (hi : H[i]? = some (payR S)) (hs : s ∈ S) (h : Sat Γ H w) : Sat Γ (s.r :: H) w := Sat.stars_get hi (List.mem_map_of_mem hs) h
theorem paySee {Γ : Ctx} {H : List Chunk} {w : World} {S : List ByS} (i : Nat) (hi : H[i]? = some (payX S)) (h : Sat Γ H w) : Sat Γ (H.set i (payR S)) w := h.see hi rfl (fun w hw C hC => by
 obtain ⟨s, hsm, rfl⟩ := List.mem_map.1 hC
 exact ⟨rfl, row_rd.1 w (hw.1 s.R (List.mem_map_of_mem hsm))⟩) (fun k ⟨C, hC, hk⟩ => by
 obtain ⟨s, hsm, rfl⟩ := List.mem_map.1 hC
 exact ⟨s.R, List.mem_map_of_mem hsm, hk.2⟩)
abbrev ptrV (g : Nat) : Value := ptrW g
theorem seal_sl (A : Option Addr) (c : Nat) (l : List UInt8) (hn : l.length ≤ 4096) : Fn Tryz.prog 50 #[.slice A l.length c] [rdB A l] (Option Addr × Nat) (fun p => .tuple #[.slice p.1 (sealL l).length p.2, .int .i64 0]) (fun p => [rowB p.1 p.2 (sealL l)]) (fun _ => True) :=
 Fn.of_own (res := fun p => .tuple #[.slice p.1 (sealL l).length p.2, .int .i64 0]) fun w hs => seal_any A l.length c l w (sat_rd 0 rfl hs) hn
theorem sealL_len (l : List UInt8) (h : l.length ≤ 4096) : (sealL l).length ≤ 4110 := by
 have := uintL_len64 (n := l.length) (by omega)
 rw [sealL_length]
 omega
theorem rows_of {w : World} {base : Nat} : ∀ {vs : List Value} {ls : List (List UInt8)}, OwnRows w base vs ls → ∃ S : List ByS, S.map ByS.l = ls ∧ S.map ByS.v = vs ∧ (∀ s ∈ S, Own w base 5 1 s.A s.l.length s.c (u8s s.l))
 | [], [], _ => ⟨[], rfl, rfl, fun _ h => absurd h List.not_mem_nil⟩
 | [], _ :: _, h => absurd h.len (by simp)
 | _ :: _, [], h => absurd h.len (by simp)
 | v :: vs, l :: ls, h => by
  obtain ⟨A, c, rfl, ho⟩ := h.row 0 v l rfl rfl
  obtain ⟨S, h1, h2, h3⟩ := rows_of (vs := vs) (ls := ls) ⟨by simpa using h.len, fun i v' l' hv hl => h.row (i + 1) v' l' (by simpa using hv) (by simpa using hl), fun i j v1 v2 g g' hij hv hv' => h.apart (i + 1) (j + 1) v1 v2 g g' (by omega) (by simpa using hv) (by simpa using hv')⟩
  exact ⟨⟨A, c, l⟩ :: S, by rw [List.map_cons, h1], by rw [List.map_cons, h2], fun s hs => (List.mem_cons.1 hs).elim (fun e => e ▸ ho) (h3 s)⟩
theorem sat_rows {w w' : World} {H : List Chunk} {A : Option Addr} {c : Nat} {vs : List Value} {ls : List (List UInt8)} (hb : Below w.heap.size w w') (ho : Own w' w.heap.size 47 1 A ls.length c vs) (hr : OwnRows w' w.heap.size vs ls) :
 ∃ S : List ByS, S.map ByS.l = ls ∧ Sat ⟨w, H⟩ [payW A c S, payX S] w' := by
 obtain ⟨S, rfl, rfl, h3⟩ := rows_of hr
 rw [List.length_map] at ho
 have hap : (S.map ByS.R).Pairwise apart := by
  rw [List.pairwise_iff_getElem]
  intro i j hi hj hij _ k hk hk'
  rw [List.length_map] at hi hj
  rw [List.getElem_map] at hk hk'
  have := hr.apart i j _ _ k k hij (show (S.map ByS.v)[i]? = some S[i].v by rw [List.getElem?_map, List.getElem?_eq_getElem hi]; rfl) (show (S.map ByS.v)[j]? = some S[j].v by rw [List.getElem?_map, List.getElem?_eq_getElem hj]; rfl) hk hk'
  exact absurd this (Nat.lt_irrefl _)
 refine ⟨S, rfl, Upd.of_below hb, ⟨fun D hD => ?_, List.pairwise_pair.2 fun _ k hk hk' => ?_⟩, fun D hD => ?_⟩
 · rcases List.mem_cons.1 hD with rfl | hD
   · exact ho.mono (Nat.zero_le _)
   · obtain rfl := List.mem_singleton.1 hD
     refine ⟨fun C hC => ?_, hap⟩
     obtain ⟨s, hs, rfl⟩ := List.mem_map.1 hC
     exact (h3 s hs).mono (Nat.zero_le _)
 · obtain ⟨C, hC, hk'⟩ := hk'
   obtain ⟨s, hs, rfl⟩ := List.mem_map.1 hC
   exact hr.off ho (by decide) (List.mem_map_of_mem hs) k hk' hk
 · rcases List.mem_cons.1 hD with rfl | hD
   · intro k hk hlt
     have := (ho.ge k hk).1
     dsimp only at hlt
     omega
   · obtain rfl := List.mem_singleton.1 hD
     rintro k ⟨C, hC, hk⟩ hlt
     obtain ⟨s, hs, rfl⟩ := List.mem_map.1 hC
     have := ((h3 s hs).ge k hk).1
     dsimp only at hlt
     omega
theorem scan_sl (A : Option Addr) (c : Nat) (l : List UInt8) (hl : l.length ≤ 1048576) (hc : l.length ≤ c ∧ c ≤ maxLen) : Fn Tryz.prog 46 #[.slice A l.length c] [rdB A l] ((Option Addr × Nat) × List ByS) (fun p => .tuple #[.slice p.1.1 p.2.length p.1.2, .int .i64 (scanF l).2]) (fun p => [payW p.1.1 p.1.2 p.2, payX p.2]) (fun p => p.2.map ByS.l = (scanF l).1) := fun w hs => by
 refine (scan_any A l.length c l w (sat_rd 0 rfl hs) hc.1 hc.2 (by omega)).mono ?_
 rintro e w' ⟨D, d, vs, rfl, ho, hr, hb⟩
 obtain ⟨S, h1, h2⟩ := sat_rows (H := [rdB A l]) hb ho hr
 refine ⟨((D, d), S), h1, ?_, h2⟩
 dsimp only
 rw [← h1, List.length_map]
theorem elem_pay : Elem Tryz.prog 48 47 1 24 := elem_of (by kernel_rfl)
theorem rscan_sl (A : Option Addr) (c : Nat) (l : List UInt8) (hl : l.length ≤ 1048576) (hc : l.length ≤ c ∧ c ≤ maxLen) : Fn Tryz.prog 68 #[.slice A l.length c] [rdB A l] ((Option Addr × Nat) × List ByS) (fun p => .tuple #[.slice p.1.1 p.2.length p.1.2, .int .i64 (scanF l).2]) (fun p => [payW p.1.1 p.1.2 p.2, payX p.2]) (fun p => p.2.map ByS.l = (scanF l).1) := fun w hs => by
 refine (refScan_any A l.length c l w (sat_rd 0 rfl hs) hc.1 (by unfold maxLen; omega) (by omega)).mono ?_
 rintro e w' ⟨D, d, vs, rfl, ho, hr, hb⟩
 obtain ⟨S, h1, h2⟩ := sat_rows (H := [rdB A l]) hb ho hr
 refine ⟨((D, d), S), h1, ?_, h2⟩
 dsimp only
 rw [← h1, List.length_map]
theorem Res.cell2_tmp {Γ : Ctx} {N : Frm} {P : Program} {E : Env} {H : List Chunk} {fn : Func} {p p' q t t' n n' g g' m m' u u' : Nat} {cs cs' vs vs' : List Value} {v : Value} (i i' : Nat) (h : fn.results = #[.cell p t, .cell p' t', .tmp q]) (hp : E.get p = some (.pointer (some ⟨g, m, none⟩))) (hp' : E.get p' = some (.pointer (some ⟨g', m', none⟩))) (hi : H[i]? = some (blk g u cs)) (hi' : H[i']? = some (blk g' u' cs')) (ht : agg P t n = true) (ht' : agg P t' n' = true) (hv : rangeOf cs m n = vs) (hv' : rangeOf cs' m' n' = vs') (hn : vs.length = n) (hn' : vs'.length = n') (hq : E.get q = some v) : Res Γ N P fn E H (.tuple #[.agg vs.toArray, .agg vs'.toArray, v]) := fun a w hr hs => by
 simp [results, h, hr.get p _ hp, hr.get p' _ hp', hr.get q _ hq, asAddr, run_cell i hs hi ht hv hn, run_cell i' hs hi' ht' hv' hn']
theorem rseal_sl (A : Option Addr) (c : Nat) (l : List UInt8) (hn : l.length ≤ 4096) : Fn Tryz.prog 72 #[.slice A l.length c] [rdB A l] (Option Addr × Nat) (fun p => .slice p.1 (sealL l).length p.2) (fun p => [rowB p.1 p.2 (sealL l)]) (fun _ => True) :=
 Fn.of_own (res := fun p => .slice p.1 (sealL l).length p.2) fun w hs => refSeal_any A l.length c l w (sat_rd 0 rfl hs) (by omega)
theorem sindex_sl (A : Option Addr) (c : Nat) (ns : List (List UInt8)) (q : List UInt8) (hn : ns.length ≤ 1000000) : Fn Tryz.prog 128 #[.slice A ns.length c, .string (txt q)] [rd A ns.length 1 (txts ns)] Int (fun r => .int .i64 r) (fun _ => []) (fun r => 0 ≤ r ↔ q ∈ ns) := by
 refine Fn.enter Tryz.func128 rfl Tryz.ntmps128 (by rfl) ?_
 intro w0
 refine go [3,4,5,2,3,3,4,0] ?_
 refine Ls.qE 7 (Ev.len rfl (by rfl) Tryz.underlying49) ?_
 refine go [0,2,21] ?_
 refine Cd.loop (ι := Nat) (fun k => [(0, .slice A ns.length c), (1, .string (txt q)), (7, .int .i64 ns.length), (8, .int .i64 k)]) (fun _ => [rd A ns.length 1 (txts ns)]) (fun k => k ≤ ns.length ∧ q ∉ ns.take k) (fun k => ns.length - k) (0) (⟨Nat.zero_le _, by simp⟩) ?_ rfl ?_
 · (repeat (first | exact trivial | refine ⟨by rfl, ?_⟩))
 rintro k ⟨hk, hall⟩
 refine go [3,4,16,2,3] ?_
 refine Cd.cond _ (by rfl) (fun h2 => ?_) (fun h2 => ?_)
 · have hlt : k < ns.length := by have := of_decide_eq_true h2; omega
   obtain ⟨x, hx⟩ := get_of_lt hlt
   have hqt : (ns.map txt)[k]? = some (txt x) := by rw [List.getElem?_map, hx]; rfl
   refine Ent.rdSome 0 (by rfl) (by omega) (fun ad had => ?_)
   subst had
   refine go [6,3,21,3,4,0,5,25,0,0,0] ?_
   refine Ls.qE 14 (Ev.indexAt (sz := 1) rfl (by rfl) (by rfl) Tryz.underlying49 (by kernel_rfl) (by omega)) ?_
   refine Ls.qE 15 (Ev.loadStr rfl (by rfl) (ReadsIn.rd 0 (by rfl)) (by kernel_rfl) (by assumption)) ?_
   refine Ls.qE 16 (Ev.eqlS rfl (by rfl) (by rfl)) ?_
   refine Ls.nil ?_
   by_cases hq : q = x
   · refine Cd.cond_true (by rfl) (decide_eq_true (txt_eq_iff.2 hq)) ?_
     refine go [3,4,0,5,2,22] ?_
     exact Ent.rA ((k : Int)) [] (⟨fun _ => hq ▸ List.mem_of_getElem? hx, fun _ => by omega⟩) rT_
   · refine Cd.cond_false (by rfl) (decide_eq_false (fun e => hq (txt_eq_iff.1 e))) ?_
     refine go [6,4] ?_
     refine Ls.qE 18 (Ev.addN (b := 1) rfl (by rfl) (by rfl) (by omega)) ?_
     refine go [0,2] ?_
     refine Ent.iA (k + 1) ?_
     (try dsimp only); exact ⟨⟨hlt, fun h => by
     rw [List.take_add_one, hx] at h
     rcases List.mem_append.1 h with h | h
     · exact hall h
     · exact hq (by simpa using h)⟩, by omega⟩
 · have hge : ns.length ≤ k := by have := of_decide_eq_false h2; omega
   rw [List.take_of_length_le hge] at hall
   refine Cd.exit ?_
   refine go [3,4] ?_
   refine Ls.qE 4 (Ev.assign (show Oper.op _ = Op.assign (Operand.const (Value.int IntKind.i64 (-1))) from rfl) (by rfl)) ?_
   refine go [2,22] ?_
   exact Ent.rA ((-1 : Int)) [] (⟨fun h => absurd h (by decide), fun h => absurd h hall⟩) rT_
theorem contains_sl (A : Option Addr) (c : Nat) (ns : List (List UInt8)) (q : List UInt8) (hn : ns.length ≤ 1000000) : Fn Tryz.prog 87 #[.slice A ns.length c, .string (txt q)] [rd A ns.length 1 (txts ns)] Unit (fun _ => .bool (decide (q ∈ ns))) (fun _ => []) (fun _ => True) := by
 refine Fn.enter Tryz.func87 rfl Tryz.ntmps87 (by rfl) ?_
 intro w0
 refine go [3,4,5,25,0,0] ?_
 refine Ls.does (some 7) (Does.read rfl Tryz.func128 (by kernel_rfl) (by kernel_rfl) (sindex_sl A c ns q hn) (by rfl) (by rfl) ⟨ReadsIn.rd 0 (by rfl), trivial⟩) (by rfl) (by rfl) ?_
 rintro r hr
 refine Ls.qE 8 (Ev.geq rfl (by rfl) (by rfl)) ?_
 refine go [5,2,22] ?_
 refine Ent.ret (()) (trivial) (Res.tmp (by rfl) (by rfl)) ?_ [] (by rfl) ?_
 · exact congrArg Value.bool (decide_eq_decide.2 hr)
 · rfl
theorem numK_nil : numK kMan [] = 0 := by simp [numK, numG]
theorem find_nil {P : DrP} (hok : P.Ok) : P.find [] = none := findG_none_of fun f hf e => (hok.good f hf).ne e
theorem find_mem {P : DrP} (hok : P.Ok) (q : List UInt8) : q ∈ P.fs.map FiP.nm ↔ P.find q ≠ none := by
 constructor
 · intro h e
   obtain ⟨f, hf, rfl⟩ := List.mem_map.1 h
   exact findG_none e f hf rfl
 · intro h
   cases hf : P.find q with
   | none => exact absurd hf h
   | some f =>
    obtain ⟨h1, h2⟩ := findG_some hf
    exact List.mem_map.2 ⟨f, h1, h2⟩
abbrev mfV (d : Nat) (A : Option Addr) (c : Nat) (m : MfP) : List Value := [ptrV d, .slice A m.v.tbs.length c, .int .i64 m.v.nx, .int .i64 m.v.lg, .int .i64 m.v.sq, .int .i64 m.num, .bool m.made, .bool m.dead]
abbrev mfB (g d : Nat) (A : Option Addr) (c : Nat) (m : MfP) : Chunk := blk g 90 (mfV d A c m)
abbrev rmfB (g d : Nat) (A : Option Addr) (c : Nat) (m : MfP) : Chunk := rblk g 90 (mfV d A c m)
theorem now_sl {D : DrS} {P : DrP} (h : Drv D P) (g : Nat) (A : Option Addr) (c : Nat) (m : MfP) : Fn Tryz.prog 45 #[ptrV g] [rmfB g D.d A c m, D.rB, D.rM, D.rF, laidC] Unit (fun _ => .string (txt (nowP P))) (fun _ => []) (fun _ => True) := by
 have hpl := h.ok.len
 cases hf : P.find qCur with
 | none =>
  have hm := read_miss h qCur hf
  rw [if_pos qCur_good] at hm
  have hb : P.bytes qCur = [] := by unfold DrP.bytes; rw [hf]
  have hr : nowP P = [] := by unfold nowP; rw [hb, numK_nil, if_pos (.inl rfl)]
  rw [hr]
  refine Fn.enter Tryz.func45 rfl Tryz.ntmps45 (by rfl) ?_
  intro w0
  refine go [3,4,5,25,0,14,7,0,13,0] ?_
  refine Ls.does (some 10) (Does.read rfl Tryz.func44 (by kernel_rfl) (by kernel_rfl) (hm) (by rfl) (by rfl) ⟨rblkIn 1 (by rfl), rmapIn_ 2 (by rfl), trivial⟩) (by rfl) (by rfl) ?_
  rintro _ -
  refine go [0,11,11,5,5,2,3,3] ?_
  refine Cd.draw [] (by kernel_rfl) ?_
  refine Rg.qE 0 13 (by rfl) (Ev.move rfl (by rfl)) ?_
  refine Rg.qE 1 14 (by rfl) (Ev.textOf (l := []) rfl (by rfl) ReadsIn.nil_ Tryz.underlying47 Tryz.underlying5 Tryz.underlying9) ?_
  refine Rg.does 2 (by rfl) (by kernel_rfl) (Does.read rfl Tryz.func43 (by kernel_rfl) (by kernel_rfl) (nrk_sl kMan [] (by decide) (by decide)) (by rfl) (by rfl) ⟨laidIn 4 (by rfl), trivial⟩) (by rfl) (some 15) (by rfl) (by exact fun _ _ h => h) ?_
  rintro _ -
  rw [numK_nil]
  refine Rg.qE 3 16 (by rfl) (Ev.eql rfl (by rfl) (by rfl)) ?_
  refine Rg.qE 4 17 (by rfl) (Ev.move rfl (by rfl)) ?_
  refine Ent.known 17 true (by rfl) (by exact (decide_eq_true rfl)) ?_
  refine Rg.qP 5 18 ?_
  refine Rg.qP 6 19 ?_
  refine Rg.qP 7 20 ?_
  refine Rg.qP 8 21 ?_
  refine Rg.qP 10 23 ?_
  refine Rg.qP 11 24 ?_
  refine Rg.qP 9 22 ?_
  refine Rg.qP 12 25 ?_
  refine Rg.qP 13 26 ?_
  refine Rg.qE 14 27 (by rfl) (Ev.pickT rfl (by rfl) (by rfl)) ?_
  refine Rg.done (by kernel_rfl) ?_ _
  refine go [23,3,4,5,2,22] ?_
  exact Ent.rA (()) [] trivial rT_
 | some f =>
  have hb : P.bytes qCur = f.b := by unfold DrP.bytes; rw [hf]
  have hfs := h.ok.size f (findG_some hf).1
  have hmem := find_mem h.ok f.b
  have hnm := names_sl h
  obtain ⟨ns, hns⟩ : ∃ ns, ns = P.fs.map FiP.nm := ⟨_, rfl⟩
  have hnl : P.fs.length = ns.length := by rw [hns, List.length_map]
  rw [hnl, ← hns] at hnm
  rw [← hns] at hmem
  refine Fn.enter Tryz.func45 rfl Tryz.ntmps45 (by rfl) ?_
  intro w0
  refine go [3,4,5,25,0,14,7,0,13,0] ?_
  refine Ls.does (some 10) (Does.readN rfl Tryz.func44 (by kernel_rfl) (by kernel_rfl) (read_sl h qCur qCur_good hf) (by rfl) (by rfl) ⟨rblkIn 1 (by rfl), rmapIn_ 2 (by rfl), filRin 3 (by rfl), trivial⟩ (fun _ => by rfl)) (by rfl) (by rfl) ?_
  rintro ⟨bA, bc⟩ -
  refine go [0,11,11,5,5,2,3,3] ?_
  refine Cd.draw [] (by kernel_rfl) ?_
  refine Rg.qE 0 13 (by rfl) (Ev.move rfl (by rfl)) ?_
  refine Rg.qE 1 14 (by rfl) (Ev.textOf (l := f.b) rfl (by rfl) (ReadsIn.row 0 (by rfl)) Tryz.underlying47 Tryz.underlying5 Tryz.underlying9) ?_
  refine Rg.does 2 (by rfl) (by kernel_rfl) (Does.read rfl Tryz.func43 (by kernel_rfl) (by kernel_rfl) (nrk_sl kMan f.b (by decide) (by omega)) (by rfl) (by rfl) ⟨laidIn 5 (by rfl), trivial⟩) (by rfl) (some 15) (by rfl) (by exact fun _ _ h => h) ?_
  rintro _ -
  refine Rg.qE 3 16 (by rfl) (Ev.eql rfl (by rfl) (by rfl)) ?_
  refine Rg.qE 4 17 (by rfl) (Ev.move rfl (by rfl)) ?_
  by_cases h0 : numK kMan f.b = 0
  · have hr : nowP P = [] := by unfold nowP; rw [hb, if_pos (.inl h0)]
    rw [hr]
    refine Ent.known 17 true (by rfl) (by exact (decide_eq_true (by omega))) ?_
    refine Rg.qP 5 18 ?_
    refine Rg.qP 6 19 ?_
    refine Rg.qP 7 20 ?_
    refine Rg.qP 8 21 ?_
    refine Rg.qP 10 23 ?_
    refine Rg.qP 11 24 ?_
    refine Rg.qP 9 22 ?_
    refine Rg.qP 12 25 ?_
    refine Rg.qP 13 26 ?_
    refine Rg.qE 14 27 (by rfl) (Ev.pickT rfl (by rfl) (by rfl)) ?_
    refine Rg.done (by kernel_rfl) ?_ _
    refine go [23,3,4,5,2,22] ?_
    exact Ent.rA (()) [] trivial rT_
  · refine Ent.known 17 false (by rfl) (by exact (decide_eq_false (by omega))) ?_
    refine Rg.qE 5 18 (by rfl) (Ev.move rfl (by rfl)) ?_
    refine Rg.qE 6 19 (by rfl) (Ev.nilCheck rfl (by rfl)) ?_
    refine Rg.qE 7 20 (by rfl) (Ev.fieldAddr (k := 0) rfl (by rfl) (by kernel_rfl) (by rfl)) ?_
    refine Rg.qE 8 21 (by rfl) (Ev.loadB 1 rfl (by rfl) (by rfl) (by kernel_rfl) (by rfl)) ?_
    refine Rg.qE 10 23 (by rfl) (Ev.move rfl (by rfl)) ?_
    refine Rg.qE 11 24 (by rfl) (Ev.textOf rfl (by rfl) (ReadsIn.row 0 (by rfl)) Tryz.underlying47 Tryz.underlying5 Tryz.underlying9) ?_
    refine Rg.does 9 (by rfl) (by kernel_rfl) (Does.readN rfl Tryz.func42 (by kernel_rfl) (by kernel_rfl) (hnm) (by rfl) (by rfl) ⟨rblkIn 2 (by rfl), rmapIn_ 3 (by rfl), trivial⟩ (fun _ => by rfl)) (by rfl) (some 22) (by rfl) (fun _ _ h => h.tail_) ?_
    rintro ⟨nA, nc⟩ -
    refine Rg.does 12 (by rfl) (by kernel_rfl) (Does.read rfl Tryz.func87 (by kernel_rfl) (by kernel_rfl) (contains_sl nA nc ns f.b (by omega)) (by rfl) (by rfl) ⟨ReadsIn.row 0 (by rfl), trivial⟩) (by rfl) (some 25) (by rfl) (by exact fun _ _ h => h) ?_
    rintro _ -
    refine Rg.qE 13 26 (by rfl) (Ev.not rfl (by rfl)) ?_
    refine Rg.qE 14 27 (by rfl) (Ev.pickF rfl (by rfl) (by rfl)) ?_
    refine Rg.done (by kernel_rfl) ?_ _
    by_cases hm : f.b ∈ ns
    · have hr : nowP P = f.b := by unfold nowP; rw [hb, if_neg (fun e => e.elim h0 (hmem.1 hm))]
      rw [hr]
      rw [decide_eq_true hm]
      refine go [24,6,3,4,0] ?_
      refine Ls.qE 29 (Ev.textOf (l := f.b) rfl (by rfl) (ReadsIn.row 1 (by rfl)) Tryz.underlying47 Tryz.underlying5 Tryz.underlying9) ?_
      refine go [5,2,22] ?_
      exact Ent.rA (()) [] trivial rT_
    · have hr : nowP P = [] := by
       unfold nowP
       rw [hb, if_pos (.inr (Decidable.not_not.1 fun e => hm (hmem.2 e)))]
      rw [hr]
      rw [decide_eq_false hm]
      refine go [23,3,4,5,2,22] ?_
      exact Ent.rA (()) [] trivial rT_
theorem grow_sl (n : Nat) (hn : n ≤ 140737488355328) : Fn Tryz.prog 131 #[.slice none 0 0, .int .i64 n] [] (Option Addr × Nat) (fun p => .slice p.1 0 p.2) (fun p => [rowB p.1 p.2 []]) (fun _ => True) := by
 refine Fn.enter Tryz.func131 rfl Tryz.ntmps131 (by rfl) ?_
 intro w0
 refine go [3,4,5,2,3,3,4,0,16,2] ?_
 refine Cd.cond_false (by rfl) (decide_eq_false (by omega)) ?_
 refine go [6,3,3,4,0,0] ?_
 refine Ls.qE 10 (Ev.cap rfl (by rfl) Tryz.underlying47) ?_
 refine Ls.qM 11 ?_
 refine Ls.qE 12 (Ev.len rfl (by rfl) Tryz.underlying47) ?_
 refine Ls.qE 13 (Ev.subI rfl (by rfl) (by rfl) (by omega)) ?_
 refine Ls.qE 14 (Ev.subI rfl (by rfl) (by rfl) (by omega)) ?_
 refine go [5,25,0,18,2] ?_
 refine Cd.cond _ (by rfl) (fun h => ?_) (fun h => ?_)
 · refine go [4,0,0] ?_
   refine Ls.qE 19 (Ev.cap rfl (by rfl) Tryz.underlying47) ?_
   refine Ls.qE 20 (Ev.sliceHn (sz := 1) rfl (by rfl) (by rfl) Tryz.underlying47 (by kernel_rfl) (by omega)) ?_
   refine Ls.qM 21 ?_
   refine Ls.does (some 22) (Does.growZ rfl (by rfl) (by rfl) elem_u8 (v := .int .u8 0) (by kernel_rfl) (by rfl) Tryz.underlying3 (by simpa using of_decide_eq_true h) (by omega)) (by rfl) (by rfl) ?_
   intro p _
   refine Ls.qM 23 ?_
   refine Ls.qE 24 (Ev.len rfl (by rfl) Tryz.underlying47) ?_
   refine Ls.qE 25 (Ev.sliceHn (sz := 1) rfl (by rfl) (by rfl) Tryz.underlying47 (by kernel_rfl) (by omega)) ?_
   refine go [5,25,0,5,2] ?_
   refine Ent.trunc 0 0 (by rfl) (by omega) ?_
   refine Cd.ret ?_
   exact Ent.rA ((p.1, p.2)) [0] trivial rT_
 · refine go [6,3,4,0,5,2] ?_
   refine Ent.nil 5 1 ?_
   refine Cd.ret ?_
   exact Ent.rA ((none, 0)) [0] trivial rT_
theorem Does.appB {Γ : Ctx} {N : Frm} {E : Env} {H : List Chunk} {o : Oper} {x y : Operand} {c d : Nat} {A D : Option Addr} {l m : List UInt8} (i : Nat) (ho : o.op = .call { callee := .builtin .append, args := #[x, y], argTypes := #[47, 47] }) (hx : E.ev x = some (.slice A l.length c)) (hy : E.ev y = some (.slice D m.length d))
 (hi : H[i]? = some (rowB A c l)) (hr : ReadsIn Γ H 1 D m.length (u8s m)) (hb : l.length + m.length ≤ 140737488355328) :
 Does Γ N Tryz.prog E H o (Option Addr × Nat) (fun p => .slice p.1 (l ++ m).length p.2) (fun p => H.set i (rowB p.1 p.2 (l ++ m))) (fun _ => True) := by
 have := Does.app (Γ := Γ) (N := N) (P := Tryz.prog) (E := E) (xs := u8s l) (news := u8s m) i ho hx hy hi hr elem_u8 (u8s_one _) (by omega)
 unfold rowB
 rw [List.length_append, u8s_append]
 exact this
structure Bs where
 A : Option Addr
 c : Nat
 l : List UInt8
 deriving Inhabited
def Bs.val (p : Bs) : Value := .slice p.A p.l.length p.c
def Bs.rd (p : Bs) : Chunk := rdB p.A p.l
def catB (ls : List Bs) : List UInt8 := ls.flatMap Bs.l
theorem catB_take {ls : List Bs} {k : Nat} {p : Bs} (h : ls[k]? = some p) : catB (ls.take (k + 1)) = catB (ls.take k) ++ p.l := by
 unfold catB
 rw [List.take_add_one, h]
 simp
theorem catB_le (ls : List Bs) (k : Nat) : (catB (ls.take k)).length ≤ (catB ls).length := by
 unfold catB
 conv => rhs; rw [← List.take_append_drop k ls]
 rw [List.flatMap_append, List.length_append]
 omega
section
variable {Γ : Ctx} {H : List Chunk}
def AllBs (Γ : Ctx) (H : List Chunk) : List Bs → Prop
 | [] => True
 | p :: r => ReadsIn Γ H 1 p.A p.l.length (u8s p.l) ∧ AllBs Γ H r
theorem AllBs.mem : ∀ {ls : List Bs}, AllBs Γ H ls → ∀ p ∈ ls, ReadsIn Γ H 1 p.A p.l.length (u8s p.l)
 | [], _, _, h => (List.not_mem_nil h).elim
 | q :: r, h, p, hp => by
  rcases List.mem_cons.1 hp with rfl | hp
  · exact h.1
  · exact AllBs.mem h.2 p hp
theorem starsB (ls : List Bs) (h : AllBs Γ H ls) : ∀ w, Sat Γ H w → (stars (ls.map Bs.rd)).holds w := fun w hs C hC => by
 obtain ⟨p, hp, rfl⟩ := List.mem_map.1 hC
 exact ⟨rfl, h.mem p hp w hs⟩
end
theorem concat_sl (A : Option Addr) (c : Nat) (ls : List Bs) (hn : ls.length ≤ 17592186044415) (hb : (catB ls).length ≤ 140737488355328) :
 Fn Tryz.prog 93 #[.slice A ls.length c] [rd A ls.length 1 (ls.map Bs.val), stars (ls.map Bs.rd)] (Option Addr × Nat) (fun p => .slice p.1 (catB ls).length p.2) (fun p => [rowB p.1 p.2 (catB ls)]) (fun _ => True) := by
 refine Fn.enter Tryz.func93 rfl Tryz.ntmps93 (by rfl) ?_
 intro w0
 refine go [3,4,5,25,5,2,3,3,4,0] ?_
 refine Ls.qE 10 (Ev.len rfl (by rfl) Tryz.underlying48) ?_
 refine go [0,2,21] ?_
 refine Cd.loop (ι := Nat) (fun k => [(0, .slice A ls.length c), (9, .slice A ls.length c), (10, .int .i64 ls.length), (11, .int .i64 k), (3, .int .i64 (catB (ls.take k)).length)]) (fun _ => [rd A ls.length 1 (ls.map Bs.val), stars (ls.map Bs.rd)]) (fun k => k ≤ ls.length) (fun k => ls.length - k) (0) (Nat.zero_le _) ?_ rfl ?_
 · (repeat (first | exact trivial | refine ⟨by rfl, ?_⟩))
 intro k hk
 refine go [3,4,16,2,3] ?_
 refine Cd.cond _ (by rfl) (fun h => ?_) (fun h => ?_)
 · have hlt : k < ls.length := by have := of_decide_eq_true h; omega
   obtain ⟨p, hp⟩ := get_of_lt hlt
   have hv : (ls.map Bs.val)[k * 1]? = some p.val := by simp [hp]
   have hcat := catB_take hp
   have hle := catB_le ls (k + 1)
   have hl2 : (catB (ls.take (k + 1))).length = (catB (ls.take k)).length + p.l.length := by rw [hcat, List.length_append]
   refine Ent.rdSome 0 (by rfl) (by omega) (fun ad had => ?_)
   subst had
   refine go [6,3,21,3,4] ?_
   refine Ls.qE 13 (Ev.indexAt (sz := 1) rfl (by rfl) (by rfl) Tryz.underlying48 (by kernel_rfl) (by omega)) ?_
   refine Ls.qE 14 (Ev.loadR 0 rfl (by rfl) (by rfl) (by kernel_rfl) (by omega) (by assumption)) ?_
   refine go [5,25,0,0] ?_
   refine Ls.qE 17 (Ev.len rfl (by rfl) Tryz.underlying47) ?_
   refine Ls.qE 18 (Ev.addI rfl (by rfl) (by rfl) (by omega)) ?_
   refine go [5,25,0,16,2] ?_
   refine Cd.cond_false (by rfl) (decide_eq_false (by omega)) ?_
   refine go [6,4] ?_
   refine Ls.qE 22 (Ev.addI rfl (by rfl) (by rfl) (by omega)) ?_
   refine go [0,2] ?_
   refine Ent.inv (k + 1) ?_ ?_ ?_
   · (try dsimp only); exact ⟨by omega, by omega⟩
   · (repeat (first | exact trivial | refine ⟨by rfl, ?_⟩ | refine ⟨by simp only [lenS]; rfl, ?_⟩ | refine ⟨by push_cast; rfl, ?_⟩ | refine ⟨by (show some (Value.int .i64 _) = some (Value.int .i64 _); rw [hl2]; rfl), ?_⟩))
   · rfl
 · have hk : k = ls.length := by have := of_decide_eq_false h; omega
   subst hk
   have ht : ls.take ls.length = ls := List.take_length
   rw [ht]
   refine Cd.exit ?_
   refine go [3,4,0] ?_
   refine Ls.does (some 24) (Does.call [0, 1] rfl Tryz.func131 (by kernel_rfl) (by kernel_rfl) (grow_sl (catB ls).length hb) (by rfl) (by rfl) (by rfl)) (by rfl) (by rfl) ?_
   intro g _
   refine go [5,2,3,3,4,0] ?_
   refine Ls.qE 26 (Ev.len rfl (by rfl) Tryz.underlying48) ?_
   refine go [0,2,21] ?_
   refine Cd.loop (ι := Nat × Option Addr × Nat) (fun j => [(25, .slice A ls.length c), (26, .int .i64 ls.length), (27, .int .i64 j.1), (6, .slice j.2.1 (catB (ls.take j.1)).length j.2.2)]) (fun j => [rowB j.2.1 j.2.2 (catB (ls.take j.1)), rd A ls.length 1 (ls.map Bs.val), stars (ls.map Bs.rd)]) (fun j => j.1 ≤ ls.length) (fun j => ls.length - j.1) ((0, g.1, g.2)) (Nat.zero_le _) ?_ rfl ?_
   · (repeat (first | exact trivial | refine ⟨by rfl, ?_⟩))
   rintro ⟨k, D, d⟩ hk
   dsimp only at hk ⊢
   refine go [3,4,16,2,3] ?_
   refine Cd.cond _ (by rfl) (fun h => ?_) (fun h => ?_)
   · have hlt : k < ls.length := by have := of_decide_eq_true h; omega
     obtain ⟨p, hp⟩ := get_of_lt hlt
     have hv : (ls.map Bs.val)[k * 1]? = some p.val := by simp [hp]
     have hcat := catB_take hp
     have hle := catB_le ls (k + 1)
     have hl2 : (catB (ls.take (k + 1))).length = (catB (ls.take k)).length + p.l.length := by rw [hcat, List.length_append]
     refine Ent.rdSome 1 (by rfl) (by omega) (fun ad had => ?_)
     subst had
     refine go [6,3,21,3,4] ?_
     refine Ls.qE 29 (Ev.indexAt (sz := 1) rfl (by rfl) (by rfl) Tryz.underlying48 (by kernel_rfl) (by omega)) ?_
     refine Ls.qE 30 (Ev.loadR 1 rfl (by rfl) (by rfl) (by kernel_rfl) (by omega) (by assumption)) ?_
     refine go [5,2,4,0,0] ?_
     refine Ent.map (fun w hs => hs.stars_get (i := 2) (C := p.rd) rfl (List.mem_map_of_mem (List.mem_of_getElem? hp))) ?_
     refine Ls.does (some 33) (Does.app (xs := u8s (catB (ls.take k))) (news := u8s p.l) 1 rfl (by rfl) (by rfl) (by rfl) (ReadsIn.rd 0 (by rfl)) elem_u8 (u8s_one _) (by omega)) (by rfl) (by rfl) ?_
     intro q _
     refine go [5,2,4] ?_
     refine Ls.qE 34 (Ev.addI rfl (by rfl) (by rfl) (by omega)) ?_
     refine go [0,2] ?_
     refine Ent.pick [1, 2, 3] (by rfl) ?_
     refine Ent.inv ((k + 1, q.1, q.2)) ?_ ?_ ?_
     · (try dsimp only); exact ⟨by omega, by omega⟩
     · (repeat (first | exact trivial | refine ⟨by rfl, ?_⟩ | refine ⟨by simp only [lenS]; rfl, ?_⟩ | refine ⟨by push_cast; rfl, ?_⟩ | refine ⟨by (show some (Value.slice _ _ _) = some (Value.slice _ _ _); dsimp only; rw [hl2]), ?_⟩))
     · (show [_, _, _] = [_, _, _]; dsimp only [rowB]; rw [hl2, hcat, u8s_append])
   · have hk : k = ls.length := by have := of_decide_eq_false h; omega
     subst hk
     rw [ht]
     refine Cd.exit ?_
     refine go [3,4,0,5,2,22] ?_
     exact Ent.rA ((D, d)) [0] trivial rT_
theorem uintI_sl (n : Int) (hn : 0 ≤ n ∧ n ≤ 9223372036854775807) : Fn Tryz.prog 92 #[.int .u64 n] [] (Option Addr × Nat) (fun p => .slice p.1 (uintL n.toNat).length p.2) (fun p => [rowB p.1 p.2 (uintL n.toNat)]) (fun _ => True) := by
 have h := uint_sl n.toNat (by omega)
 have e : ((n.toNat : Nat) : Int) = n := by omega
 rw [e] at h
 exact h
theorem refUintI_sl (n : Int) (hn : 0 ≤ n ∧ n ≤ 9223372036854775807) : Fn Tryz.prog 112 #[.int .u64 n] [] (Option Addr × Nat) (fun p => .slice p.1 (uintL n.toNat).length p.2) (fun p => [rowB p.1 p.2 (uintL n.toNat)]) (fun _ => True) := by
 have h := refUint_sl n.toNat (by omega)
 have e : ((n.toNat : Nat) : Int) = n := by omega
 rw [e] at h
 exact h
section
variable {Γ : Ctx} {N : Frm} {P : Program} {E : Env} {H : List Chunk} {o : Oper} {x y z : Operand}
theorem Ev.min3 {ts : Array TypeId} {k : IntKind} {a b d m : Int} (ho : o.op = .call { callee := .builtin .min, args := #[x, y, z], argTypes := ts }) (hx : E.ev x = some (.int k a)) (hy : E.ev y = some (.int k b)) (hz : E.ev z = some (.int k d)) (hm : Min.min (Min.min a b) d = m) : Ev Γ N P E H o (.int k m) := .of fun ρ hρ w => by
 have e : (if d < (if b < a then b else a) then d else (if b < a then b else a)) = m := by
  rw [← hm]
  split <;> split <;> omega
 rw [← e]
 simp [execOp, ho, resolve, invoke, builtin, hρ x _ hx, hρ y _ hy, hρ z _ hz, Builtin.min_, Builtin.min2]
theorem Ev.minI {ts : Array TypeId} {k : IntKind} {a b m : Int} (ho : o.op = .call { callee := .builtin .min, args := #[x, y], argTypes := ts }) (hx : E.ev x = some (.int k a)) (hy : E.ev y = some (.int k b)) (hm : Min.min a b = m) : Ev Γ N P E H o (.int k m) := by
 subst hm
 have := Ev.min (Γ := Γ) (N := N) (P := P) (H := H) ho hx hy
 have e : (if b < a then b else a) = Min.min a b := by split <;> omega
 rwa [e] at this
end
abbrev encF : Value := .func (.func 91) #[] #[]
theorem enc1_sl (n : Int) (hn : 0 ≤ n ∧ n ≤ 9223372036854775807) : Fn Tryz.prog 91 #[.int .i64 n] [] (Option Addr × Nat) (fun p => .slice p.1 (uintL n.toNat).length p.2) (fun p => [rowB p.1 p.2 (uintL n.toNat)]) (fun _ => True) := by
 refine Fn.enter Tryz.func91 rfl Tryz.ntmps91 (by rfl) ?_
 intro w0
 refine go [3,4,5,25,0] ?_
 refine Ls.qE 4 (Ev.convU rfl (by rfl) (by kernel_rfl) Tryz.underlying150 (by omega)) ?_
 refine Ls.does (some 5) (Does.call [] rfl Tryz.func92 (by kernel_rfl) (by kernel_rfl) (uintI_sl n hn) (by rfl) (by rfl) (by rfl)) (by rfl) (by rfl) ?_
 rintro q -
 refine go [5,2,22] ?_
 exact Ent.rA (q) [0] trivial rT_
theorem enc1_fnv (n : Int) (hn : 0 ≤ n ∧ n ≤ 9223372036854775807) : FnV Tryz.prog encF [.int .i64 n] [] (Option Addr × Nat) (fun p => .slice p.1 (uintL n.toNat).length p.2) (fun p => [rowB p.1 p.2 (uintL n.toNat)]) (fun _ => True) :=
 ⟨91, Tryz.f91, [], rfl, Tryz.func91, by kernel_rfl, by kernel_rfl, enc1_sl n hn⟩
theorem enc1N_fnv (n : Nat) (hn : n ≤ 9223372036854775807) : FnV Tryz.prog encF [.int .i64 n] [] (Option Addr × Nat) (fun p => .slice p.1 (uintL n).length p.2) (fun p => [rowB p.1 p.2 (uintL n)]) (fun _ => True) := enc1_fnv n (by omega)
theorem flatT_take {α β : Type} {g : α → List β} {l : List α} {k : Nat} {x : α} (h : l[k]? = some x) : (l.take (k + 1)).flatMap g = (l.take k).flatMap g ++ g x := by
 rw [List.take_add_one, h]
 simp
theorem flat_take_le {α : Type} {g : α → List UInt8} {b : Nat} {l : List α} (h : ∀ x ∈ l, (g x).length ≤ b) (k : Nat) : ((l.take k).flatMap g).length ≤ l.length * b := by
 have h1 := flat_le (l := l.take k) (fun x hx => h x (List.mem_of_mem_take hx))
 have h2 : (l.take k).length * b ≤ l.length * b := Nat.mul_le_mul_right _ (by rw [List.length_take]; omega)
 omega
def encR (e : EdP) (p : Option Addr × Nat) : Value := if 4096 < (edB e).length then .tuple #[.slice none 0 0, .int .i64 3] else .tuple #[.slice p.1 (edB e).length p.2, .int .i64 0]
def encP (e : EdP) (p : Option Addr × Nat) : List Chunk := if 4096 < (edB e).length then [] else [rowB p.1 p.2 (edB e)]
set_option maxHeartbeats 2000000 in
theorem encode_sl (e : EdP) (h : EncOk e) (B D : Option Addr) (b d : Nat) : Fn Tryz.prog 48 #[.agg (e.val B b D d).toArray] [rdT B e.add, rd D e.drop.length 1 (ints e.drop)] (Option Addr × Nat) (encR e) (encP e) (fun _ => True) := by
 obtain ⟨ad, dr, nx, lg, sq⟩ := e
 obtain ⟨htab, hdrp, hnx, hlg, hsq, hadl, hdrl⟩ := h
 dsimp only [EdP.val] at htab hdrp hnx hlg hsq hadl hdrl ⊢
 have hfl : ∀ k, _ := fun k => flat_take_le (g := tabB) (fun t ht => tabB_le (htab t ht)) k
 have hdl : ∀ k, _ := fun k => flat_take_le (g := drpB) (fun n hn => drpB_le (hdrp n hn)) k
 have hu1 := uintL_len64 (n := ad.length) (by omega)
 have hu2 := uintL_len64 (n := dr.length) (by omega)
 have hu3 := uintL_len64 (n := nx.toNat) (by omega)
 have hu4 := uintL_len64 (n := lg.toNat) (by omega)
 have hu5 := uintL_len64 (n := sq.toNat) (by omega)
 refine Fn.enter Tryz.func48 rfl Tryz.ntmps48 (by rfl) ?_
 intro w0
 obtain ⟨m0, hm0⟩ : ∃ m, min (min nx lg) sq = m := ⟨_, rfl⟩
 refine go [3,4] ?_
 refine Ls.does (some 1) (Does.box rfl (by rfl)) (by rfl) (by rfl) ?_
 intro g1 _
 refine go [5,5,25,7,2,8,0,7,3,8,0,7,4,8,0] ?_
 refine Ls.qE 21 (Ev.min3 rfl (by rfl) (by rfl) (by rfl) hm0) ?_
 refine go [5,2,3,3,4,7,0,8,0] ?_
 refine Ls.qE 24 (Ev.len rfl (by rfl) Tryz.underlying22) ?_
 refine go [0,2,21] ?_
 refine Cd.loop (ι := Nat × Int) (fun p => [(1, ptrW g1), (4, .int .i64 p.2), (23, .slice B ad.length b), (24, .int .i64 ad.length), (25, .int .i64 p.1)]) (fun _ => [blk g1 27 [.slice B ad.length b, .slice D dr.length d, .int .i64 nx, .int .i64 lg, .int .i64 sq], rdT B ad, rd D dr.length 1 (ints dr)]) (fun p => p.1 ≤ ad.length ∧ 0 ≤ p.2) (fun p => ad.length - p.1) ((0, m0)) (⟨Nat.zero_le _, by omega⟩) ?_ rfl ?_
 · (repeat (first | exact trivial | refine ⟨by rfl, ?_⟩))
 rintro ⟨j, m⟩ ⟨hj, hm⟩
 dsimp only at hj hm ⊢
 refine go [3,4,16,2,3] ?_
 refine Cd.cond _ (by rfl) (fun h2 => ?_) (fun h2 => ?_)
 · have hlt : j < ad.length := by have := of_decide_eq_true h2; omega
   obtain ⟨t, ht⟩ := get_of_lt hlt
   have htk := htab t (List.mem_of_getElem? ht)
   have ht1 := htk.num
   have ht2 := htk.lev
   refine Ent.rdSome 1 (by rfl) (by omega) (fun bd hbd => ?_)
   subst hbd
   refine go [6,3,21,3,4] ?_
   refine Ls.qE 27 (Ev.indexAt (sz := 4) rfl (by rfl) (by rfl) Tryz.underlying22 (by kernel_rfl) (by omega)) ?_
   refine Ls.qE 28 (Ev.loadEl (enc := TbP.enc) (sz := 4) rfl (by rfl) (ReadsIn.rd 1 (by rfl)) (by kernel_rfl) (fun _ => rfl) ht) ?_
   obtain ⟨m1, hm1⟩ : ∃ m1, min (min m t.num) t.lev = m1 := ⟨_, rfl⟩
   refine Ls.does (some 6) (Does.alloc (cs := [.int .i64 0, .int .i64 0, .string ⟨#[]⟩, .string ⟨#[]⟩]) rfl (ZeroIs.mk (.agg #[.int .i64 0, .int .i64 0, .string ⟨#[]⟩, .string ⟨#[]⟩]) (by kernel_rfl) (by rfl))) (by rfl) (by rfl) ?_
   intro g2 _
   refine go [15,0,2,4,0,7,0,8,0,7,1,8,0] ?_
   refine Ls.qE 34 (Ev.min3 rfl (by rfl) (by rfl) (by rfl) hm1) ?_
   refine go [5,2,4] ?_
   refine Ls.qE 35 (Ev.addN (b := 1) rfl (by rfl) (by rfl) (by omega)) ?_
   refine go [0,2] ?_
   refine Ent.pick [1, 2, 3] (by rfl) ?_
   refine Ent.iA ((j + 1, m1)) ?_
   (try dsimp only); exact ⟨⟨hlt, by omega⟩, by omega⟩
 refine Cd.exit ?_
 refine go [3,3,4,7,1,8,0] ?_
 refine Ls.qE 38 (Ev.len rfl (by rfl) Tryz.underlying25) ?_
 refine go [0,2,21] ?_
 refine Cd.loop (ι := Nat × Int) (fun p => [(1, ptrW g1), (4, .int .i64 p.2), (37, .slice D dr.length d), (38, .int .i64 dr.length), (39, .int .i64 p.1)]) (fun _ => [blk g1 27 [.slice B ad.length b, .slice D dr.length d, .int .i64 nx, .int .i64 lg, .int .i64 sq], rdT B ad, rd D dr.length 1 (ints dr)]) (fun p => p.1 ≤ dr.length ∧ 0 ≤ p.2) (fun p => dr.length - p.1) ((0, m)) (⟨Nat.zero_le _, hm⟩) ?_ rfl ?_
 · (repeat (first | exact trivial | refine ⟨by rfl, ?_⟩))
 clear hm hj h2 m
 rintro ⟨k, m⟩ ⟨hk, hm⟩
 dsimp only at hk hm ⊢
 refine go [3,4,16,2,3] ?_
 refine Cd.cond _ (by rfl) (fun h2 => ?_) (fun h2 => ?_)
 · have hlt : k < dr.length := by have := of_decide_eq_true h2; omega
   obtain ⟨x, hx⟩ := get_of_lt hlt
   have hx0 := hdrp x (List.mem_of_getElem? hx)
   refine Ent.rdSome 2 (by rfl) (by omega) (fun bd hbd => ?_)
   subst hbd
   obtain ⟨m1, hm1⟩ : ∃ m1, min m x = m1 := ⟨_, rfl⟩
   refine go [6,3,21,3,4] ?_
   refine Ls.qE 41 (Ev.indexAt (sz := 1) rfl (by rfl) (by rfl) Tryz.underlying25 (by kernel_rfl) (by omega)) ?_
   refine Ls.qE 42 (Ev.loadInt rfl (by rfl) (ReadsIn.rd 2 (by rfl)) (by kernel_rfl) (by assumption)) ?_
   refine go [5,2,4,0,0] ?_
   refine Ls.qE 45 (Ev.minI rfl (by rfl) (by rfl) hm1) ?_
   refine go [5,2,4] ?_
   refine Ls.qE 46 (Ev.addN (b := 1) rfl (by rfl) (by rfl) (by omega)) ?_
   refine go [0,2] ?_
   refine Ent.iA ((k + 1, m1)) ?_
   (try dsimp only); exact ⟨⟨hlt, by omega⟩, by omega⟩
 refine Cd.exit ?_
 refine go [3,3,4,0,16,2] ?_
 refine Cd.cond_false (by rfl) (decide_eq_false (show ¬ (m < 0) by omega)) ?_
 refine go [6,3,4,5,2,3] ?_
 refine Cd.regionI ?_
 refine Li.ev (some 49) (Ev.move rfl (by rfl)) (by rfl) (by rfl) ?_
 refine Li.ev (some 50) (Ev.fieldAddr (k := 0) rfl (by rfl) (by kernel_rfl) (by rfl)) (by rfl) (by rfl) ?_
 refine Li.ev (some 51) (Ev.load 0 rfl (by rfl) (by rfl) (by kernel_rfl) (by rfl)) (by rfl) (by rfl) ?_
 refine Li.ev (some 52) (Ev.len rfl (by rfl) Tryz.underlying22) (by rfl) (by rfl) ?_
 refine Li.does (some 53) (Does.callV [0, 1, 2] rfl (by rfl) (enc1N_fnv ad.length (by omega)) (by rfl) (by rfl) (by rfl)) (by rfl) (by rfl) ?_
 rintro ⟨qA, qc⟩ -
 refine Li.ev (some 10) (Ev.assign rfl (by rfl)) (by rfl) (by rfl) ?_
 refine Li.nil ?_
 refine go [3,3,4,7,0,8,1] ?_
 refine Ls.qE 56 (Ev.len rfl (by rfl) Tryz.underlying22) ?_
 refine go [0,2,21] ?_
 have hz : ∀ j, (uintL ad.length ++ (ad.take j).flatMap tabB).length ≤ 10 + ad.length * 168 := fun j => by
  rw [List.length_append]
  have := hfl j
  omega
 refine Ent.norm ([(1, ptrW g1), (9, encF), (10, .slice qA (uintL ad.length ++ (ad.take 0).flatMap tabB).length qc), (55, .slice B ad.length b), (56, .int .i64 ad.length), (57, .int .i64 (0 : Nat))]) ([rowB qA qc (uintL ad.length ++ (ad.take 0).flatMap tabB), blk g1 27 [.slice B ad.length b, .slice D dr.length d, .int .i64 nx, .int .i64 lg, .int .i64 sq], rdT B ad, rd D dr.length 1 (ints dr)]) (by repeat (first | refine ⟨by (show some (Value.slice _ _ _) = some (Value.slice _ _ _); simp), ?_⟩ | exact trivial | refine ⟨by rfl, ?_⟩ | refine ⟨by simp only [List.length_append, List.length_cons, List.length_nil]; rfl, ?_⟩ | refine ⟨by push_cast; rfl, ?_⟩)) (by (show [rowB _ _ _, _, _, _] = [rowB _ _ _, _, _, _]; simp)) ?_
 refine Cd.loop (ι := Nat × (Option Addr × Nat)) (fun p => [(1, ptrW g1), (9, encF), (10, .slice p.2.1 (uintL ad.length ++ (ad.take p.1).flatMap tabB).length p.2.2), (55, .slice B ad.length b), (56, .int .i64 ad.length), (57, .int .i64 p.1)]) (fun p => [rowB p.2.1 p.2.2 (uintL ad.length ++ (ad.take p.1).flatMap tabB), blk g1 27 [.slice B ad.length b, .slice D dr.length d, .int .i64 nx, .int .i64 lg, .int .i64 sq], rdT B ad, rd D dr.length 1 (ints dr)]) (fun p => p.1 ≤ ad.length) (fun p => ad.length - p.1) ((0, (qA, qc))) (Nat.zero_le _) ?_ rfl ?_
 · (repeat (first | exact trivial | refine ⟨by rfl, ?_⟩))
 rintro ⟨j, xA, xc⟩ hj
 dsimp only at hj ⊢
 have hzj := hz j
 obtain ⟨X, hX⟩ : ∃ X, X = uintL ad.length ++ (ad.take j).flatMap tabB := ⟨_, rfl⟩
 rw [← hX] at hzj ⊢
 refine go [3,4,16,2,3] ?_
 refine Cd.cond _ (by rfl) (fun h3 => ?_) (fun h3 => ?_)
 · have hlt : j < ad.length := by have := of_decide_eq_true h3; omega
   obtain ⟨t, ht⟩ := get_of_lt hlt
   have htk := htab t (List.mem_of_getElem? ht)
   have ht1 := htk.num
   have ht2 := htk.lev
   have ht3 := htk.fst
   have ht4 := htk.lst
   have htB : X ++ tabB t = uintL ad.length ++ (ad.take (j + 1)).flatMap tabB := by rw [hX, flatT_take ht, List.append_assoc]
   have hbl := tabB_le htk
   refine Ent.rdSome 2 (by rfl) (by omega) (fun bd hbd => ?_)
   subst hbd
   refine go [6,3,21,3,4] ?_
   refine Ls.qE 59 (Ev.indexAt (sz := 4) rfl (by rfl) (by rfl) Tryz.underlying22 (by kernel_rfl) (by omega)) ?_
   refine Ls.qE 60 (Ev.loadEl (enc := TbP.enc) (sz := 4) rfl (by rfl) (ReadsIn.rd 2 (by rfl)) (by kernel_rfl) (fun _ => rfl) ht) ?_
   refine Ls.does (some 12) (Does.alloc (cs := [.int .i64 0, .int .i64 0, .string ⟨#[]⟩, .string ⟨#[]⟩]) rfl (ZeroIs.mk (.agg #[.int .i64 0, .int .i64 0, .string ⟨#[]⟩, .string ⟨#[]⟩]) (by kernel_rfl) (by rfl))) (by rfl) (by rfl) ?_
   intro g2 _
   refine go [15,0,2] ?_
   refine Cd.draw [] (by kernel_rfl) ?_
   refine Rg.qE 0 61 (by rfl) (Ev.move rfl (by rfl)) ?_
   refine Rg.qE 1 62 (by rfl) (Ev.move rfl (by rfl)) ?_
   refine Rg.qE 2 63 (by rfl) (Ev.fieldAddr (k := 0) rfl (by rfl) (by kernel_rfl) (by rfl)) ?_
   refine Rg.qE 3 64 (by rfl) (Ev.load 0 rfl (by rfl) (by rfl) (by kernel_rfl) (by rfl)) ?_
   refine Rg.qE 5 66 (by rfl) (Ev.move rfl (by rfl)) ?_
   refine Rg.qE 6 67 (by rfl) (Ev.fieldAddr (k := 1) rfl (by rfl) (by kernel_rfl) (by rfl)) ?_
   refine Rg.qE 7 68 (by rfl) (Ev.load 0 rfl (by rfl) (by rfl) (by kernel_rfl) (by rfl)) ?_
   refine Rg.qE 9 70 (by rfl) (Ev.fieldAddr (k := 2) rfl (by rfl) (by kernel_rfl) (by rfl)) ?_
   refine Rg.qE 10 71 (by rfl) (Ev.load 0 rfl (by rfl) (by rfl) (by kernel_rfl) (by rfl)) ?_
   refine Rg.qE 12 73 (by rfl) (Ev.fieldAddr (k := 3) rfl (by rfl) (by kernel_rfl) (by rfl)) ?_
   refine Rg.qE 13 74 (by rfl) (Ev.load 0 rfl (by rfl) (by rfl) (by kernel_rfl) (by rfl)) ?_
   refine Rg.does 4 (by rfl) (by kernel_rfl) (Does.callV [0, 1, 2, 3, 4] rfl (by rfl) (enc1_fnv t.num (by omega)) (by rfl) (by rfl) (by rfl)) (by rfl) (some 65) (by rfl) (fun _ _ h => h.tail_) ?_
   rintro ⟨a1, c1⟩ -
   refine Rg.does 8 (by rfl) (by kernel_rfl) (Does.callV [0, 1, 2, 3, 4, 5] rfl (by rfl) (enc1_fnv t.lev (by omega)) (by rfl) (by rfl) (by rfl)) (by rfl) (some 69) (by rfl) (fun _ _ h => h.tail_) ?_
   rintro ⟨a2, c2⟩ -
   refine Rg.does 11 (by rfl) (by kernel_rfl) (Does.call [0, 1, 2, 3, 4, 5, 6] rfl Tryz.func94 (by kernel_rfl) (by kernel_rfl) (ftext_sl t.fst (by omega)) (by rfl) (by rfl) (by rfl)) (by rfl) (some 72) (by rfl) (fun _ _ h => h.tail_) ?_
   rintro ⟨a3, c3⟩ -
   refine Rg.does 14 (by rfl) (by kernel_rfl) (Does.call [0, 1, 2, 3, 4, 5, 6, 7] rfl Tryz.func94 (by kernel_rfl) (by kernel_rfl) (ftext_sl t.lst (by omega)) (by rfl) (by rfl) (by rfl)) (by rfl) (some 75) (by rfl) (fun _ _ h => h.tail_) ?_
   rintro ⟨a4, c4⟩ -
   refine Rg.does 15 (by rfl) (by kernel_rfl) (Does.lit (sz := 1) rfl (by rfl) Tryz.underlying48 (by kernel_rfl) (by rfl) (by kernel_rfl)) (by rfl) (some 76) (by rfl) (fun _ _ h => h.tail_) ?_
   intro g3 _
   obtain ⟨ls, hls⟩ : ∃ ls : List Bs, ls = [⟨xA, xc, X⟩, ⟨a1, c1, uintL t.num.toNat⟩, ⟨a2, c2, uintL t.lev.toNat⟩, ⟨a3, c3, textB t.fst⟩, ⟨a4, c4, textB t.lst⟩] := ⟨_, rfl⟩
   have hcat : catB ls = X ++ tabB t := by rw [hls]; simp [catB, tabB]
   rw [hls] at hcat
   refine Rg.does 16 (by rfl) (by kernel_rfl) (Does.readN rfl Tryz.func93 (by kernel_rfl) (by kernel_rfl) (concat_sl (some ⟨g3, 0, none⟩) 5 [⟨xA, xc, X⟩, ⟨a1, c1, uintL t.num.toNat⟩, ⟨a2, c2, uintL t.lev.toNat⟩, ⟨a3, c3, textB t.fst⟩, ⟨a4, c4, textB t.lst⟩] (by simp) (by rw [hcat, List.length_append]; omega)) (by rfl) (by rfl) ⟨ReadsIn.row 0 (by rfl), starsB _ ⟨ReadsIn.row 6 (by rfl), ReadsIn.row 4 (by rfl), ReadsIn.row 3 (by rfl), ReadsIn.row 2 (by rfl), ReadsIn.row 1 (by rfl), trivial⟩, trivial⟩ (fun _ => by rfl)) (by rfl) (some 77) (by rfl) (fun _ _ h => h.tail_) ?_
   rw [hcat, htB]
   rintro ⟨q, qq⟩ -
   refine Rg.qE 17 10 (by rfl) (Ev.assign rfl (by rfl)) ?_
   refine Rg.done (by kernel_rfl) ?_ _
   refine Cd.region ?_
   refine Ls.qE 78 (Ev.addN (b := 1) rfl (by rfl) (by rfl) (by omega)) ?_
   refine go [0,2] ?_
   refine Ent.pick [0, 8, 9, 10] (by rfl) ?_
   refine Ent.iA ((j + 1, (q, qq))) ?_
   (try dsimp only); exact ⟨hlt, by omega⟩
 have hge : ad.length ≤ j := by have := of_decide_eq_false h3; omega
 rw [List.take_of_length_le hge] at hX
 refine Cd.exit ?_
 refine Cd.seq ?_
 refine Cd.regionI ?_
 refine Li.ev (some 79) (Ev.move rfl (by rfl)) (by rfl) (by rfl) ?_
 refine Li.ev (some 80) (Ev.move rfl (by rfl)) (by rfl) (by rfl) ?_
 refine Li.ev (some 81) (Ev.fieldAddr (k := 1) rfl (by rfl) (by kernel_rfl) (by rfl)) (by rfl) (by rfl) ?_
 refine Li.ev (some 82) (Ev.load 1 rfl (by rfl) (by rfl) (by kernel_rfl) (by rfl)) (by rfl) (by rfl) ?_
 refine Li.ev (some 83) (Ev.len rfl (by rfl) Tryz.underlying25) (by rfl) (by rfl) ?_
 refine Li.does (some 84) (Does.callV [0, 1, 2, 3] rfl (by rfl) (enc1N_fnv dr.length (by omega)) (by rfl) (by rfl) (by rfl)) (by rfl) (by rfl) ?_
 rintro ⟨a1, c1⟩ -
 refine Li.does (some 85) (Does.appB 1 rfl (by rfl) (by rfl) (by rfl) (ReadsIn.row 0 (by rfl)) (by omega)) (by rfl) (by rfl) ?_
 rintro ⟨yA, yc⟩ -
 refine Li.ev (some 10) (Ev.assign rfl (by rfl)) (by rfl) (by rfl) ?_
 refine Li.nil ?_
 refine go [3,3,4,7,1,8,2] ?_
 refine Ls.qE 88 (Ev.len rfl (by rfl) Tryz.underlying25) ?_
 refine go [0,2,21] ?_
 refine Ent.pick [1, 2, 3, 4] (by rfl) ?_
 have hY : ∀ j, (X ++ uintL dr.length ++ (dr.take j).flatMap drpB).length ≤ 20 + ad.length * 168 + dr.length * 10 := fun j => by
  rw [List.length_append, List.length_append]
  have := hdl j
  omega
 refine Ent.norm ([(1, ptrW g1), (9, encF), (10, .slice yA (X ++ uintL dr.length ++ (dr.take 0).flatMap drpB).length yc), (87, .slice D dr.length d), (88, .int .i64 dr.length), (89, .int .i64 (0 : Nat))]) ([rowB yA yc (X ++ uintL dr.length ++ (dr.take 0).flatMap drpB), blk g1 27 [.slice B ad.length b, .slice D dr.length d, .int .i64 nx, .int .i64 lg, .int .i64 sq], rdT B ad, rd D dr.length 1 (ints dr)]) (by repeat (first | refine ⟨by (show some (Value.slice _ _ _) = some (Value.slice _ _ _); simp), ?_⟩ | exact trivial | refine ⟨by rfl, ?_⟩ | refine ⟨by simp only [List.length_append, List.length_cons, List.length_nil]; rfl, ?_⟩ | refine ⟨by push_cast; rfl, ?_⟩)) (by (show [rowB _ _ _, _, _, _] = [rowB _ _ _, _, _, _]; simp)) ?_
 refine Cd.loop (ι := Nat × (Option Addr × Nat)) (fun p => [(1, ptrW g1), (9, encF), (10, .slice p.2.1 (X ++ uintL dr.length ++ (dr.take p.1).flatMap drpB).length p.2.2), (87, .slice D dr.length d), (88, .int .i64 dr.length), (89, .int .i64 p.1)]) (fun p => [rowB p.2.1 p.2.2 (X ++ uintL dr.length ++ (dr.take p.1).flatMap drpB), blk g1 27 [.slice B ad.length b, .slice D dr.length d, .int .i64 nx, .int .i64 lg, .int .i64 sq], rdT B ad, rd D dr.length 1 (ints dr)]) (fun p => p.1 ≤ dr.length) (fun p => dr.length - p.1) ((0, (yA, yc))) (Nat.zero_le _) ?_ rfl ?_
 · (repeat (first | exact trivial | refine ⟨by rfl, ?_⟩))
 rintro ⟨k2, zA, zc⟩ hk2
 dsimp only at hk2 ⊢
 have hYj := hY k2
 obtain ⟨Y, hYe⟩ : ∃ Y, Y = X ++ uintL dr.length ++ (dr.take k2).flatMap drpB := ⟨_, rfl⟩
 rw [← hYe] at hYj ⊢
 refine go [3,4,16,2,3] ?_
 refine Cd.cond _ (by rfl) (fun h4 => ?_) (fun h4 => ?_)
 · have hlt : k2 < dr.length := by have := of_decide_eq_true h4; omega
   obtain ⟨x, hx⟩ := get_of_lt hlt
   have hx0 := hdrp x (List.mem_of_getElem? hx)
   have hxB : Y ++ uintL x.toNat = X ++ uintL dr.length ++ (dr.take (k2 + 1)).flatMap drpB := by rw [hYe, flatT_take hx, List.append_assoc]; rfl
   have hxl := uintL_len64 (n := x.toNat) (by omega)
   refine Ent.rdSome 3 (by rfl) (by omega) (fun bd hbd => ?_)
   subst hbd
   refine go [6,3,21,3,4] ?_
   refine Ls.qE 91 (Ev.indexAt (sz := 1) rfl (by rfl) (by rfl) Tryz.underlying25 (by kernel_rfl) (by omega)) ?_
   refine Ls.qE 92 (Ev.loadInt rfl (by rfl) (ReadsIn.rd 3 (by rfl)) (by kernel_rfl) (by assumption)) ?_
   refine go [5,2] ?_
   refine Cd.regionI ?_
   refine Li.ev (some 93) (Ev.move rfl (by rfl)) (by rfl) (by rfl) ?_
   refine Li.ev (some 94) (Ev.move rfl (by rfl)) (by rfl) (by rfl) ?_
   refine Li.ev (some 95) (Ev.move rfl (by rfl)) (by rfl) (by rfl) ?_
   refine Li.does (some 96) (Does.callV [0, 1, 2, 3] rfl (by rfl) (enc1_fnv x (by omega)) (by rfl) (by rfl) (by rfl)) (by rfl) (by rfl) ?_
   rintro ⟨a5, c5⟩ -
   refine Li.does (some 97) (Does.appB 1 rfl (by rfl) (by rfl) (by rfl) (ReadsIn.row 0 (by rfl)) (by omega)) (by rfl) (by rfl) ?_
   rw [hxB]
   rintro ⟨q, qq⟩ -
   refine Li.ev (some 10) (Ev.assign rfl (by rfl)) (by rfl) (by rfl) ?_
   refine Li.nil ?_
   refine Cd.region ?_
   refine Ls.qE 98 (Ev.addN (b := 1) rfl (by rfl) (by rfl) (by omega)) ?_
   refine go [0,2] ?_
   refine Ent.pick [1, 2, 3, 4] (by rfl) ?_
   refine Ent.iA ((k2 + 1, (q, qq))) ?_
   (try dsimp only); exact ⟨hlt, by omega⟩
 have hge2 : dr.length ≤ k2 := by have := of_decide_eq_false h4; omega
 rw [List.take_of_length_le hge2] at hYe
 refine Cd.exit ?_
 refine Cd.seq ?_
 refine Cd.draw [] (by kernel_rfl) ?_
 refine Rg.qE 0 99 (by rfl) (Ev.move rfl (by rfl)) ?_
 refine Rg.qE 1 100 (by rfl) (Ev.move rfl (by rfl)) ?_
 refine Rg.qE 2 101 (by rfl) (Ev.fieldAddr (k := 2) rfl (by rfl) (by kernel_rfl) (by rfl)) ?_
 refine Rg.qE 3 102 (by rfl) (Ev.load 1 rfl (by rfl) (by rfl) (by kernel_rfl) (by rfl)) ?_
 refine Rg.qE 5 104 (by rfl) (Ev.move rfl (by rfl)) ?_
 refine Rg.qE 6 105 (by rfl) (Ev.fieldAddr (k := 3) rfl (by rfl) (by kernel_rfl) (by rfl)) ?_
 refine Rg.qE 7 106 (by rfl) (Ev.load 1 rfl (by rfl) (by rfl) (by kernel_rfl) (by rfl)) ?_
 refine Rg.qE 9 108 (by rfl) (Ev.move rfl (by rfl)) ?_
 refine Rg.qE 10 109 (by rfl) (Ev.fieldAddr (k := 4) rfl (by rfl) (by kernel_rfl) (by rfl)) ?_
 refine Rg.qE 11 110 (by rfl) (Ev.load 1 rfl (by rfl) (by rfl) (by kernel_rfl) (by rfl)) ?_
 refine Rg.does 4 (by rfl) (by kernel_rfl) (Does.callV [0, 1, 2, 3] rfl (by rfl) (enc1_fnv nx hnx) (by rfl) (by rfl) (by rfl)) (by rfl) (some 103) (by rfl) (fun _ _ h => h.tail_) ?_
 rintro ⟨b1, d1⟩ -
 refine Rg.does 8 (by rfl) (by kernel_rfl) (Does.callV [0, 1, 2, 3, 4] rfl (by rfl) (enc1_fnv lg hlg) (by rfl) (by rfl) (by rfl)) (by rfl) (some 107) (by rfl) (fun _ _ h => h.tail_) ?_
 rintro ⟨b2, d2⟩ -
 refine Rg.does 12 (by rfl) (by kernel_rfl) (Does.callV [0, 1, 2, 3, 4, 5] rfl (by rfl) (enc1_fnv sq hsq) (by rfl) (by rfl) (by rfl)) (by rfl) (some 111) (by rfl) (fun _ _ h => h.tail_) ?_
 rintro ⟨b3, d3⟩ -
 refine Rg.does 13 (by rfl) (by kernel_rfl) (Does.lit (sz := 1) rfl (by rfl) Tryz.underlying48 (by kernel_rfl) (by rfl) (by kernel_rfl)) (by rfl) (some 112) (by rfl) (fun _ _ h => h.tail_) ?_
 intro g2 _
 obtain ⟨ls, hls⟩ : ∃ ls : List Bs, ls = [⟨zA, zc, Y⟩, ⟨b1, d1, uintL nx.toNat⟩, ⟨b2, d2, uintL lg.toNat⟩, ⟨b3, d3, uintL sq.toNat⟩] := ⟨_, rfl⟩
 have hcat : catB ls = edB ⟨ad, dr, nx, lg, sq⟩ := by rw [hls, hYe, hX]; simp [catB, edB]
 have hcl : (edB ⟨ad, dr, nx, lg, sq⟩).length ≤ 100000000000 := by
  rw [← hcat, hls]
  simp only [catB, List.flatMap_cons, List.flatMap_nil, List.length_append, List.length_nil]
  omega
 rw [hls] at hcat
 refine Rg.does 14 (by rfl) (by kernel_rfl) (Does.readN rfl Tryz.func93 (by kernel_rfl) (by kernel_rfl) (concat_sl (some ⟨g2, 0, none⟩) 4 [⟨zA, zc, Y⟩, ⟨b1, d1, uintL nx.toNat⟩, ⟨b2, d2, uintL lg.toNat⟩, ⟨b3, d3, uintL sq.toNat⟩] (by simp) (by rw [hcat]; omega)) (by rfl) (by rfl) ⟨ReadsIn.row 0 (by rfl), starsB _ ⟨ReadsIn.row 4 (by rfl), ReadsIn.row 3 (by rfl), ReadsIn.row 2 (by rfl), ReadsIn.row 1 (by rfl), trivial⟩, trivial⟩ (fun _ => by rfl)) (by rfl) (some 113) (by rfl) (fun _ _ h => h.tail_) ?_
 rw [hcat]
 rintro ⟨q, qq⟩ -
 refine Rg.qE 15 10 (by rfl) (Ev.assign rfl (by rfl)) ?_
 refine Rg.done (by kernel_rfl) ?_ _
 refine go [3,3,4,0] ?_
 refine Ls.qE 115 (Ev.len rfl (by rfl) Tryz.underlying47) ?_
 refine go [18,2] ?_
 unfold encR encP
 by_cases hlong : 4096 < (edB ⟨ad, dr, nx, lg, sq⟩).length
 · refine Cd.cond_true (by rfl) (decide_eq_true (show (4096 : Int) < ((edB ⟨ad, dr, nx, lg, sq⟩).length : Int) by omega)) ?_
   refine go [3,4,5,5,2,22] ?_
   refine Ent.ret ((q, qq)) (trivial) (Res.tmp2 (by rfl) (by rfl) (by rfl)) ?_ [] (by rfl) ?_
   · rw [if_pos hlong]
     try rfl
   · rw [if_pos hlong]
     try rfl
 · refine Cd.cond_false (by rfl) (decide_eq_false (show ¬ ((4096 : Int) < ((edB ⟨ad, dr, nx, lg, sq⟩).length : Int)) by omega)) ?_
   refine go [6,3,4,0,5,5,2,22] ?_
   refine Ent.ret ((q, qq)) (trivial) (Res.tmp2 (by rfl) (by rfl) (by rfl)) ?_ [0] (by rfl) ?_
   · rw [if_neg hlong]
     try rfl
   · rw [if_neg hlong]
     try rfl
theorem bool_tt {p : Prop} [Decidable p] (h : p) : Value.bool (decide p) = Value.bool true := congrArg Value.bool (decide_eq_true h)
set_option maxHeartbeats 2000000 in
theorem rencode_sl (e : EdP) (h : EncOk e) (B D : Option Addr) (b d : Nat) : Fn Tryz.prog 70 #[.agg (e.val B b D d).toArray] [rdT B e.add, rd D e.drop.length 1 (ints e.drop)] (Option Addr × Nat) (encR e) (encP e) (fun _ => True) := by
 obtain ⟨ad, dr, nx, lg, sq⟩ := e
 obtain ⟨htab, hdrp, hnx, hlg, hsq, hadl, hdrl⟩ := h
 dsimp only [EdP.val] at htab hdrp hnx hlg hsq hadl hdrl ⊢
 have hfl : ∀ k, _ := fun k => flat_take_le (g := tabB) (fun t ht => tabB_le (htab t ht)) k
 have hdl : ∀ k, _ := fun k => flat_take_le (g := drpB) (fun n hn => drpB_le (hdrp n hn)) k
 have hu1 := uintL_len64 (n := ad.length) (by omega)
 have hu2 := uintL_len64 (n := dr.length) (by omega)
 have hu3 := uintL_len64 (n := nx.toNat) (by omega)
 have hu4 := uintL_len64 (n := lg.toNat) (by omega)
 have hu5 := uintL_len64 (n := sq.toNat) (by omega)
 refine Fn.enter Tryz.func70 rfl Tryz.ntmps70 (by rfl) ?_
 intro w0
 have hz : ∀ j, (uintL ad.length ++ (ad.take j).flatMap tabB).length ≤ 10 + ad.length * 168 := fun j => by
  rw [List.length_append]
  have := hfl j
  omega
 refine go [3,4] ?_
 refine Ls.does (some 1) (Does.box rfl (by rfl)) (by rfl) (by rfl) ?_
 intro g1 _
 refine go [5,5,25,7,0,8,0] ?_
 refine Ls.qE 12 (Ev.len rfl (by rfl) Tryz.underlying22) ?_
 refine Ls.does (some 13) (Does.lit (sz := 1) rfl (by rfl) Tryz.underlying25 (by kernel_rfl) (by rfl) (by kernel_rfl)) (by rfl) (by rfl) ?_
 intro g2 _
 refine go [5,25,7,2,8,1] ?_
 refine Ls.qE 16 (Ev.to (Ev.geq rfl (by rfl) (by rfl)) (bool_tt (show (0 : Int) ≤ nx by omega))) ?_
 refine go [0,7,3,8,1] ?_
 refine Ls.qE 20 (Ev.to (Ev.geq rfl (by rfl) (by rfl)) (bool_tt (show (0 : Int) ≤ lg by omega))) ?_
 refine go [9,0,7,4,8,1] ?_
 refine Ls.qE 25 (Ev.to (Ev.geq rfl (by rfl) (by rfl)) (bool_tt (show (0 : Int) ≤ sq by omega))) ?_
 refine go [9,5,25,0] ?_
 refine Ls.qE 28 (Ev.indexAt (k := 0) (sz := 1) rfl (by rfl) (by rfl) Tryz.underlying25 (by kernel_rfl) (by omega)) ?_
 refine Ls.qE 29 (Ev.loadInt (xs := [(ad.length : Int)]) (k := 0) rfl (by rfl) (ReadsIn.row 0 (by rfl)) (by kernel_rfl) rfl) ?_
 refine Ls.qE 30 (Ev.convU rfl (by rfl) (by kernel_rfl) Tryz.underlying150 (by omega)) ?_
 refine Ls.does (some 31) (Does.call [1, 2, 3] rfl Tryz.func112 (by kernel_rfl) (by kernel_rfl) (refUint_sl ad.length (by omega)) (by rfl) (by rfl) (by rfl)) (by rfl) (by rfl) ?_
 rintro ⟨qA, qc⟩ -
 refine go [5,2,3,3,4,5,2,21] ?_
 refine Ent.norm ([(1, ptrW g1), (5, .bool true), (6, .slice qA (uintL ad.length ++ (ad.take 0).flatMap tabB).length qc), (7, .int .i64 (0 : Nat))]) ([rowB qA qc (uintL ad.length ++ (ad.take 0).flatMap tabB), blk g1 27 [.slice B ad.length b, .slice D dr.length d, .int .i64 nx, .int .i64 lg, .int .i64 sq], rdT B ad, rd D dr.length 1 (ints dr)]) (by repeat (first | refine ⟨by (show some (Value.slice _ _ _) = some (Value.slice _ _ _); simp), ?_⟩ | exact trivial | refine ⟨by rfl, ?_⟩ | refine ⟨by simp only [List.length_append, List.length_cons, List.length_nil]; rfl, ?_⟩ | refine ⟨by push_cast; rfl, ?_⟩)) (by (show [rowB _ _ _, _, _, _] = [rowB _ _ _, _, _, _]; simp only [List.take_zero, List.flatMap_nil, List.append_nil]; try rfl)) ?_
 refine Cd.loop (ι := Nat × (Option Addr × Nat)) (fun p => [(1, ptrW g1), (5, .bool true), (6, .slice p.2.1 (uintL ad.length ++ (ad.take p.1).flatMap tabB).length p.2.2), (7, .int .i64 p.1)]) (fun p => [rowB p.2.1 p.2.2 (uintL ad.length ++ (ad.take p.1).flatMap tabB), blk g1 27 [.slice B ad.length b, .slice D dr.length d, .int .i64 nx, .int .i64 lg, .int .i64 sq], rdT B ad, rd D dr.length 1 (ints dr)]) (fun p => p.1 ≤ ad.length) (fun p => ad.length - p.1) ((0, (qA, qc))) (Nat.zero_le _) ?_ rfl ?_
 · (repeat (first | exact trivial | refine ⟨by rfl, ?_⟩))
 rintro ⟨j, xA, xc⟩ hj
 dsimp only at hj ⊢
 have hzj := hz j
 obtain ⟨X, hX⟩ : ∃ X, X = uintL ad.length ++ (ad.take j).flatMap tabB := ⟨_, rfl⟩
 rw [← hX] at hzj ⊢
 refine go [3,3,4,0,7,0,8,1] ?_
 refine Ls.qE 35 (Ev.len rfl (by rfl) Tryz.underlying22) ?_
 refine go [16,2] ?_
 refine Cd.cond _ (by rfl) (fun h3 => ?_) (fun h3 => ?_)
 · have hlt : j < ad.length := by have := of_decide_eq_true h3; omega
   obtain ⟨t, ht⟩ := get_of_lt hlt
   have htk := htab t (List.mem_of_getElem? ht)
   have ht1 := htk.num
   have ht2 := htk.lev
   have ht3 := htk.fst
   have ht4 := htk.lst
   have htB : X ++ uintL t.num.toNat ++ uintL t.lev.toNat ++ textB t.fst ++ textB t.lst = uintL ad.length ++ (ad.take (j + 1)).flatMap tabB := by rw [hX, flatT_take ht]; simp [tabB]
   have hb1 := uintL_len64 (n := t.num.toNat) (by omega)
   have hb2 := uintL_len64 (n := t.lev.toNat) (by omega)
   have hb3 := textB_le ht3
   have hb4 := textB_le ht4
   refine Ent.rdSome 2 (by rfl) (by omega) (fun bd hbd => ?_)
   subst hbd
   refine go [6,3,21,3,4,7,0,8,1,0] ?_
   refine Ls.qE 42 (Ev.indexAt (sz := 4) rfl (by rfl) (by rfl) Tryz.underlying22 (by kernel_rfl) (by omega)) ?_
   refine Ls.qE 43 (Ev.loadEl (enc := TbP.enc) (sz := 4) rfl (by rfl) (ReadsIn.rd 2 (by rfl)) (by kernel_rfl) (fun _ => rfl) ht) ?_
   refine Ls.does (some 8) (Does.alloc (cs := [.int .i64 0, .int .i64 0, .string ⟨#[]⟩, .string ⟨#[]⟩]) rfl (ZeroIs.mk (.agg #[.int .i64 0, .int .i64 0, .string ⟨#[]⟩, .string ⟨#[]⟩]) (by kernel_rfl) (by rfl))) (by rfl) (by rfl) ?_
   intro g3 _
   refine go [15,0,25,0,0,7,0,8,0] ?_
   refine Ls.qE 48 (Ev.to (Ev.geq rfl (by rfl) (by rfl)) (bool_tt (show (0 : Int) ≤ t.num by omega))) ?_
   refine go [9,0,7,1,8,0] ?_
   refine Ls.qE 53 (Ev.to (Ev.geq rfl (by rfl) (by rfl)) (bool_tt (show (0 : Int) ≤ t.lev by omega))) ?_
   refine go [9,5,25,0,7,0,8,0] ?_
   refine Ls.qE 58 (Ev.convU rfl (by rfl) (by kernel_rfl) Tryz.underlying150 (by omega)) ?_
   refine Ls.does (some 59) (Does.call [0, 1, 2, 3, 4] rfl Tryz.func112 (by kernel_rfl) (by kernel_rfl) (refUintI_sl t.num (by omega)) (by rfl) (by rfl) (by rfl)) (by rfl) (by rfl) ?_
   rintro ⟨a1, c1⟩ -
   refine Ls.does (some 60) (Does.appB 2 rfl (by rfl) (by rfl) (by rfl) (ReadsIn.row 0 (by rfl)) (by omega)) (by rfl) (by rfl) ?_
   rintro ⟨x1, y1⟩ -
   refine go [5,25,0,7,1,8,1] ?_
   refine Ls.qE 64 (Ev.convU rfl (by rfl) (by kernel_rfl) Tryz.underlying150 (by omega)) ?_
   refine Ls.does (some 65) (Does.call [1, 2, 3, 4, 5] rfl Tryz.func112 (by kernel_rfl) (by kernel_rfl) (refUintI_sl t.lev (by omega)) (by rfl) (by rfl) (by rfl)) (by rfl) (by rfl) ?_
   rintro ⟨a2, c2⟩ -
   refine Ls.does (some 66) (Does.appB 2 rfl (by rfl) (by rfl) (by rfl) (ReadsIn.row 0 (by rfl)) (by simp only [List.length_append]; omega)) (by rfl) (by rfl) ?_
   rintro ⟨x2, y2⟩ -
   refine go [5,25,0,7,2,8,1] ?_
   refine Ls.does (some 70) (Does.call [1, 2, 3, 4, 5] rfl Tryz.func113 (by kernel_rfl) (by kernel_rfl) (refText_sl t.fst (by omega)) (by rfl) (by rfl) (by rfl)) (by rfl) (by rfl) ?_
   rintro ⟨a3, c3⟩ -
   refine Ls.does (some 71) (Does.appB 2 rfl (by rfl) (by rfl) (by rfl) (ReadsIn.row 0 (by rfl)) (by simp only [List.length_append]; omega)) (by rfl) (by rfl) ?_
   rintro ⟨x3, y3⟩ -
   refine go [5,2,4,0,7,3,8,1] ?_
   refine Ls.does (some 75) (Does.call [1, 2, 3, 4, 5] rfl Tryz.func113 (by kernel_rfl) (by kernel_rfl) (refText_sl t.lst (by omega)) (by rfl) (by rfl) (by rfl)) (by rfl) (by rfl) ?_
   rintro ⟨a4, c4⟩ -
   refine Ls.does (some 76) (Does.appB 2 rfl (by rfl) (by rfl) (by rfl) (ReadsIn.row 0 (by rfl)) (by simp only [List.length_append]; omega)) (by rfl) (by rfl) ?_
   rw [htB]
   rintro ⟨x4, y4⟩ -
   refine go [5,2,4,0] ?_
   refine Ls.qE 38 (Ev.addN (b := 1) rfl (by rfl) (by rfl) (by omega)) ?_
   refine go [5,2] ?_
   refine Ent.pick [2, 3, 4, 5] (by rfl) ?_
   refine Ent.iA ((j + 1, (x4, y4))) ?_
   (try dsimp only); exact ⟨hlt, by omega⟩
 have hge : ad.length ≤ j := by have := of_decide_eq_false h3; omega
 rw [List.take_of_length_le hge] at hX
 refine Cd.exit ?_
 refine go [3,4,0,7,1,8,1] ?_
 refine Ls.qE 80 (Ev.len rfl (by rfl) Tryz.underlying25) ?_
 refine Ls.qE 81 (Ev.convU rfl (by rfl) (by kernel_rfl) Tryz.underlying150 (by omega)) ?_
 refine Ls.does (some 82) (Does.call [0, 1, 2, 3] rfl Tryz.func112 (by kernel_rfl) (by kernel_rfl) (refUint_sl dr.length (by omega)) (by rfl) (by rfl) (by rfl)) (by rfl) (by rfl) ?_
 rintro ⟨a1, c1⟩ -
 refine Ls.does (some 83) (Does.appB 1 rfl (by rfl) (by rfl) (by rfl) (ReadsIn.row 0 (by rfl)) (by omega)) (by rfl) (by rfl) ?_
 rintro ⟨yA, yc⟩ -
 refine go [5,2,3,3,4,5,2,21] ?_
 refine Ent.pick [1, 2, 3, 4] (by rfl) ?_
 have hY : ∀ j, (X ++ uintL dr.length ++ (dr.take j).flatMap drpB).length ≤ 20 + ad.length * 168 + dr.length * 10 := fun j => by
  rw [List.length_append, List.length_append]
  have := hdl j
  omega
 refine Ent.norm ([(1, ptrW g1), (5, .bool true), (6, .slice yA (X ++ uintL dr.length ++ (dr.take 0).flatMap drpB).length yc), (9, .int .i64 (0 : Nat))]) ([rowB yA yc (X ++ uintL dr.length ++ (dr.take 0).flatMap drpB), blk g1 27 [.slice B ad.length b, .slice D dr.length d, .int .i64 nx, .int .i64 lg, .int .i64 sq], rdT B ad, rd D dr.length 1 (ints dr)]) (by repeat (first | refine ⟨by (show some (Value.slice _ _ _) = some (Value.slice _ _ _); simp), ?_⟩ | exact trivial | refine ⟨by rfl, ?_⟩ | refine ⟨by simp only [List.length_append, List.length_cons, List.length_nil]; rfl, ?_⟩ | refine ⟨by push_cast; rfl, ?_⟩)) (by (show [rowB _ _ _, _, _, _] = [rowB _ _ _, _, _, _]; simp only [List.take_zero, List.flatMap_nil, List.append_nil]; try rfl)) ?_
 refine Cd.loop (ι := Nat × (Option Addr × Nat)) (fun p => [(1, ptrW g1), (5, .bool true), (6, .slice p.2.1 (X ++ uintL dr.length ++ (dr.take p.1).flatMap drpB).length p.2.2), (9, .int .i64 p.1)]) (fun p => [rowB p.2.1 p.2.2 (X ++ uintL dr.length ++ (dr.take p.1).flatMap drpB), blk g1 27 [.slice B ad.length b, .slice D dr.length d, .int .i64 nx, .int .i64 lg, .int .i64 sq], rdT B ad, rd D dr.length 1 (ints dr)]) (fun p => p.1 ≤ dr.length) (fun p => dr.length - p.1) ((0, (yA, yc))) (Nat.zero_le _) ?_ rfl ?_
 · (repeat (first | exact trivial | refine ⟨by rfl, ?_⟩))
 rintro ⟨k2, zA, zc⟩ hk2
 dsimp only at hk2 ⊢
 have hYj := hY k2
 obtain ⟨Y, hYe⟩ : ∃ Y, Y = X ++ uintL dr.length ++ (dr.take k2).flatMap drpB := ⟨_, rfl⟩
 rw [← hYe] at hYj ⊢
 refine go [3,3,4,0,7,1,8,1] ?_
 refine Ls.qE 87 (Ev.len rfl (by rfl) Tryz.underlying25) ?_
 refine go [16,2] ?_
 refine Cd.cond _ (by rfl) (fun h4 => ?_) (fun h4 => ?_)
 · have hlt : k2 < dr.length := by have := of_decide_eq_true h4; omega
   obtain ⟨x, hx⟩ := get_of_lt hlt
   have hx0 := hdrp x (List.mem_of_getElem? hx)
   have hxB : Y ++ uintL x.toNat = X ++ uintL dr.length ++ (dr.take (k2 + 1)).flatMap drpB := by rw [hYe, flatT_take hx, List.append_assoc]; rfl
   have hxl := uintL_len64 (n := x.toNat) (by omega)
   refine Ent.rdSome 3 (by rfl) (by omega) (fun bd hbd => ?_)
   subst hbd
   refine go [6,3,21,3,4,0,0,7,1,8,1,0] ?_
   refine Ls.qE 96 (Ev.indexAt (sz := 1) rfl (by rfl) (by rfl) Tryz.underlying25 (by kernel_rfl) (by omega)) ?_
   refine Ls.qE 97 (Ev.loadInt rfl (by rfl) (ReadsIn.rd 3 (by rfl)) (by kernel_rfl) hx) ?_
   refine Ls.qE 98 (Ev.to (Ev.geq rfl (by rfl) (by rfl)) (bool_tt (show (0 : Int) ≤ x by omega))) ?_
   refine go [9,5,2,4,0,7,1,8,1,0] ?_
   refine Ls.qE 104 (Ev.indexAt (sz := 1) rfl (by rfl) (by rfl) Tryz.underlying25 (by kernel_rfl) (by omega)) ?_
   refine Ls.qE 105 (Ev.loadInt rfl (by rfl) (ReadsIn.rd 3 (by rfl)) (by kernel_rfl) hx) ?_
   refine Ls.qE 106 (Ev.convU rfl (by rfl) (by kernel_rfl) Tryz.underlying150 (by omega)) ?_
   refine Ls.does (some 107) (Does.call [0, 1, 2, 3] rfl Tryz.func112 (by kernel_rfl) (by kernel_rfl) (refUintI_sl x (by omega)) (by rfl) (by rfl) (by rfl)) (by rfl) (by rfl) ?_
   rintro ⟨a5, c5⟩ -
   refine Ls.does (some 108) (Does.appB 1 rfl (by rfl) (by rfl) (by rfl) (ReadsIn.row 0 (by rfl)) (by omega)) (by rfl) (by rfl) ?_
   rw [hxB]
   rintro ⟨q, qq⟩ -
   refine go [5,2,4,0] ?_
   refine Ls.qE 90 (Ev.addN (b := 1) rfl (by rfl) (by rfl) (by omega)) ?_
   refine go [5,2] ?_
   refine Ent.pick [1, 2, 3, 4] (by rfl) ?_
   refine Ent.iA ((k2 + 1, (q, qq))) ?_
   (try dsimp only); exact ⟨hlt, by omega⟩
 have hge2 : dr.length ≤ k2 := by have := of_decide_eq_false h4; omega
 rw [List.take_of_length_le hge2] at hYe
 have hcat : Y ++ uintL nx.toNat ++ uintL lg.toNat ++ uintL sq.toNat = edB ⟨ad, dr, nx, lg, sq⟩ := by rw [hYe, hX]; simp [edB]
 refine Cd.exit ?_
 refine go [3,4,0,7,2,8,1] ?_
 refine Ls.qE 112 (Ev.convU rfl (by rfl) (by kernel_rfl) Tryz.underlying150 (by omega)) ?_
 refine Ls.does (some 113) (Does.call [0, 1, 2, 3] rfl Tryz.func112 (by kernel_rfl) (by kernel_rfl) (refUintI_sl nx hnx) (by rfl) (by rfl) (by rfl)) (by rfl) (by rfl) ?_
 rintro ⟨b1, d1⟩ -
 refine Ls.does (some 114) (Does.appB 1 rfl (by rfl) (by rfl) (by rfl) (ReadsIn.row 0 (by rfl)) (by omega)) (by rfl) (by rfl) ?_
 rintro ⟨w1, v1⟩ -
 refine go [5,25,0,7,3,8,2] ?_
 refine Ls.qE 118 (Ev.convU rfl (by rfl) (by kernel_rfl) Tryz.underlying150 (by omega)) ?_
 refine Ls.does (some 119) (Does.call [1, 2, 3, 4] rfl Tryz.func112 (by kernel_rfl) (by kernel_rfl) (refUintI_sl lg hlg) (by rfl) (by rfl) (by rfl)) (by rfl) (by rfl) ?_
 rintro ⟨b2, d2⟩ -
 refine Ls.does (some 120) (Does.appB 1 rfl (by rfl) (by rfl) (by rfl) (ReadsIn.row 0 (by rfl)) (by simp only [List.length_append]; omega)) (by rfl) (by rfl) ?_
 rintro ⟨w2, v2⟩ -
 refine go [5,25,0,7,4,8,2] ?_
 refine Ls.qE 124 (Ev.convU rfl (by rfl) (by kernel_rfl) Tryz.underlying150 (by omega)) ?_
 refine Ls.does (some 125) (Does.call [1, 2, 3, 4] rfl Tryz.func112 (by kernel_rfl) (by kernel_rfl) (refUintI_sl sq hsq) (by rfl) (by rfl) (by rfl)) (by rfl) (by rfl) ?_
 rintro ⟨b3, d3⟩ -
 refine Ls.does (some 126) (Does.appB 1 rfl (by rfl) (by rfl) (by rfl) (ReadsIn.row 0 (by rfl)) (by simp only [List.length_append]; omega)) (by rfl) (by rfl) ?_
 rw [hcat]
 rintro ⟨q, qq⟩ -
 refine go [5,2,3,3,4,0,20,2,24,6,3,3,4,0] ?_
 refine Ls.qE 130 (Ev.len rfl (by rfl) Tryz.underlying47) ?_
 refine go [18,2] ?_
 unfold encR encP
 have hcl : (edB ⟨ad, dr, nx, lg, sq⟩).length ≤ 100000000000 := by
  rw [← hcat]
  simp only [List.length_append]
  omega
 by_cases hlong : 4096 < (edB ⟨ad, dr, nx, lg, sq⟩).length
 · refine Cd.cond_true (by rfl) (decide_eq_true (show (4096 : Int) < ((edB ⟨ad, dr, nx, lg, sq⟩).length : Int) by omega)) ?_
   refine go [3,4,5,5,2,22] ?_
   refine Ent.ret ((q, qq)) (trivial) (Res.tmp2 (by rfl) (by rfl) (by rfl)) ?_ [] (by rfl) ?_
   · rw [if_pos hlong]
     try rfl
   · rw [if_pos hlong]
     try rfl
 · refine Cd.cond_false (by rfl) (decide_eq_false (show ¬ ((4096 : Int) < ((edB ⟨ad, dr, nx, lg, sq⟩).length : Int)) by omega)) ?_
   refine go [6,3,4,0,5,5,2,22] ?_
   refine Ent.ret ((q, qq)) (trivial) (Res.tmp2 (by rfl) (by rfl) (by rfl)) ?_ [1] (by rfl) ?_
   · rw [if_neg hlong]
     try rfl
   · rw [if_neg hlong]
     try rfl
end Go.Proofs.YtacbkganjkipdaaGreatDoor
