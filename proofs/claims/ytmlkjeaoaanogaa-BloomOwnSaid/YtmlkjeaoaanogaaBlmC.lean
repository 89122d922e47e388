/- walk: bloom.May -/
import Derived.Test.YtmlkjeaoaanogaaBlmB
namespace Go.Proofs.Ytmlkjeaoaanogaa
open Go.RowKit Go.Shelf
attribute [local go_sem] Oper.semAt_some

theorem hasBit_byte : ∀ (b : Fin 256) (r : Fin 8), bits BinOp.and IntKind.u8 ((b.val / 2 ^ r.val : Nat) : Int) 1 = ((b.val / 2 ^ r.val % 2 : Nat) : Int) := by decide +kernel

set_option maxRecDepth 100000 in
set_option maxHeartbeats 4000000 in
theorem may_any (A : Option Addr) (n c : Nat) (f : List UInt8) (s : ByteArray) (w : World) (hx : Reads w w.heap.size 1 A n (u8s f)) (hn : n ≤ maxLen) (hs : s.size ≤ maxLen) :
    Calls Try.prog 14 #[.slice A n c, .string s] w fun e w' => e = .returned (.bool (mayL f s.data.toList)) ∧ Below w.heap.size w w' := by
  have hlen := hx.len_
  have HX := Lib.hid hx
  have HL := Lib.hid hlen
  clear hx hlen
  unfold maxLen at hn
  obtain ⟨fd, hfd⟩ : ∃ fd : Nat, 6 ≤ fd := ⟨6, Nat.le_refl _⟩
  refine (callsIn_wide (n := fd)).1 ?_
  refine callsIn_of_wp_marks Try.func14 rfl trivial ?_ rfl
  simp only [Try.ntmps14, List.size_toArray, List.length_cons, List.length_nil, Nat.reduceAdd, Nat.reduceSub, Array.replicate_succ, Array.replicate_zero, List.push_toArray, List.append_toArray, List.nil_append, List.cons_append]
  have hb0 : ∀ v, Below w.heap.size w ((w.alloc (.cells #[.slice A n c] 25)).alloc (.cells #[.bool v] 4)) := fun v => ((Below.refl _ w).alloc (Nat.le_refl _) _).alloc (by simp) _
  have HB0 := Lib.hid hb0
  clear hb0
  by_cases hn2 : n < 2
  · have h1 : (n : Int) - 1 < 1 := by omega
    have hm : mayL f s.data.toList = true := by unfold mayL; rw [if_pos (.inl (by rw [HL.out]; exact hn2))]
    have HM := Lib.hid hm
    clear hm
    gi_wp2_with fail
    exact ⟨.bool true, by simp [results, Try.results14, go_sem], by rw [HM.out], HB0.out true⟩
  · obtain ⟨sz, rfl⟩ : ∃ sz, n = sz + 1 := ⟨n - 1, by omega⟩
    obtain ⟨ad, rfl, hbk, hcell⟩ := HX.out.u8_ (k := sz) (by omega)
    have hmd : mayL f s.data.toList = if sz + 1 < 2 ∨ 1048577 ≤ sz + 1 ∨ (f.getD sz 0).toNat < 1 ∨ 16 < (f.getD sz 0).toNat then true else (placesL s.data.toList (8 * sz) (f.getD sz 0).toNat).all (hasBit f) := by
      unfold mayL
      rw [HL.out]
      rfl
    obtain ⟨kb, hkb⟩ : ∃ kb, kb = f.getD sz 0 := ⟨_, rfl⟩
    rw [← hkb] at hcell hmd
    have hc0 : ∀ v, ((w.alloc (.cells #[.slice (some ad) (sz + 1) c] 25)).alloc (.cells #[.bool v] 4)).cell? (ad.add sz) = some (.int .u8 kb.toNat) := fun v => by
      rw [(HB0.out v).cell (by rw [block_of_add]; exact hbk)]
      exact hcell
    have hc1 := hc0 false
    have HM := Lib.hid hmd
    have hkb256 : (kb.toNat : Int) < 256 := by have := kb.toNat_lt; omega
    clear hmd hkb hc0 hcell
    by_cases hbig : (1048576 : Int) ≤ (sz : Int)
    · have hm : mayL f s.data.toList = true := by rw [HM.out, if_pos (.inr (.inl (by omega)))]
      have HM2 := Lib.hid hm
      clear hm
      gi_wp2_with fail
      exact ⟨.bool true, by simp [results, Try.results14, go_sem], by rw [HM2.out], HB0.out true⟩
    · by_cases hk1 : (kb.toNat : Int) < 1
      · have hm : mayL f s.data.toList = true := by rw [HM.out, if_pos (.inr (.inr (.inl (by omega))))]
        have HM2 := Lib.hid hm
        clear hm
        gi_wp2_with fail
        exact ⟨.bool true, by simp [results, Try.results14, go_sem], by rw [HM2.out], HB0.out true⟩
      · by_cases hk2 : (16 : Int) < (kb.toNat : Int)
        · have hm : mayL f s.data.toList = true := by rw [HM.out, if_pos (.inr (.inr (.inr (by omega))))]
          have HM2 := Lib.hid hm
          clear hm
          gi_wp2_with fail
          exact ⟨.bool true, by simp [results, Try.results14, go_sem], by rw [HM2.out], HB0.out true⟩
        · have hm : mayL f s.data.toList = (placesL s.data.toList (8 * sz) kb.toNat).all (hasBit f) := by rw [HM.out, if_neg (by omega)]
          have HM2 := Lib.hid hm
          clear hm HM
          have hsz1 : ¬ (sz : Int) < 1 := by omega
          obtain ⟨N, hNe⟩ : ∃ N, N = 8 * sz := ⟨_, rfl⟩
          have hN8 : 8 * (sz : Int) = (N : Int) := by omega
          have hN0 : 0 < N := by omega
          have hN2 : N ≤ 8388608 := by omega
          have HNE := Lib.hid hNe
          clear hNe
          gi_wp2_with fail
          refine ⟨trivial, fun _ => (by omega), (callsIn_wide.2 (places_any s N kb.toNat _)).mono ?_⟩
          rintro e w' ⟨rfl, rfl⟩
          have bF := Boxed.new w 25 (.slice (some ad) (sz + 1) c)
          have bR := Boxed.new (w.alloc (.cells #[.slice (some ad) (sz + 1) c] 25)) 4 (.bool false)
          have bF2 := bF.alloc (.cells #[.bool false] 4)
          have hBw := HB0.out false
          obtain ⟨w2, hw2⟩ : ∃ w2, w2 = (w.alloc (.cells #[.slice (some ad) (sz + 1) c] 25)).alloc (.cells #[.bool false] 4) := ⟨_, rfl⟩
          have hz2 : w2.heap.size = w.heap.size + 1 + 1 := by rw [hw2]; simp
          rw [World.size_alloc] at bR
          rw [← hw2] at bF2 bR hBw ⊢
          have bK := Boxed.new w2 9 (.string s)
          have bN := Boxed.new (w2.alloc (.cells #[.string s] 9)) 27 (.int .u32 N)
          have bC := Boxed.new ((w2.alloc (.cells #[.string s] 9)).alloc (.cells #[.int .u32 N] 27)) 3 (.int .i64 (kb.toNat : Int))
          have bK2 := (bK.alloc (.cells #[.int .u32 N] 27)).alloc (.cells #[.int .i64 (kb.toNat : Int)] 3)
          have bN2 := bN.alloc (.cells #[.int .i64 (kb.toNat : Int)] 3)
          have bF3 := ((bF2.alloc (.cells #[.string s] 9)).alloc (.cells #[.int .u32 N] 27)).alloc (.cells #[.int .i64 (kb.toNat : Int)] 3)
          have bR3 := ((bR.alloc (.cells #[.string s] 9)).alloc (.cells #[.int .u32 N] 27)).alloc (.cells #[.int .i64 (kb.toNat : Int)] 3)
          have hB3 := ((hBw.alloc hBw.size (.cells #[.string s] 9)).alloc (by simp; omega) (.cells #[.int .u32 N] 27)).alloc (by simp; omega) (.cells #[.int .i64 (kb.toNat : Int)] 3)
          simp only [World.size_alloc] at bN bC bN2
          obtain ⟨w3, hw3⟩ : ∃ w3, w3 = ((w2.alloc (.cells #[.string s] 9)).alloc (.cells #[.int .u32 N] 27)).alloc (.cells #[.int .i64 (kb.toNat : Int)] 3) := ⟨_, rfl⟩
          have hz3 : w3.heap.size = w.heap.size + 5 := by rw [hw3]; simp [hz2]
          rw [← hw3] at bK2 bN2 bC bF3 bR3 hB3 ⊢
          simp only [hz2] at bK2 bN2 bC ⊢
          clear hw2 hz2 hw3 bK bN bF2 bR bF hBw hc1
          gi_wp2_with fail
          refine wpIn_rangeFunc_ownG rfl (by omega) (gf := 18) (lb := #[.pointer (some ⟨w.heap.size + 1 + 1, 0, none⟩), .pointer (some ⟨w.heap.size + 1 + 1 + 1 + 1, 0, none⟩), .pointer (some ⟨w.heap.size + 1 + 1 + 1, 0, none⟩)]) rfl trivial (enters_of Try.func18 (by kernel_rfl) rfl)
            (places_stops (fd - 1) (by omega) (w.heap.size + 1 + 1) (w.heap.size + 1 + 1 + 1 + 1) (w.heap.size + 1 + 1 + 1) w3 (by omega) (by omega) (by omega) s hs N kb.toNat hN0 hN2 (by omega) bK2.cell bC.cell bN2.cell) KN.trans (KN.put (by omega)) (Below.refl _ _) (fun _ => rfl)
            (fun (pre : List { x : Nat // x < N }) W => ((∀ x ∈ pre, hasBit f x.1 = true) ∧ W.cell? ⟨w.heap.size, 0, none⟩ = some (.slice (some ad) (sz + 1) c) ∧ W.cell? ⟨w.heap.size + 1, 0, none⟩ = some (.bool false) ∧ W.frozen? ⟨w.heap.size + 1, 0, none⟩ = false) ∧ Below w.heap.size w W)
            (fun c (pre : List { x : Nat // x < N }) W => (c = .ret ∧ (∃ x ∈ pre, hasBit f x.1 = false) ∧ W.cell? ⟨w.heap.size + 1, 0, none⟩ = some (.bool false)) ∧ Below w.heap.size w W)
            (OwnFrom.and (Own.from (fun s A B row hs hg hr => ⟨hs.1, cell_kept hs.2.1 hg hr, cell_kept hs.2.2.1 hg hr, (frozen_kept hs.2.2.1 hg hr).trans hs.2.2.2⟩) _) (ownFrom_below (Nat.le_refl _) (by omega)))
            (fun c => OwnFrom.and (Own.from (fun s A B row hs hg hr => ⟨hs.1, hs.2.1, cell_kept hs.2.2 hg hr⟩) _) (ownFrom_below (Nat.le_refl _) (by omega)))
            ⟨⟨by simp, bF3.cell, bR3.cell, bR3.frozen⟩, hB3⟩ ?a1 ?assign ?body ?done ?stop
          case assign =>
            intro l x W K hK
            gi_wp2
            exact hK
          case body =>
            rintro l pre ⟨xv, hxv⟩ W ⟨⟨hp, hcf, hcr, hfr⟩, hB⟩ _
            dsimp only at *
            obtain ⟨j, hj⟩ : ∃ j, j = xv / 8 := ⟨_, rfl⟩
            obtain ⟨r, hr⟩ : ∃ r, r = xv % 8 := ⟨_, rfl⟩
            have hjx : (xv : Int) / 8 = (j : Int) := by omega
            have hrx : (xv : Int) % 8 = (r : Int) := by omega
            have hjs : (j : Int) < (sz : Int) + 1 := by have := HNE.out; omega
            have hr8 : r < 8 := by omega
            obtain ⟨ad', e, hbk', hcj⟩ := HX.out.u8_ (k := j) (by omega)
            injection e with e
            subst e
            have hcw := (hB.cell (p := ad.add j) (by rw [block_of_add]; exact hbk)).trans hcj
            have hbit : hasBit f xv = ((f.getD j 0).toNat / 2 ^ r % 2 == 1) := by unfold hasBit; rw [hj, hr]
            obtain ⟨b, hb⟩ : ∃ b, b = f.getD j 0 := ⟨_, rfl⟩
            rw [← hb] at hcw hcj hbit
            have HBIT := Lib.hid hbit
            have HP := Lib.hid hp
            have hb256 : (b.toNat : Int) < 256 := by have := b.toNat_lt; omega
            clear hbit hp hb hj hr hcj hbk'
            have hand : bits BinOp.and IntKind.u8 ((b.toNat : Int) / 2 ^ r) 1 = ((b.toNat / 2 ^ r % 2 : Nat) : Int) := by
              have h := hasBit_byte ⟨b.toNat, b.toNat_lt⟩ ⟨r, hr8⟩
              dsimp only at h
              rw [← h]
              simp
            obtain ⟨v, hv⟩ : ∃ v, v = b.toNat / 2 ^ r % 2 := ⟨_, rfl⟩
            have hv2 : v < 2 := by omega
            rw [← hv] at hand
            have HV := Lib.hid hv
            clear hv
            by_cases hv0 : v = 0
            · subst hv0
              (repeat gi_step)
              exact ⟨(KeepsOthers.setCell _ _ _).from _, ⟨rfl, ⟨⟨xv, hxv⟩, by simp, by rw [HBIT.out, ← HV.out]; rfl⟩, World.cell?_setCell_same' _ _ _ (by rw [hcr]; rfl)⟩, hB.setCell (p := ⟨w.heap.size + 1, 0, none⟩) (by simp) _⟩
            · obtain rfl : v = 1 := by omega
              (repeat gi_step)
              refine ⟨(KeepsOthers.refl _).from _, rfl, ⟨fun y hy => ?_, hcf, hcr, hfr⟩, hB⟩
              rcases List.mem_append.1 hy with hy | hy
              · exact HP.out y hy
              · rw [List.mem_singleton.1 hy]
                show hasBit f xv = true
                rw [HBIT.out, ← HV.out]
                rfl
          case done =>
            rintro D ys W hD rfl ⟨⟨hp, _, hcr, hfr⟩, hB⟩ hK
            have hall : (placesL s.data.toList (8 * sz) kb.toNat).all (hasBit f) = true := by
              rw [← HNE.out, ← placesS_map _ hN0, List.all_map, List.all_eq_true]
              exact fun x hx => hp x hx
            (repeat gi_step)
            have hK' := (KeepsOthers.setCell W ⟨w.heap.size + 1, 0, none⟩ (.bool true)).same D _ hK rfl
            refine ⟨by simp, .inl ⟨_, _, rfl, run_takeDeferred hK', ?_⟩⟩
            have hc5 := cell_kept (World.cell?_setCell_same' W ⟨w.heap.size + 1, 0, none⟩ (.bool true) (by rw [hcr]; rfl)) (grownBy_putObj' _ D (.deferred none)) (fun r e => by cases e; exact ⟨_, hK', rfl⟩)
            refine ⟨.bool true, ?_, by rw [HM2.out, hall], (hB.setCell (p := ⟨w.heap.size + 1, 0, none⟩) (by simp) _).trans (belowK_b (w := w) (Nat.le_refl _) _ D _ _ (by omega) hK' rfl rfl)⟩
            simp [results, Try.results14, go_sem, hc5]
          case stop =>
            rintro D c pre W hD hpre ⟨⟨rfl, ⟨x, hx, hxb⟩, hcr⟩, hB⟩ hK
            have hall : (placesL s.data.toList (8 * sz) kb.toNat).all (hasBit f) = false := by
              rw [← HNE.out, ← placesS_map _ hN0, List.all_map, List.all_eq_false]
              exact ⟨x, hpre.subset hx, by simp [hxb]⟩
            (repeat gi_step)
            refine ⟨by simp, .inl ⟨_, _, rfl, run_takeDeferred hK, ?_⟩⟩
            have hc5 := cell_kept hcr (grownBy_putObj' _ D (.deferred none)) (fun r e => by cases e; exact ⟨_, hK, rfl⟩)
            refine ⟨.bool false, ?_, by rw [HM2.out, hall], hB.trans (belowK_b (w := w) (Nat.le_refl _) W D _ _ (by omega) hK rfl rfl)⟩
            simp [results, Try.results14, go_sem, hc5]
end Go.Proofs.Ytmlkjeaoaanogaa
