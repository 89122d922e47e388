/- walks: SetRoute, plain, Cut, Route -/
import Derived.Test.YtgkibmdkhldnpaaSesC
namespace Go.Proofs.Ytgkibmdkhldnpaa
open Go.RowKit

set_option maxHeartbeats 1000000 in
theorem setRoute_ok (g : Nat) (r : Int) (f : Nat → Rob) (st : Int) (A : Option Addr) (n c : Nat) (xs : List Int) (w : World) (h0 : 0 ≤ r) (hr : r < 16) (ht : Tab w g f) (hep : (f r.toNat).ep ≠ 0) (hx : Reads w w.heap.size 1 A n (ints xs)) (hn : n ≤ 17592186044415) :
    Calls Try.prog 16 #[.pointer (some ⟨g, 0, none⟩), .int .i64 r, .agg #[.int .i64 st, .slice A n c]] w fun e w' => ∃ A' c', e = .returned (.int .i64 0) ∧ Tab w' g (upd f r.toNat { f r.toNat with st := st, ra := A', rn := n, rc := c' }) ∧ Own w' w.heap.size 3 1 A' n c' (ints xs) ∧ One g w w' := by
  obtain ⟨r, rfl⟩ := Int.eq_ofNat_of_zero_le h0
  rw [Int.toNat_natCast] at *
  have hrn : r < 16 := by omega
  have hlt := Blk.lt ht
  have htA : Tab (w.alloc (.cells #[.int .i64 st, .slice A n c] 35)) g f := Blk.alloc ht _
  have hz := htA.at0 r hrn
  have hb : ((f r).ep == 0) = false := beq_eq_false_iff_ne.2 hep
  have hb0 := Blk.new w 35 #[.int .i64 st, .slice A n c]
  have HT := Lib.hid htA
  have HX := Lib.hid hx
  have H0 := Lib.hid ht
  clear htA hx ht hep
  have hr1 : (r : Int) < 16 := by omega
  have hr0 : (0 : Int) ≤ (r : Int) := by omega
  have hne1 : g ≠ w.heap.size := by omega
  have hne2 : w.heap.size ≠ g := by omega
  go_enter Try.func16, Try.ntmps16
  go_wp2_with (go_at_call 19; refine (is_yes _ _ (by omega)).mono ?_; rintro e w' ⟨rfl, rfl⟩)
  go_region_held3 (fun w' => w'.cell? ⟨w.heap.size, 0, none⟩ = some (.int .i64 st) ∧ w'.cell? ⟨w.heap.size, 1, none⟩ = some (.slice A n c))
    (first | go_keep | exact ⟨k0, k1⟩)
    (first
      | ((go_at_call 21; refine (own_any _ _ _ _ (ints xs) _ ?_ (ints_one xs) hn).mono ?_; exact (HX.out.alloc (Nat.le_refl _) _).more (by simp); rintro e w1 ⟨A', c', rfl, ho, hb1⟩; have b1 := Blk.below (Blk.drew hb0) hb1 (by simp); obtain ⟨k0, k1, -⟩ := b1.c2; have ht1 : Tab w1 g f := Blk.below (Blk.drew HT.out) hb1 (by simp; omega); have HT1 := Lib.hid ht1; obtain ⟨-, -, c2, c3, -, -, -, -, -, f2, f3, -⟩ := ht1.all r hrn; clear ht1)))
  go_wp2_with fail
  go_ret
  have t2 := HT1.out.set_ r 2 (.int .i64 st) { f r with st := st } (by omega) (by omega) rfl (by intro i hi hne; rcases i with _ | _ | _ | _ | _ | _ | _ | i <;> first | rfl | omega)
  have t3 := t2.set_ r 3 (.slice A' n c') { f r with st := st, ra := A', rn := n, rc := c' } (by omega) (by omega) rfl (by intro i hi hne; rw [upd_same]; rcases i with _ | _ | _ | _ | _ | _ | _ | i <;> first | rfl | omega)
  rw [upd_upd] at t3
  have ho1 : One g w1 _ := One.set (One.set (Upd.refl _ w1) (r * 7 + 2) (.int .i64 st)) (r * 7 + 3) (.slice A' n c')
  refine ⟨A', c', rfl, t3, (ho.mono (by simp)).upd ho1 (fun i hi e => by have := ho.ge _ hi; simp at this; omega), ?_⟩
  have hbb : Below w.heap.size w w1 := (((Below.refl _ w).alloc (Nat.le_refl _) _).drew).trans (hb1.mono (by simp))
  exact (Upd.of_below hbb).and ((ho1).mono (fun _ _ h => h))

/-- Is it a route that can be cut? -/
def plainB (st : Int) (n : Nat) : Bool := decide (n ≤ 24) && decide (0 ≤ st) && decide (st ≤ 1073741824)

set_option maxHeartbeats 1000000 in
theorem plain_any (st : Int) (A : Option Addr) (n c : Nat) (w : World) (hn : n ≤ 17592186044415) :
    Calls Try.prog 25 #[.agg #[.int .i64 st, .slice A n c]] w fun e w' => e = .returned (.bool (plainB st n)) ∧ Below w.heap.size w w' := by
  by_cases h1 : (n : Int) ≤ 24
  · by_cases h2 : 0 ≤ st
    · by_cases h3 : st ≤ 1073741824
      · have hv : plainB st n = true := by simp [plainB, h2, h3]; omega
        have HV := Lib.hid hv
        clear hv
        go_enter Try.func25, Try.ntmps25
        go_wp2_with fail
        go_ret
        exact ⟨by rw [HV.out]; rfl, (Below.refl _ w).alloc (Nat.le_refl _) _⟩
      · have hv : plainB st n = false := by simp [plainB]; omega
        have HV := Lib.hid hv
        clear hv
        go_enter Try.func25, Try.ntmps25
        go_wp2_with fail
        go_ret
        exact ⟨by rw [HV.out]; rfl, (Below.refl _ w).alloc (Nat.le_refl _) _⟩
    · have hv : plainB st n = false := by simp [plainB]; omega
      have HV := Lib.hid hv
      clear hv
      go_enter Try.func25, Try.ntmps25
      go_wp2_with fail
      go_ret
      exact ⟨by rw [HV.out]; rfl, (Below.refl _ w).alloc (Nat.le_refl _) _⟩
  · have hv : plainB st n = false := by simp [plainB]; omega
    have HV := Lib.hid hv
    clear hv
    go_enter Try.func25, Try.ntmps25
    go_wp2_with fail
    go_ret
    exact ⟨by rw [HV.out]; rfl, (Below.refl _ w).alloc (Nat.le_refl _) _⟩
/-- What is left of a route. -/
def cutS (st : Int) (xs : List Int) (now : Int) : Int × List Int :=
  if plainB st xs.length = false ∨ xs.length = 0 ∨ st + xs.length - 1 < now then (0, []) else if now ≤ st then (st, xs) else (now, xs.drop (now - st).toNat)

theorem zero_route (w : World) : (zeroValue 35).run Try.prog w = .ok (.agg #[.int .i64 0, .slice none 0 0]) w := by kernel_rfl

set_option maxHeartbeats 4000000 in
theorem cut_any (st : Int) (A : Option Addr) (n c : Nat) (xs : List Int) (now : Int) (w : World) (hx : Reads w w.heap.size 1 A n (ints xs)) (hn : n ≤ 17592186044415) (hc : n ≤ c) (hcm : c ≤ maxLen) :
    Calls Try.prog 22 #[.agg #[.int .i64 st, .slice A n c], .int .i64 now] w fun e w' => ∃ A' c', e = .returned (.agg #[.int .i64 (cutS st xs now).1, .slice A' (cutS st xs now).2.length c']) ∧ Own w' w.heap.size 3 1 A' (cutS st xs now).2.length c' (ints (cutS st xs now).2) ∧ Below w.heap.size w w' := by
  unfold maxLen at hcm
  have lx : xs.length = n := by have := hx.1; rw [ints_length] at this; omega
  have HX := Lib.hid hx
  have LX := Lib.hid lx
  have hzr := zero_route
  clear hx lx
  by_cases hp : plainB st n = true
  · have hp' := hp
    simp only [plainB, Bool.and_eq_true, decide_eq_true_eq] at hp'
    obtain ⟨⟨p1, p2⟩, p3⟩ := hp'
    by_cases h0 : n = 0
    · have hv : cutS st xs now = (0, []) := by unfold cutS; rw [LX.out, if_pos (.inr (.inl h0))]
      have h0' : ((n : Int) == 0) = true := by rw [beq_iff_eq]; omega
      have HV := Lib.hid hv
      have HP := Lib.hid hp
      clear hv hp h0
      go_enter Try.func22, Try.ntmps22
      go_wp2_with fail
      refine (plain_any _ _ _ _ _ hn).mono ?_
      rintro e w1 ⟨rfl, hb1⟩
      rw [HP.out]
      have b1 := ((Blk.new w 35 #[.int .i64 st, .slice A n c]).alloc (.cells #[.int .i64 0, .slice none 0 0] 35)).below hb1 (by simp; omega)
      have b2 : Blk w1 (w.heap.size + 1) 35 #[.int .i64 0, .slice none 0 0] := (Blk.new_ (by simp) _ _).below hb1 (by simp)
      obtain ⟨k10, k11, f10, f11⟩ := b1.c2
      obtain ⟨k20, k21, f20, f21⟩ := b2.c2
      go_wp2_with fail
      refine bodyPost_ret (results_cell_row rfl _ _ (w.heap.size + 1) 35 #[.int .i64 0, .slice none 0 0] (0, 0) _ rfl ((b2.set_ 0 _).set_ 1 _) Try.underlying35 rfl (by kernel_rfl)) rfl ⟨none, 0, by rw [HV.out]; rfl, ?_, ?_⟩
      · rw [HV.out]
        exact Own.nil_ _ _ _ _
      · exact ((((Below.refl _ w).alloc (Nat.le_refl _) _).alloc (by simp) _).trans (hb1.mono (by simp; omega))).setCell (by simp) _ |>.setCell (by simp) _
    · have h0' : ((n : Int) == 0) = false := by rw [beq_eq_false_iff_ne]; omega
      by_cases h1 : st + n - 1 < now
      · have hv : cutS st xs now = (0, []) := by unfold cutS; rw [LX.out, if_pos (.inr (.inr h1))]
        have HV := Lib.hid hv
        have HP := Lib.hid hp
        clear hv hp h0
        go_enter Try.func22, Try.ntmps22
        go_wp2_with fail
        refine (plain_any _ _ _ _ _ hn).mono ?_
        rintro e w1 ⟨rfl, hb1⟩
        rw [HP.out]
        have b1 := ((Blk.new w 35 #[.int .i64 st, .slice A n c]).alloc (.cells #[.int .i64 0, .slice none 0 0] 35)).below hb1 (by simp; omega)
        have b2 : Blk w1 (w.heap.size + 1) 35 #[.int .i64 0, .slice none 0 0] := (Blk.new_ (by simp) _ _).below hb1 (by simp)
        obtain ⟨k10, k11, f10, f11⟩ := b1.c2
        obtain ⟨k20, k21, f20, f21⟩ := b2.c2
        go_wp2_with fail
        refine bodyPost_ret (results_cell_row rfl _ _ (w.heap.size + 1) 35 #[.int .i64 0, .slice none 0 0] (0, 0) _ rfl ((b2.set_ 0 _).set_ 1 _) Try.underlying35 rfl (by kernel_rfl)) rfl ⟨none, 0, by rw [HV.out]; rfl, ?_, ?_⟩
        · rw [HV.out]
          exact Own.nil_ _ _ _ _
        · exact ((((Below.refl _ w).alloc (Nat.le_refl _) _).alloc (by simp) _).trans (hb1.mono (by simp; omega))).setCell (by simp) _ |>.setCell (by simp) _
      · by_cases h2 : now ≤ st
        · have hv : cutS st xs now = (st, xs) := by
            unfold cutS
            rw [LX.out, if_neg (by simp [hp]; omega), if_pos h2]
          have HV := Lib.hid hv
          have HP := Lib.hid hp
          clear hv hp h0
          go_enter Try.func22, Try.ntmps22
          go_wp2_with fail
          refine (plain_any _ _ _ _ _ hn).mono ?_
          rintro e w1 ⟨rfl, hb1⟩
          rw [HP.out]
          have b1 := ((Blk.new w 35 #[.int .i64 st, .slice A n c]).alloc (.cells #[.int .i64 0, .slice none 0 0] 35)).below hb1 (by simp; omega)
          have b2 : Blk w1 (w.heap.size + 1) 35 #[.int .i64 0, .slice none 0 0] := (Blk.new_ (by simp) _ _).below hb1 (by simp)
          obtain ⟨k10, k11, f10, f11⟩ := b1.c2
          obtain ⟨k20, k21, f20, f21⟩ := b2.c2
          go_wp2_with fail
          go_region_held3 (fun w' => w'.cell? ⟨w.heap.size, 0, none⟩ = some (.int .i64 st) ∧ w'.cell? ⟨w.heap.size, 1, none⟩ = some (.slice A n c))
            (first | go_keep | exact ⟨q10, q11⟩)
            (first
              | ((go_at_call 24; refine (clone_any _ _ _ (ints xs) _ ?_ (ints_one xs) hn).mono ?_; exact (((HX.out.alloc (Nat.le_refl _) _).alloc (by simp) _).below (hb1.mono (by simp; omega)) |>.more (by have := hb1.size; have h2 : w1.drew.heap.size = w1.heap.size := rfl; simp at this; omega)); rintro e w2 ⟨A', c', rfl, ho, hb2⟩; have b12 := Blk.below (Blk.drew b1) hb2 (by have := hb1.size; simp at this ⊢; omega); have b22 := Blk.below (Blk.drew b2) hb2 (by have := hb1.size; simp at this ⊢; omega); obtain ⟨q10, q11, -, -⟩ := b12.c2; obtain ⟨q20, q21, r20, r21⟩ := b22.c2)))
          go_wp2_with fail
          refine bodyPost_ret (results_cell_row rfl _ _ (w.heap.size + 1) 35 #[.int .i64 st, .slice A' n c'] (0, 0) _ rfl ((b22.set_ 0 _).set_ 1 _) Try.underlying35 rfl (by kernel_rfl)) rfl ⟨A', c', by rw [HV.out]; simp only [LX.out], ?_, ?_⟩
          · rw [HV.out]
            simp only [LX.out]
            have hz := hb1.size
            simp only [World.size_alloc] at hz
            have hg : blockOf A' ≠ some (w.heap.size + 1) := ho.apartBlk b22 (by decide)
            exact ((ho.mono (by simp; omega)).far hg _).far hg _
          · have hz := hb1.size
            simp only [World.size_alloc] at hz
            exact ((((((Below.refl _ w).alloc (Nat.le_refl _) _).alloc (by simp) _).trans (hb1.mono (by simp; omega))).drew.trans (hb2.mono (by simp; omega))).setCell (by simp) _).setCell (by simp) _
        · have hv : cutS st xs now = (now, xs.drop (now - st).toNat) := by
            unfold cutS
            rw [LX.out, if_neg (by simp [hp]; omega), if_neg h2]
          have HV := Lib.hid hv
          have HP := Lib.hid hp
          have hlen : (xs.drop (now - st).toNat).length = n - (now - st).toNat := by rw [List.length_drop, LX.out]
          have HLEN := Lib.hid hlen
          clear hv hp h0 hlen
          go_enter Try.func22, Try.ntmps22
          go_wp2_with fail
          refine (plain_any _ _ _ _ _ hn).mono ?_
          rintro e w1 ⟨rfl, hb1⟩
          rw [HP.out]
          have b1 := ((Blk.new w 35 #[.int .i64 st, .slice A n c]).alloc (.cells #[.int .i64 0, .slice none 0 0] 35)).below hb1 (by simp; omega)
          have b2 : Blk w1 (w.heap.size + 1) 35 #[.int .i64 0, .slice none 0 0] := (Blk.new_ (by simp) _ _).below hb1 (by simp)
          obtain ⟨k10, k11, f10, f11⟩ := b1.c2
          obtain ⟨k20, k21, f20, f21⟩ := b2.c2
          go_wp2_with fail
          refine (clone_any _ _ _ (ints (xs.drop (now - st).toNat)) _ ?_ (ints_one _) (by omega)).mono ?_
          · have hz := hb1.size
            simp only [World.size_alloc] at hz
            have := ((((HX.out.alloc (Nat.le_refl _) _).alloc (by simp) _).below (hb1.mono (by simp; omega))).more (B' := w1.heap.size) (by omega)).drop (k := (now - st).toNat) (by omega)
            simpa [ints, List.map_drop] using this
          rintro e w2 ⟨A', c', rfl, ho, hb2⟩
          have hz := hb1.size
          simp only [World.size_alloc] at hz
          have b12 := b1.below hb2 (by omega)
          have b22 := b2.below hb2 (by omega)
          obtain ⟨q10, q11, -, -⟩ := b12.c2
          obtain ⟨q20, q21, r20, r21⟩ := b22.c2
          go_wp2_with fail
          refine bodyPost_ret (results_cell_row rfl _ _ (w.heap.size + 1) 35 #[.int .i64 now, .slice A' (n - (now - st).toNat) c'] (0, 0) _ rfl ((b22.set_ 0 _).set_ 1 _) Try.underlying35 rfl (by kernel_rfl)) rfl ⟨A', c', by rw [HV.out]; simp only [HLEN.out], ?_, ?_⟩
          · rw [HV.out]
            simp only [HLEN.out]
            have hg : blockOf A' ≠ some (w.heap.size + 1) := ho.apartBlk b22 (by decide)
            exact ((ho.mono (by omega)).far hg _).far hg _
          · exact ((((((Below.refl _ w).alloc (Nat.le_refl _) _).alloc (by simp) _).trans (hb1.mono (by simp; omega))).trans (hb2.mono (by omega))).setCell (by simp) _).setCell (by simp) _
  · have hp' : plainB st n = false := by simpa using hp
    have hv : cutS st xs now = (0, []) := by unfold cutS; rw [LX.out, if_pos (.inl hp')]
    have HV := Lib.hid hv
    have HP := Lib.hid hp'
    clear hv hp hp'
    go_enter Try.func22, Try.ntmps22
    go_wp2_with fail
    refine (plain_any _ _ _ _ _ hn).mono ?_
    rintro e w1 ⟨rfl, hb1⟩
    rw [HP.out]
    have b1 := ((Blk.new w 35 #[.int .i64 st, .slice A n c]).alloc (.cells #[.int .i64 0, .slice none 0 0] 35)).below hb1 (by simp; omega)
    have b2 : Blk w1 (w.heap.size + 1) 35 #[.int .i64 0, .slice none 0 0] := (Blk.new_ (by simp) _ _).below hb1 (by simp)
    obtain ⟨k10, k11, f10, f11⟩ := b1.c2
    obtain ⟨k20, k21, f20, f21⟩ := b2.c2
    go_wp2_with fail
    refine bodyPost_ret (results_cell_row rfl _ _ (w.heap.size + 1) 35 #[.int .i64 0, .slice none 0 0] (0, 0) _ rfl ((b2.set_ 0 _).set_ 1 _) Try.underlying35 rfl (by kernel_rfl)) rfl ⟨none, 0, by rw [HV.out]; rfl, ?_, ?_⟩
    · rw [HV.out]
      exact Own.nil_ _ _ _ _
    · exact ((((Below.refl _ w).alloc (Nat.le_refl _) _).alloc (by simp) _).trans (hb1.mono (by simp; omega))).setCell (by simp) _ |>.setCell (by simp) _

set_option maxHeartbeats 1000000 in
theorem route_any (g : Nat) (r : Int) (f : Nat → Rob) (xs : List Int) (now : Int) (w : World) (h0 : 0 ≤ r) (hr : r < 16) (ht : Tab w g f) (hx : Reads w w.heap.size 1 (f r.toNat).ra (f r.toNat).rn (ints xs)) (hn : (f r.toNat).rn ≤ 17592186044415) (hc : (f r.toNat).rn ≤ (f r.toNat).rc) (hcm : (f r.toNat).rc ≤ maxLen) :
    Calls Try.prog 17 #[.pointer (some ⟨g, 0, none⟩), .int .i64 r, .int .i64 now] w fun e w' => ∃ A' c', e = .returned (.agg #[.int .i64 (cutS (f r.toNat).st xs now).1, .slice A' (cutS (f r.toNat).st xs now).2.length c']) ∧ Own w' w.heap.size 3 1 A' (cutS (f r.toNat).st xs now).2.length c' (ints (cutS (f r.toNat).st xs now).2) ∧ Below w.heap.size w w' := by
  obtain ⟨r, rfl⟩ := Int.eq_ofNat_of_zero_le h0
  rw [Int.toNat_natCast] at *
  have hrn : r < 16 := by omega
  have hlt := Blk.lt ht
  have htA : Tab (w.alloc (.cells #[.int .i64 0, .slice none 0 0] 35)) g f := Blk.alloc ht _
  obtain ⟨-, -, c2, c3, -⟩ := htA.all r hrn
  have hr1 : (r : Int) < 16 := by omega
  have hr0 : (0 : Int) ≤ (r : Int) := by omega
  clear htA ht
  generalize hst : (f r).st = st at *
  generalize hA : (f r).ra = A at *
  generalize hN : (f r).rn = n at *
  generalize hC : (f r).rc = c at *
  clear hst hA hN hC
  generalize hcut : cutS st xs now = q at *
  have HQ := Lib.hid hcut
  have HX := Lib.hid hx
  clear hcut hx
  go_enter Try.func17, Try.ntmps17
  go_wp2_with (go_at_call 19; refine (is_yes _ _ (by omega)).mono ?_; rintro e w' ⟨rfl, rfl⟩)
  refine (cut_any st A n c xs now _ ((HX.out.alloc (Nat.le_refl _) _).more (by simp)) hn hc hcm).mono ?_
  rw [HQ.out]
  rintro e w1 ⟨A', c', rfl, ho, hb1⟩
  have b1 := (Blk.new w 35 #[.int .i64 0, .slice none 0 0]).below hb1 (by simp)
  obtain ⟨k10, k11, f10, f11⟩ := b1.c2
  go_wp2_with fail
  refine bodyPost_ret (results_cell_row rfl _ _ w.heap.size 35 #[.int .i64 q.1, .slice A' q.2.length c'] (0, 0) _ rfl ((b1.set_ 0 _).set_ 1 _) Try.underlying35 rfl (by kernel_rfl)) rfl ⟨A', c', rfl, ?_, ?_⟩
  · have hg : blockOf A' ≠ some w.heap.size := ho.apartBlk b1 (by decide)
    exact ((ho.mono (by simp)).far hg _).far hg _
  · exact ((((Below.refl _ w).alloc (Nat.le_refl _) _).trans (hb1.mono (by simp))).setCell (by simp) _).setCell (by simp) _
end Go.Proofs.Ytgkibmdkhldnpaa
