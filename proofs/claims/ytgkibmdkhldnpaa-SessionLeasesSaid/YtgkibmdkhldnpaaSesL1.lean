/-
  PROVED HERE: SessionLeases: for every input the law of layer 19 answers true and its input reads as before: a lease that is beaten in time never ends, and sixteen ticks behind its last beat it is over. No conditions.
-/
import Derived.Test.YtgkibmdkhldnpaaSesA
import Derived.Test.YtgkibmdkhldnpaaLibA
import Derived.ProofKit
namespace Go.Proofs.Ytgkibmdkhldnpaa
open Go.ChangeShapes Go.WideShapes Go.ChangeAt Go.RowKit

theorem cells_int : Try.prog.cellsOf 3 = 1 := by kernel_rfl

/-- Between two rounds: the robot's epoch is 1 and its lease began now. -/
def LeaseInv (g r : Nat) (now : Int) (w : World) : Prop := ∃ f, Tab w g f ∧ (f r).dl = now + 16 ∧ (f r).ep = 1

set_option maxHeartbeats 1000000 in
theorem leases_walk (r from_ : Int) (A : Option Addr) (n c : Nat) (w : World) (hn : n ≤ maxLen) (hg : ∀ k, k < n → ∃ a x, A = some a ∧ a.block < w.heap.size ∧ w.cell? (a.add k) = some (.int .i64 x)) :
    Calls Try.prog 3 #[.int .i64 r, .int .i64 from_, .slice A n c] w fun e w' => e = .returned (.bool true) ∧ Below w.heap.size w w' := by
  unfold maxLen at hn
  go_enter Try.func3, Try.ntmps3
  go_wp2_with fail
  refine (new_any _).mono ?_
  rintro e w1 ⟨rfl, ht1, hb1⟩
  have HT1 := Lib.hid ht1
  clear ht1
  go_wp2_with fail
  refine (awake_any _).mono ?_
  rintro e w2 ⟨rfl, hb2⟩
  have ht2 := HT1.out.upd_ (Upd.of_below (S := fun _ => False) hb2) (fun h => h)
  have HT2 := Lib.hid ht2
  clear ht2
  go_wp2_with fail
  obtain ⟨q, hq, hq0, hq1, -⟩ := umod r 16 (by decide) (by decide)
  obtain ⟨f0, hf0, hf1, hf2, -⟩ := umod from_ 1000000 (by decide) (by decide)
  rw [hq, hf0]
  clear hq hf0
  refine (register_ok _ _ _ _ _ hq0 hq1 (by omega) HT2.out (by decide)).mono ?_
  rintro e w3 ⟨rfl, ht3, ho3⟩
  have hb3 : Below w.heap.size w w3 := (hb1.trans (hb2.mono hb1.size)).trans (ho3.to_below (Nat.le_trans hb1.size hb2.size) (fun k hk e => by omega))
  have HT3 := Lib.hid ht3
  clear ht3 ho3 hb1 hb2 HT1 HT2
  dsimp only
  rw [show Rob.zero.ep + 1 = 1 from rfl]
  have hst : LeaseInv w.heap.size q.toNat f0 w3 := ⟨_, HT3.out, by rw [regT, upd_same]; simp only [untilS]; rw [if_neg (by omega)], by rw [regT, upd_same]; rfl⟩
  clear HT3
  have hq2 : q.toNat < 16 := by omega
  go_wp2_with fail
  go_loopw [8, 11] (fun nv iv wr => ∃ (k : Nat) (now : Int), iv = .int .i64 k ∧ nv = .int .i64 now ∧ k ≤ n ∧ k ≤ 40 ∧ 0 ≤ now ∧ now ≤ 1000000 + 17 * k ∧ LeaseInv w.heap.size q.toNat now wr ∧ Below w.heap.size w wr) (fun _ iv _ => 40 - (intOf iv).toNat)
  case atStart => exact ⟨0, f0, rfl, rfl, by omega, by omega, hf1, by omega, hst, hb3⟩
  case round =>
    obtain ⟨k, now, rfl, rfl, hk, hk40, hnow0, hnow1, hinv, hbr⟩ := hrel
    by_cases hboth : k < n ∧ k < 40
    · obtain ⟨hlt, h40⟩ := hboth
      · obtain ⟨a, x, rfl, hab, hx⟩ := hg k hlt
        have hx' := (hbr.cell (p := a.add k) (by rw [block_of_add]; exact hab)).trans hx
        obtain ⟨d, hd, hd0, hd1, -⟩ := umod x 17 (by decide) (by decide)
        obtain ⟨f, hf, hf1, hf2⟩ := hinv
        have HF1 := Lib.hid hf1
        have HF2 := Lib.hid hf2
        have HF := Lib.hid hf
        clear hf hf1 hf2
        have hchk : checkS (f q.toNat) 1 (now + d) = 0 := by
          simp only [checkS, HF1.out, HF2.out]
          rw [if_neg (by decide)]; simp only [if_true]; rw [if_neg (by omega)]
        have HC := Lib.hid hchk
        clear hchk
        have hun : untilS (now + d) = now + d + 16 := by unfold untilS; rw [if_neg (by omega)]
        have HU := Lib.hid hun
        clear hun
        by_cases hev : k % 2 = 0
        · have he : ((k : Int) % 2 == 0) = true := by rw [beq_iff_eq]; omega
          have he1 : ((k : Int) % 2 == 1) = false := by rw [beq_eq_false_iff_ne]; omega
          clear hev
          go_wp2_with fail
          refine (beat_ok _ _ _ _ _ _ hq0 hq1 (by omega) HF.out HC.out).mono ?_
          rintro e w4 ⟨rfl, ht4, ho4⟩
          have hst4 : LeaseInv w.heap.size q.toNat (now + d) w4 := ⟨_, ht4, by rw [beatT, upd_same]; exact HU.out, by rw [beatT, upd_same]; exact HF2.out⟩
          have hb4 := hbr.trans (ho4.to_below hbr.size (fun k hk e => by omega))
          clear ht4 ho4
          go_wp2_with fail
          go_roundw
          case rel => exact ⟨k + 1, now + d, by go_num, rfl, by omega, by omega, by omega, by omega, hst4, hb4⟩
          case measure => simp [intOf]; omega
        · have he : ((k : Int) % 2 == 0) = false := by rw [beq_eq_false_iff_ne]; omega
          have he1 : ((k : Int) % 2 == 1) = true := by rw [beq_iff_eq]; omega
          clear hev
          go_wp2_with fail
          refine (report_ok _ _ _ _ _ _ _ hq0 hq1 (by omega) HF.out HC.out).mono ?_
          rintro e w4 ⟨rfl, ht4, ho4⟩
          have hst4 : LeaseInv w.heap.size q.toNat (now + d) w4 := ⟨_, ht4, by rw [reportT, upd_same]; exact HU.out, by rw [reportT, upd_same]; exact HF2.out⟩
          have hb4 := hbr.trans (ho4.to_below hbr.size (fun k hk e => by omega))
          clear ht4 ho4
          go_wp2_with fail
          go_roundw
          case rel => exact ⟨k + 1, now + d, by go_num, rfl, by omega, by omega, by omega, by omega, hst4, hb4⟩
          case measure => simp [intOf]; omega
    · obtain ⟨f, hf, hf1, hf2⟩ := hinv
      have HF := Lib.hid hf
      have c1 : checkS (f q.toNat) 1 (now + 16) = 0 := by
        simp only [checkS, hf1, hf2]
        rw [if_neg (by decide)]; simp only [if_true]; rw [if_neg (by omega)]
      have c2 : checkS (f q.toNat) 1 (now + 17) = 191 := by
        simp only [checkS, hf1, hf2]
        rw [if_neg (by decide)]; simp only [if_true]; rw [if_pos (by omega)]
      have C1 := Lib.hid c1
      have C2 := Lib.hid c2
      clear hf hf1 hf2 c1 c2
      have hor : ¬ (k : Int) < n ∨ ((k : Int) < n ∧ ¬ (k : Int) < 40) := by omega
      clear hboth
      rcases hor with h1 | ⟨h1, h2⟩
      all_goals
        go_wp2_with fail
        refine (check_any _ _ _ _ _ _ hq0 hq1 HF.out).mono ?_
        rintro e w4 ⟨rfl, rfl⟩
        rw [C1.out]
        go_wp2_with fail
        refine (check_any _ _ _ _ _ _ hq0 hq1 HF.out).mono ?_
        rintro e w4 ⟨rfl, rfl⟩
        rw [C2.out]
        go_wp2_with fail
        refine (beat_no _ _ _ _ _ _ hq0 hq1 HF.out (by rw [C2.out]; decide)).mono ?_
        rintro e w4 ⟨rfl, rfl⟩
        rw [C2.out]
        go_wp2_with fail
        refine (check_any _ _ _ _ _ _ hq0 hq1 HF.out).mono ?_
        rintro e w4 ⟨rfl, rfl⟩
        rw [C1.out]
        go_wp2_with fail
        go_ret
        exact ⟨rfl, hbr⟩

theorem leases_vals (W : World) (args : Array Value) (hv : Vals Try.prog W [3, 3, 22] args.toList) :
    Calls Try.prog 3 args W fun e W' => e = .returned (.bool true) ∧ Below W.heap.size W W' := by
  obtain ⟨v0, r0, e0, h0, v1, r1, rfl, h1, v2, r2, rfl, h2, rfl⟩ := hv
  obtain rfl : args = #[v0, v1, v2] := by cases args; simp_all
  obtain ⟨x0, rfl, _⟩ := val_int Try.underlying3 h0
  obtain ⟨x1, rfl, _⟩ := val_int Try.underlying3 h1
  rcases val_slice Try.underlying22 h2 with rfl | ⟨a, len, cap, rfl, hl, hm, _, hc⟩
  · exact leases_walk _ _ _ _ _ _ (Nat.zero_le _) (fun k hk => absurd hk (Nat.not_lt_zero _))
  · refine leases_walk _ _ _ _ _ _ (by omega) (fun k hk => ?_)
    obtain ⟨m, cs', hl', hj, hcel⟩ := hc k (by omega)
    obtain ⟨x, rfl, _⟩ := cel_int Try.underlying3 hcel
    have := hj 0 (by rw [← hl']; simp)
    rw [cells_int, Nat.mul_one, add_of_add, Nat.add_zero] at this
    exact ⟨a, x, rfl, by have := block_lt_of_cell this; rwa [block_of_add] at this, this⟩

set_option maxRecDepth 100000 in
theorem leases_lifted (os : Os) (started : os.Started) (H : Type) (enc : TypeId × Value → H) :
    ReturnsInHanded {} Try.checked os 3 .any (Rows.sessionLeasesSpec.pre6 enc Try.prog Try.f3 Rows.sessionLeasesRow.domain false) (Rows.sessionLeasesSpec.post enc Try.prog Try.f3 false true false false) :=
  lift_law (C := Try.checked) #[3, 3, 22] (by kernel_rfl) (by kernel_rfl) started (by kernel_rfl) Try.func3
    (ChangeSpec.witness6 (enc := enc) (C := Try.checked) false ⟨#[], #[.int .i64 0, .int .i64 0, .slice none 0 0], []⟩ 8 (by kernel_rfl) (by kernel_rfl) (by kernel_rfl) (by kernel_rfl))
    Try.params3 (by kernel_rfl) rfl rfl Try.underlying4 (fun ds hl => match ds, hl with | [_, _, _], _ => rfl) (fun W args hv => leases_vals W args hv)

theorem leases_holds : Rows.SessionLeasesSaid :=
  OpenClaim.holds_of_wide 3 Try.f3 rfl rfl rfl rfl rfl rfl rfl ⟨rfl, rfl, rfl, rfl, rfl⟩ rfl rfl rfl rfl rfl (by kernel_rfl) Try.func3 (by kernel_rfl)
    (of_decide_eq_true (by kernel_rfl)) (by unfold Func.isWrapper; rw [if_neg (of_decide_eq_false (by kernel_rfl))]; exact ⟨rfl, rfl⟩)
    (fun os started H enc _ => leases_lifted os started H enc)

end Go.Proofs.Ytgkibmdkhldnpaa
