/- walks of session: New, is, until, Check, Beat, Report, Register, Epoch -/
import Derived.Test.YtgkibmdkhldnpaaRows
import Derived.Test.YtgkibmdkhldnpaaSesM
import Derived.WalkSpells
import Derived.WalkLawsBesides
import Derived.StillTailTactics
import Derived.BigQuiet
namespace Go.Proofs.Ytgkibmdkhldnpaa
open Go.RowKit

set_option maxHeartbeats 400000 in
theorem is_yes (r : Int) (w : World) (h : 0 ≤ r ∧ r < 16) :
    Calls Try.prog 19 #[.int .i64 r] w fun e w' => e = .returned (.bool true) ∧ w = w' := by
  obtain ⟨h0, h1⟩ := h
  go_enter Try.func19, Try.ntmps19
  go_wp2
  go_ret
  exact ⟨rfl, rfl⟩

set_option maxHeartbeats 400000 in
theorem is_no (r : Int) (w : World) (h : r < 0 ∨ 16 ≤ r) :
    Calls Try.prog 19 #[.int .i64 r] w fun e w' => e = .returned (.bool false) ∧ w = w' := by
  rcases h with h | h
  · have h' : ¬ 0 ≤ r := by omega
    go_enter Try.func19, Try.ntmps19
    go_wp2
    go_ret
    exact ⟨rfl, rfl⟩
  · have h0 : 0 ≤ r := by omega
    have h' : ¬ r < 16 := by omega
    go_enter Try.func19, Try.ntmps19
    go_wp2
    go_ret
    exact ⟨rfl, rfl⟩

def untilS (now : Int) : Int := if 9223372036854775791 < now then 9223372036854775807 else now + 16

set_option maxHeartbeats 400000 in
theorem until_any (now : Int) (w : World) (hn : -9223372036854775808 ≤ now) :
    Calls Try.prog 20 #[.int .i64 now] w fun e w' => e = .returned (.int .i64 (untilS now)) ∧ w = w' := by
  by_cases h2 : 9223372036854775791 < now
  · go_enter Try.func20, Try.ntmps20
    go_wp2
    go_ret
    exact ⟨ret_int (by unfold untilS; rw [if_pos h2]), rfl⟩
  · go_enter Try.func20, Try.ntmps20
    go_wp2
    go_ret
    exact ⟨ret_int (by unfold untilS; rw [if_neg (by omega)]), rfl⟩

def checkS (x : Rob) (epoch now : Int) : Int := if x.ep = 0 then 4 else if x.ep = epoch then (if x.dl < now then 191 else 0) else 190

set_option maxHeartbeats 400000 in
theorem check_any (g : Nat) (r : Int) (f : Nat → Rob) (epoch now : Int) (w : World) (h0 : 0 ≤ r) (hr : r < 16) (ht : Tab w g f) :
    Calls Try.prog 11 #[.pointer (some ⟨g, 0, none⟩), .int .i64 r, .int .i64 epoch, .int .i64 now] w fun e w' => e = .returned (.int .i64 (checkS (f r.toNat) epoch now)) ∧ w = w' := by
  obtain ⟨r, rfl⟩ := Int.eq_ofNat_of_zero_le h0
  rw [Int.toNat_natCast]
  have h0 := ht.at0 r (by omega)
  have h1 := ht.at1 r (by omega)
  clear ht
  unfold checkS
  generalize (f r).ep = ep at *
  generalize (f r).dl = dl at *
  have goal : ∀ v : Int, v = (if ep = 0 then 4 else if ep = epoch then (if dl < now then 191 else 0) else 190) → Calls Try.prog 11 #[.pointer (some ⟨g, 0, none⟩), .int .i64 r, .int .i64 epoch, .int .i64 now] w fun e w' => e = .returned (.int .i64 v) ∧ w = w' := by
    intro v hv
    have HV := Lib.hid hv
    clear hv
    go_enter Try.func11, Try.ntmps11
    go_wp2_with (go_at_call 19; refine (is_yes _ _ (by omega)).mono ?_; rintro e w' ⟨rfl, rfl⟩)
    all_goals
      go_ret
      refine ⟨ret_int ?_, rfl⟩
      rw [HV.out]
      simp_all
      try omega
  exact goal _ rfl

set_option maxHeartbeats 400000 in
theorem check_out (p : Value) (r epoch now : Int) (w : World) (hr : r < 0 ∨ 16 ≤ r) :
    Calls Try.prog 11 #[p, .int .i64 r, .int .i64 epoch, .int .i64 now] w fun e w' => e = .returned (.int .i64 1) ∧ w = w' := by
  go_enter Try.func11, Try.ntmps11
  go_wp2_with (go_at_call 19; refine (is_no _ _ hr).mono ?_; rintro e w' ⟨rfl, rfl⟩)
  go_ret
  exact ⟨rfl, rfl⟩

/-- The table behind a beat. -/
def beatT (f : Nat → Rob) (r : Int) (now : Int) : Nat → Rob := upd f r.toNat { f r.toNat with dl := untilS now }

set_option maxHeartbeats 400000 in
theorem beat_ok (g : Nat) (r : Int) (f : Nat → Rob) (epoch now : Int) (w : World) (h0 : 0 ≤ r) (hr : r < 16) (hn : -9223372036854775808 ≤ now) (ht : Tab w g f) (hc : checkS (f r.toNat) epoch now = 0) :
    Calls Try.prog 9 #[.pointer (some ⟨g, 0, none⟩), .int .i64 r, .int .i64 epoch, .int .i64 now] w fun e w' => e = .returned (.int .i64 0) ∧ Tab w' g (beatT f r now) ∧ One g w w' := by
  obtain ⟨r, rfl⟩ := Int.eq_ofNat_of_zero_le h0
  unfold beatT
  rw [Int.toNat_natCast] at *
  have h1 := ht.at1 r (by omega)
  have hf := ht.fz (r * 7 + 1)
  have HT := Lib.hid ht
  clear ht
  have HC : Hid (checkS (f r) epoch now = 0) := Lib.hid hc
  clear hc
  go_enter Try.func9, Try.ntmps9
  go_wp2_with (go_at_call 11; refine (check_any _ _ _ _ _ _ h0 hr HT.out).mono ?_; rintro e w' ⟨rfl, rfl⟩; rw [Int.toNat_natCast, HC.out])
  go_still_tail 8, (by kernel_rfl)
  still_call (flip_ (until_any now _ hn))
  repeat still_step
  refine wpStill_nil ?_
  change wpList _ _ _ _ _ w.drew
  go_wp2
  go_ret
  exact ⟨rfl, (HT.out.set_ r 1 (.int .i64 (untilS now)) { f r with dl := untilS now } (by omega) (by omega) rfl (by intro i hi hne; rcases i with _ | _ | _ | _ | _ | _ | _ | i <;> first | rfl | omega)), (One.set (Upd.refl _ _) _ _).drew⟩

set_option maxHeartbeats 400000 in
theorem beat_no (g : Nat) (r : Int) (f : Nat → Rob) (epoch now : Int) (w : World) (h0 : 0 ≤ r) (hr : r < 16) (ht : Tab w g f) (hc : checkS (f r.toNat) epoch now ≠ 0) :
    Calls Try.prog 9 #[.pointer (some ⟨g, 0, none⟩), .int .i64 r, .int .i64 epoch, .int .i64 now] w fun e w' => e = .returned (.int .i64 (checkS (f r.toNat) epoch now)) ∧ w = w' := by
  have HT := Lib.hid ht
  clear ht
  have hc' : (checkS (f r.toNat) epoch now == 0) = false := by simpa using hc
  go_enter Try.func9, Try.ntmps9
  go_wp2_with (go_at_call 11; refine (check_any _ _ _ _ _ _ h0 hr HT.out).mono ?_; rintro e w' ⟨rfl, rfl⟩)
  go_ret
  exact ⟨rfl, rfl⟩

set_option maxHeartbeats 400000 in
theorem beat_out (p : Value) (r epoch now : Int) (w : World) (hr : r < 0 ∨ 16 ≤ r) :
    Calls Try.prog 9 #[p, .int .i64 r, .int .i64 epoch, .int .i64 now] w fun e w' => e = .returned (.int .i64 1) ∧ w = w' := by
  go_enter Try.func9, Try.ntmps9
  go_wp2_with (go_at_call 11; refine (check_out _ _ _ _ _ hr).mono ?_; rintro e w' ⟨rfl, rfl⟩)
  go_ret
  exact ⟨rfl, rfl⟩

theorem zero_tab (w : World) : (zeroValue 55).run Try.prog w = .ok (.agg (tabCells fun _ => Rob.zero)) w := by kernel_rfl

set_option maxHeartbeats 400000 in
theorem new_any (w : World) :
    Calls Try.prog 6 #[] w fun e w' => e = .returned (.pointer (some ⟨w.heap.size, 0, none⟩)) ∧ Tab w' w.heap.size (fun _ => Rob.zero) ∧ Below w.heap.size w w' := by
  have hz := zero_tab
  go_enter Try.func6, Try.ntmps6
  go_wp2
  go_ret
  exact ⟨rfl, Blk.new _ _ _, (Below.refl _ _).alloc (Nat.le_refl _) _⟩

/-- The table behind a report. -/
def reportT (f : Nat → Rob) (r cell now : Int) : Nat → Rob := upd f r.toNat { f r.toNat with dl := untilS now, told := true, cell := cell, tick := now }


set_option maxHeartbeats 1000000 in
theorem report_ok (g : Nat) (r : Int) (f : Nat → Rob) (epoch cell now : Int) (w : World) (h0 : 0 ≤ r) (hr : r < 16) (hn : -9223372036854775808 ≤ now) (ht : Tab w g f) (hc : checkS (f r.toNat) epoch now = 0) :
    Calls Try.prog 10 #[.pointer (some ⟨g, 0, none⟩), .int .i64 r, .int .i64 epoch, .int .i64 cell, .int .i64 now] w fun e w' => e = .returned (.int .i64 0) ∧ Tab w' g (reportT f r cell now) ∧ One g w w' := by
  obtain ⟨r, rfl⟩ := Int.eq_ofNat_of_zero_le h0
  unfold reportT
  rw [Int.toNat_natCast] at *
  have HT := Lib.hid ht
  clear ht
  have HC : Hid (checkS (f r) epoch now = 0) := Lib.hid hc
  clear hc
  have hr1 : (r : Int) < 16 := by omega
  have hr0 : (0 : Int) ≤ (r : Int) := by omega
  go_enter Try.func10, Try.ntmps10
  go_wp2_with fail
  refine (beat_ok _ _ _ _ _ _ h0 hr hn HT.out (by rw [Int.toNat_natCast]; exact HC.out)).mono ?_
  rintro e w1 ⟨rfl, ht1, ho1⟩
  have HO := Lib.hid ho1
  clear ho1
  unfold beatT at ht1
  rw [Int.toNat_natCast] at ht1
  have c4 := ht1.at4 r (by omega)
  have c5 := ht1.at5 r (by omega)
  have c6 := ht1.at6 r (by omega)
  have f4 := ht1.fz (r * 7 + 4)
  have f5 := ht1.fz (r * 7 + 5)
  have f6 := ht1.fz (r * 7 + 6)
  have HT1 := Lib.hid ht1
  clear ht1
  rw [upd_same] at c4 c5 c6
  go_wp2
  go_ret
  have t4 := HT1.out.set_ r 4 (.bool true) { f r with dl := untilS now, told := true } (by omega) (by omega) rfl (by intro i hi hne; rw [upd_same]; rcases i with _ | _ | _ | _ | _ | _ | _ | i <;> first | rfl | omega)
  rw [upd_upd] at t4
  have t5 := t4.set_ r 5 (.int .i64 cell) { f r with dl := untilS now, told := true, cell := cell } (by omega) (by omega) rfl (by intro i hi hne; rw [upd_same]; rcases i with _ | _ | _ | _ | _ | _ | _ | i <;> first | rfl | omega)
  rw [upd_upd] at t5
  have t6 := t5.set_ r 6 (.int .i64 now) { f r with dl := untilS now, told := true, cell := cell, tick := now } (by omega) (by omega) rfl (by intro i hi hne; rw [upd_same]; rcases i with _ | _ | _ | _ | _ | _ | _ | i <;> first | rfl | omega)
  rw [upd_upd] at t6
  exact ⟨rfl, t6, One.set (One.set (One.set HO.out _ _) _ _) _ _⟩

set_option maxHeartbeats 400000 in
theorem report_no (g : Nat) (r : Int) (f : Nat → Rob) (epoch cell now : Int) (w : World) (h0 : 0 ≤ r) (hr : r < 16) (ht : Tab w g f) (hc : checkS (f r.toNat) epoch now ≠ 0) :
    Calls Try.prog 10 #[.pointer (some ⟨g, 0, none⟩), .int .i64 r, .int .i64 epoch, .int .i64 cell, .int .i64 now] w fun e w' => e = .returned (.int .i64 (checkS (f r.toNat) epoch now)) ∧ w = w' := by
  have HT := Lib.hid ht
  clear ht
  have hc' : (checkS (f r.toNat) epoch now == 0) = false := by simpa using hc
  go_enter Try.func10, Try.ntmps10
  go_wp2_with (go_at_call 9; refine (beat_no _ _ _ _ _ _ h0 hr HT.out hc).mono ?_; rintro e w' ⟨rfl, rfl⟩)
  go_ret
  exact ⟨rfl, rfl⟩

set_option maxHeartbeats 400000 in
theorem report_out (p : Value) (r epoch cell now : Int) (w : World) (hr : r < 0 ∨ 16 ≤ r) :
    Calls Try.prog 10 #[p, .int .i64 r, .int .i64 epoch, .int .i64 cell, .int .i64 now] w fun e w' => e = .returned (.int .i64 1) ∧ w = w' := by
  go_enter Try.func10, Try.ntmps10
  go_wp2_with (go_at_call 9; refine (beat_out _ _ _ _ _ hr).mono ?_; rintro e w' ⟨rfl, rfl⟩)
  go_ret
  exact ⟨rfl, rfl⟩

/-- The table behind a registration. -/
def regT (f : Nat → Rob) (r now : Int) : Nat → Rob := upd f r.toNat ⟨(f r.toNat).ep + 1, untilS now, (f r.toNat).st, (f r.toNat).ra, (f r.toNat).rn, (f r.toNat).rc, false, 0, 0⟩

set_option maxHeartbeats 1000000 in
theorem register_ok (g : Nat) (r : Int) (f : Nat → Rob) (now : Int) (w : World) (h0 : 0 ≤ r) (hr : r < 16) (hn : -9223372036854775808 ≤ now) (ht : Tab w g f) (he : 0 ≤ (f r.toNat).ep ∧ (f r.toNat).ep < 9223372036854775807) :
    Calls Try.prog 8 #[.pointer (some ⟨g, 0, none⟩), .int .i64 r, .int .i64 now] w fun e w' => e = .returned (.tuple #[.int .i64 ((f r.toNat).ep + 1), .int .i64 0]) ∧ Tab w' g (regT f r now) ∧ One g w w' := by
  obtain ⟨r, rfl⟩ := Int.eq_ofNat_of_zero_le h0
  unfold regT
  rw [Int.toNat_natCast] at *
  obtain ⟨he0, he1⟩ := he
  have c0 := ht.at0 r (by omega)
  have c1 := ht.at1 r (by omega)
  have c2 := ht.at2 r (by omega)
  have c3 := ht.at3 r (by omega)
  have c4 := ht.at4 r (by omega)
  have c5 := ht.at5 r (by omega)
  have c6 := ht.at6 r (by omega)
  have f0 := ht.fz (r * 7)
  have f1 := ht.fz (r * 7 + 1)
  have f2 := ht.fz (r * 7 + 2)
  have f3 := ht.fz (r * 7 + 3)
  have f4 := ht.fz (r * 7 + 4)
  have f5 := ht.fz (r * 7 + 5)
  have f6 := ht.fz (r * 7 + 6)
  have HT := Lib.hid ht
  clear ht
  have hr1 : (r : Int) < 16 := by omega
  have hr0 : (0 : Int) ≤ (r : Int) := by omega
  go_enter Try.func8, Try.ntmps8
  go_wp2_with (go_at_call 19; refine (is_yes _ _ (by omega)).mono ?_; rintro e w' ⟨rfl, rfl⟩)
  go_still_tail 14, (by kernel_rfl)
  still_call (flip_ (until_any now _ hn))
  repeat still_step
  refine wpStill_nil ?_
  change wpList _ _ _ _ _ w.drew
  go_wp2
  go_ret2
  exact ⟨rfl, (HT.out.put r ⟨(f r).ep + 1, untilS now, (f r).st, (f r).ra, (f r).rn, (f r).rc, false, 0, 0⟩ (by omega)).drew, (One.put (Upd.refl _ _) r ⟨(f r).ep + 1, untilS now, (f r).st, (f r).ra, (f r).rn, (f r).rc, false, 0, 0⟩).drew⟩

set_option maxHeartbeats 400000 in
theorem register_out (p : Value) (r now : Int) (w : World) (hr : r < 0 ∨ 16 ≤ r) :
    Calls Try.prog 8 #[p, .int .i64 r, .int .i64 now] w fun e w' => e = .returned (.tuple #[.int .i64 0, .int .i64 1]) ∧ w = w' := by
  go_enter Try.func8, Try.ntmps8
  go_wp2_with (go_at_call 19; refine (is_no _ _ hr).mono ?_; rintro e w' ⟨rfl, rfl⟩)
  go_ret2
  exact ⟨rfl, rfl⟩

set_option maxHeartbeats 400000 in
theorem epoch_any (g : Nat) (r : Int) (f : Nat → Rob) (w : World) (h0 : 0 ≤ r) (hr : r < 16) (ht : Tab w g f) :
    Calls Try.prog 14 #[.pointer (some ⟨g, 0, none⟩), .int .i64 r] w fun e w' => e = .returned (.int .i64 (f r.toNat).ep) ∧ w = w' := by
  obtain ⟨r, rfl⟩ := Int.eq_ofNat_of_zero_le h0
  rw [Int.toNat_natCast]
  have h0 := ht.at0 r (by omega)
  clear ht
  go_enter Try.func14, Try.ntmps14
  go_wp2_with (go_at_call 19; refine (is_yes _ _ (by omega)).mono ?_; rintro e w' ⟨rfl, rfl⟩)
  go_ret
  exact ⟨rfl, rfl⟩

set_option maxHeartbeats 1000000 in
theorem awake_any (w : World) :
    Calls Try.prog 7 #[] w fun e w' => e = .returned (.bool true) ∧ Below w.heap.size w w' := by
  go_enter Try.func7, Try.ntmps7
  go_wp2_with fail
  refine (new_any _).mono ?_
  rintro e w1 ⟨rfl, ht1, hb1⟩
  have HT1 := Lib.hid ht1
  clear ht1
  go_wp2_with fail
  refine (register_ok _ _ _ _ _ (by decide) (by decide) (by decide) HT1.out (by decide)).mono ?_
  rintro e w2 ⟨rfl, ht2, ho2⟩
  have HT2 := Lib.hid ht2
  clear ht2
  go_wp2_with fail
  refine (check_any _ _ _ _ _ _ (by decide) (by decide) HT2.out).mono ?_
  rintro e w3 ⟨rfl, rfl⟩
  rw [show checkS (regT (fun _ => Rob.zero) 3 5 (3 : Int).toNat) 1 21 = 0 from by decide]
  go_wp2_with fail
  refine (check_any _ _ _ _ _ _ (by decide) (by decide) HT2.out).mono ?_
  rintro e w3 ⟨rfl, rfl⟩
  rw [show checkS (regT (fun _ => Rob.zero) 3 5 (3 : Int).toNat) 1 22 = 191 from by decide]
  go_wp2_with fail
  refine (check_any _ _ _ _ _ _ (by decide) (by decide) HT2.out).mono ?_
  rintro e w3 ⟨rfl, rfl⟩
  rw [show checkS (regT (fun _ => Rob.zero) 3 5 (4 : Int).toNat) 1 5 = 4 from by decide]
  go_wp2
  go_ret
  exact ⟨rfl, hb1.trans (ho2.to_below hb1.size (fun k hk e => by omega))⟩
end Go.Proofs.Ytgkibmdkhldnpaa
